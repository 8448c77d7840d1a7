import Derived.Test.YthiodjlppahmkaaGreatExtPla41
namespace Go.TF.Mf
structure Arc where
 fr : Int
 to : Int
 cap : Int
def sm (A : List Arc) (f : List Int) (w : Arc→Int) : Int:=((A.zip f).map fun p=>w p.1*p.2).sum
def b2 (p : Prop) [Decidable p] : Int:=if p then 1 else 0
def sur (A : List Arc) (f : List Int) (v : Int) : Int:=sm A f fun a=>b2 (a.fr=v)-b2 (a.to=v)
theorem sm_nil (f : List Int) (w : Arc→Int) : sm [] f w=0:=rfl
theorem sm_nil' (A : List Arc) (w : Arc→Int) : sm A [] w=0:=by cases A <;> rfl
theorem sm_cons (a : Arc) (A : List Arc) (x : Int) (f : List Int) (w : Arc→Int) : sm (a::A) (x::f) w=w a*x+sm A f w:=by simp [sm]
theorem sm_congr {A : List Arc} {w w' : Arc→Int} (h : ∀ a ∈ A,w a=w' a) : ∀ f,sm A f w=sm A f w':=by
 induction A with
 | nil=>intro f; rfl
 | cons a A ih =>
  intro f; cases f with
  | nil=>rfl
  | cons x f=>rw [sm_cons,sm_cons,h a (by simp),ih (fun b hb=>h b (by simp [hb]))]
theorem sm_add (A : List Arc) (w w' : Arc→Int) : ∀ f,sm A f (fun a=>w a+w' a)=sm A f w+sm A f w':=by
 induction A with
 | nil=>intro f; rfl
 | cons a A ih =>
  intro f; cases f with
  | nil=>rfl
  | cons x f=>rw [sm_cons,sm_cons,sm_cons,ih]; simp only [Int.add_mul]; omega
theorem sm_mul (A : List Arc) (c : Int) (w : Arc→Int) : ∀ f,sm A f (fun a=>c*w a)=c*sm A f w:=by
 induction A with
 | nil=>intro f; simp [sm]
 | cons a A ih =>
  intro f; cases f with
  | nil=>simp [sm]
  | cons x f=>rw [sm_cons,sm_cons,ih,Int.mul_add,Int.mul_assoc]
theorem sm_zero (A : List Arc) : ∀ f,sm A f (fun _=>0)=0:=by
 induction A with
 | nil=>intro f; rfl
 | cons a A ih =>
  intro f; cases f with
  | nil=>rfl
  | cons x f=>rw [sm_cons,ih]; simp
theorem sm_set (A : List Arc) (w : Arc→Int) (y : Int) : ∀ (f : List Int) (i : Nat) (h : i<A.length) (h' : i<f.length),sm A (f.set i (f[i]+y)) w=sm A f w+w A[i]*y:=by
 induction A with
 | nil=>intro f i h; cases h
 | cons a A ih =>
  intro f i h h'; cases f with
  | nil=>cases h'
  | cons x f=>cases i with
   | zero=>simp only [List.set_cons_zero,List.getElem_cons_zero,sm_cons,Int.mul_add]; omega
   | succ i=>simp only [List.set_cons_succ,List.getElem_cons_succ,sm_cons]; rw [ih f i (by simpa using h) (by simpa using h')]; omega
theorem sur_set (A : List Arc) (f : List Int) (v y : Int) (i : Nat) (h : i<A.length) (h' : i<f.length) : sur A (f.set i (f[i]+y)) v=sur A f v+(b2 (A[i].fr=v)-b2 (A[i].to=v))*y:=sm_set A _ y f i h h'
theorem Afa (φ : Int→Int) (u : Int) : ∀ n : Nat,((List.range n).map fun (v : Nat)=>φ (v : Int)*b2 (u=(v : Int))).sum=if 0≤u∧u<n then φ u else 0:=by
 intro n; induction n with
 | zero=>simp; omega
 | succ n ih =>
  rw [List.range_succ,List.map_append,List.sum_append,ih]
  simp only [List.map_cons,List.map_nil,List.sum_cons,List.sum_nil,b2]
  by_cases h : u=(n : Int)
  ·subst h; rw [if_neg (by omega),if_pos rfl,if_pos (by omega)]; simp
  ·rw [if_neg h]
   by_cases h' : 0≤u∧u<n
   ·rw [if_pos h',if_pos (by omega)]; simp
   ·rw [if_neg h',if_neg (by omega)]; simp
theorem AiW {α : Type} (l : List α) (g h : α→Int) : (l.map fun x=>g x+h x).sum=(l.map g).sum+(l.map h).sum:=by
 induction l with
 | nil=>rfl
 | cons a l ih=>simp only [List.map_cons,List.sum_cons,ih]; omega
theorem Afb {α : Type} (l : List α) : (l.map fun _=>(0 : Int)).sum=0:=by
 induction l with
 | nil=>rfl
 | cons a l ih=>simp only [List.map_cons,List.sum_cons,ih]; rfl
theorem AkR {α : Type} (l : List α) (g h : α→Int) (e : ∀ x ∈ l,g x=h x) : (l.map g).sum=(l.map h).sum:=by rw [List.map_congr_left e]
theorem As0 (n : Nat) (φ : Int→Int) (A : List Arc) (hA : ∀ a ∈ A,0≤a.fr∧a.fr<n∧0≤a.to∧a.to<n) : ∀ f,((List.range n).map fun (v : Nat)=>φ (v : Int)*sur A f (v : Int)).sum=sm A f fun a=>φ a.fr-φ a.to:=by
 induction A with
 | nil=>intro f; simp [sur,sm_nil,Afb]
 | cons a A ih =>
  intro f; cases f with
  | nil=>simp [sur,sm_nil',Afb]
  | cons x f =>
   have ha:=hA a (by simp)
   rw [sm_cons,← ih (fun b hb=>hA b (by simp [hb])) f]
   have e : (fun (v : Nat)=>φ (v : Int)*sur (a::A) (x::f) (v : Int))=fun (v : Nat)=>(x*(φ (v : Int)*b2 (a.fr=(v : Int)))+(-x)*(φ (v : Int)*b2 (a.to=(v : Int))))+φ (v : Int)*sur A f (v : Int):=by
    funext v
    simp only [sur,sm_cons,Int.mul_add,Int.sub_mul,Int.mul_sub,Int.neg_mul]
    rw [Int.mul_comm x (φ _*_),Int.mul_comm x (φ _*_),Int.mul_assoc,Int.mul_assoc]; omega
   rw [e,AiW,AiW]
   have hm : ∀ (c : Int) (g : Nat→Int) (l : List Nat),(l.map fun v=>c*g v).sum=c*(l.map g).sum:=by
    intro c g l; induction l with
    | nil=>simp
    | cons b l ih=>simp only [List.map_cons,List.sum_cons,ih,Int.mul_add]
   rw [hm,hm,Afa,Afa,if_pos ⟨ha.1,ha.2.1⟩,if_pos ⟨ha.2.2.1,ha.2.2.2⟩,Int.sub_mul,Int.neg_mul,Int.mul_comm x,Int.mul_comm x]; omega
structure Net (n : Nat) (A : List Arc) : Prop where
 two : 2≤n
 rng : ∀ a ∈ A,0≤a.fr∧a.fr<n∧0≤a.to∧a.to<n
 src : ∀ a ∈ A,a.to≠0
 snk : ∀ a ∈ A,a.fr≠1
 cap : ∀ a ∈ A,0≤a.cap
structure Flow (n : Nat) (A : List Arc) (f : List Int) : Prop where
 len : f.length=A.length
 lo : ∀ (i : Nat) (h : i<f.length),0≤f[i]
 hi : ∀ (i : Nat) (h : i<f.length) (h' : i<A.length),f[i]≤A[i].cap
 zero : ∀ v : Int,v≠0→v≠1→sur A f v=0
def val (A : List Arc) (f : List Int) : Int:=sur A f 0
def capS (A : List Arc) (S : Int→Bool) : Int:=(A.map fun a=>b2 (S a.fr=true∧S a.to=false)*a.cap).sum
variable {n : Nat} {A : List Arc}
theorem val_side (hN : Net n A) {f : List Int} (hf : Flow n A f) (S : Int→Bool) (h0 : S 0=true) (h1 : S 1=false) : val A f=sm A f fun a=>b2 (S a.fr=true)-b2 (S a.to=true):=by
 have h:=As0 n (fun v=>b2 (S v=true)) A hN.rng f
 rw [← h]
 have h2:=hN.two
 obtain ⟨m,rfl⟩ : ∃ m,n=m+2:=⟨n-2,by omega⟩
 rw [List.range_succ_eq_map,List.range_succ_eq_map]
 simp only [List.map_cons,List.map_map,List.sum_cons]
 rw [AkR _ _ (fun _=>0),Afb]
 ·simp [b2,h0,h1,val]
 ·intro x _
  simp only [Function.comp]
  rw [hf.zero _ (by omega) (by omega)]; simp
theorem As4 (S : Int→Bool) : ∀ {A : List Arc} {f : List Int},f.length=A.length→(∀ (i : Nat) (h : i<f.length),0≤f[i])→(∀ (i : Nat) (h : i<f.length) (h' : i<A.length),f[i]≤A[i].cap)→(sm A f fun a=>b2 (S a.fr=true)-b2 (S a.to=true))≤capS A S:=by
 intro A; induction A with
 | nil=>intro f h _ _; simp [sm,capS]
 | cons a A ih =>
  intro f h hl hh; cases f with
  | nil=>cases h
  | cons x f =>
   have i1:=ih (f:=f) (by simpa using h) (fun i hi=>by have:=hl (i+1) (by simpa using hi); simpa using this) (fun i hi h'=>by have:=hh (i+1) (by simpa using hi) (by simpa using h'); simpa using this)
   have x0:=hl 0 (by simp); have xc:=hh 0 (by simp) (by simp)
   simp only [List.getElem_cons_zero] at x0 xc
   rw [sm_cons]; simp only [capS,List.map_cons,List.sum_cons] at i1 ⊢
   have : (b2 (S a.fr=true)-b2 (S a.to=true))*x≤b2 (S a.fr=true∧S a.to=false)*a.cap:=by
    cases hs : S a.fr <;> cases ht : S a.to <;> simp [b2] <;> omega
   omega
theorem val_le (hN : Net n A) {f : List Int} (hf : Flow n A f) (S : Int→Bool) (h0 : S 0=true) (h1 : S 1=false) : val A f≤capS A S:=by
 rw [val_side hN hf S h0 h1]; exact As4 S hf.len hf.lo hf.hi
def Closed (A : List Arc) (f : List Int) (S : Int→Bool) : Prop:=∀ (i : Nat) (h : i<A.length) (h' : i<f.length),(S A[i].fr=true→S A[i].to=false→f[i]=A[i].cap)∧(S A[i].to=true→S A[i].fr=false→f[i]=0)
theorem As5 (S : Int→Bool) : ∀ {A : List Arc} {f : List Int},f.length=A.length→Closed A f S→(sm A f fun a=>b2 (S a.fr=true)-b2 (S a.to=true))=capS A S:=by
 intro A; induction A with
 | nil=>intro f h _; simp [sm,capS]
 | cons a A ih =>
  intro f h hc; cases f with
  | nil=>cases h
  | cons x f =>
   have i1:=ih (f:=f) (by simpa using h) (fun i hi h'=>by have:=hc (i+1) (by simpa using hi) (by simpa using h'); simpa using this)
   have x0:=hc 0 (by simp) (by simp)
   simp only [List.getElem_cons_zero] at x0
   rw [sm_cons]; simp only [capS,List.map_cons,List.sum_cons] at i1 ⊢
   have : (b2 (S a.fr=true)-b2 (S a.to=true))*x=b2 (S a.fr=true∧S a.to=false)*a.cap:=by
    cases hs : S a.fr <;> cases ht : S a.to <;> simp [b2]
    ·exact x0.2 ht hs
    ·exact x0.1 hs ht
   omega
theorem AoV (hN : Net n A) {f : List Int} (hf : Flow n A f) (S : Int→Bool) (h0 : S 0=true) (h1 : S 1=false) (hc : Closed A f S) : val A f=capS A S:=by
 rw [val_side hN hf S h0 h1]; exact As5 S hf.len hc
end Go.TF.Mf
namespace Go.TF.Mf
abbrev Step:=Nat×Bool
def arc (A : List Arc) (i : Nat) : Arc:=A.getD i ⟨0,0,0⟩
def stTo (A : List Arc) (s : Step) : Int:=if s.2 then (arc A s.1).fr else (arc A s.1).to
def stFr (A : List Arc) (s : Step) : Int:=if s.2 then (arc A s.1).to else (arc A s.1).fr
def room (A : List Arc) (f : List Int) (s : Step) : Int:=if s.2 then f.getD s.1 0 else (arc A s.1).cap-f.getD s.1 0
def AsL (A : List Arc) : Int→List Step→Int→Prop
 | s,[],t=>s=t
 | s,st::l,t=>st.1<A.length∧stTo A st=t∧AsL A s l (stFr A st)
def push1 (f : List Int) (x : Int) (s : Step) : List Int:=f.set s.1 (f.getD s.1 0+if s.2 then -x else x)
def push (f : List Int) (x : Int) (l : List Step) : List Int:=l.foldl (fun g s=>push1 g x s) f
variable {A : List Arc}
theorem Afh (f : List Int) (x : Int) (s : Step) : (push1 f x s).length=f.length:=by simp [push1]
theorem push_len (x : Int) : ∀ (l : List Step) (f : List Int),(push f x l).length=f.length:=by
 intro l; induction l with
 | nil=>intro f; rfl
 | cons s l ih=>intro f; rw [show push f x (s::l)=push (push1 f x s) x l from rfl,ih,Afh]
theorem ApI (f : List Int) (x v : Int) (s : Step) (h : s.1<A.length) (h' : f.length=A.length) : sur A (push1 f x s) v=sur A f v+(b2 (stFr A s=v)-b2 (stTo A s=v))*x:=by
 have:=sur_set A f v (if s.2 then -x else x) s.1 h (by omega)
 have e : f.getD s.1 0=f[s.1]'(by omega):=by rw [List.getD_eq_getElem?_getD,List.getElem?_eq_getElem (by omega)]; rfl
 have e2 : arc A s.1=A[s.1]:=by unfold arc; rw [List.getD_eq_getElem?_getD,List.getElem?_eq_getElem h]; rfl
 rw [push1,e,this]
 cases hb : s.2 <;> simp [stFr,stTo,hb,e2,Int.sub_mul,Int.mul_neg] <;> omega
theorem Ang (x v : Int) : ∀ (l : List Step) (f : List Int) (s t : Int),f.length=A.length→AsL A s l t→sur A (push f x l) v=sur A f v+(b2 (s=v)-b2 (t=v))*x:=by
 intro l; induction l with
 | nil=>rintro f s t h rfl; simp [push]
 | cons a l ih =>
  rintro f s t h ⟨h1,rfl,h2⟩
  rw [show push f x (a::l)=push (push1 f x a) x l from rfl,ih _ _ _ (by rw [Afh,h]) h2,ApI f x v a h1 h]
  simp only [Int.sub_mul]; omega
theorem Aif (f : List Int) (x : Int) (s : Step) (i : Nat) (h : s.1<f.length) : (push1 f x s).getD i 0=if i=s.1 then f.getD i 0+(if s.2 then -x else x) else f.getD i 0:=by
 unfold push1
 by_cases e : i=s.1
 ·subst e; rw [if_pos rfl]; simp [List.getD_eq_getElem?_getD,h]
 ·rw [if_neg e]; simp [List.getD_eq_getElem?_getD,List.getElem?_set_ne (fun h=>e h.symm)]
theorem push_get (x : Int) (i : Nat) : ∀ (l : List Step) (f : List Int),(∀ s ∈ l,s.1<f.length)→(∀ s ∈ l,s.1≠i)→(push f x l).getD i 0=f.getD i 0:=by
 intro l; induction l with
 | nil=>intro f _ _; rfl
 | cons a l ih =>
  intro f h h'
  rw [show push f x (a::l)=push (push1 f x a) x l from rfl,ih _ (fun s hs=>by rw [Afh]; exact h s (by simp [hs])) (fun s hs=>h' s (by simp [hs])),Aif f x a i (h a (by simp)),if_neg (fun e=>h' a (by simp) e.symm)]
theorem Apc (x : Int) : ∀ (l : List Step) (f : List Int),(∀ s ∈ l,s.1<f.length)→(l.map (·.1)).Nodup→∀ s ∈ l,(push f x l).getD s.1 0=f.getD s.1 0+(if s.2 then -x else x):=by
 intro l; induction l with
 | nil=>intro f _ _ s hs; cases hs
 | cons a l ih =>
  intro f h hn s hs
  simp only [List.map_cons,List.nodup_cons] at hn
  rw [show push f x (a::l)=push (push1 f x a) x l from rfl]
  rcases List.mem_cons.1 hs with rfl | hs
  ·rw [push_get x s.1 l _ (fun s hs=>by rw [Afh]; exact h s (by simp [hs])) (fun b hb e=>hn.1 (List.mem_map.2 ⟨b,hb,e⟩)),Aif f x s s.1 (h s (by simp)),if_pos rfl]
  ·rw [ih _ (fun s hs=>by rw [Afh]; exact h s (by simp [hs])) hn.2 s hs,Aif f x a s.1 (h a (by simp)),if_neg (fun e=>hn.1 (List.mem_map.2 ⟨s,hs,e⟩))]
theorem getD_getElem {α : Type} (l : List α) (d : α) (i : Nat) (h : i<l.length) : l[i]=l.getD i d:=by
 rw [List.getD_eq_getElem?_getD,List.getElem?_eq_getElem h]; rfl
theorem Apd {n : Nat} {f : List Int} (hf : Flow n A f) (x : Int) (hx : 0≤x) (l : List Step) (hn : (l.map (·.1)).Nodup) (hw : AsL A 0 l 1) (hr : ∀ s ∈ l,s.1<A.length∧x≤room A f s) : Flow n A (push f x l)∧val A (push f x l)=val A f+x:=by
 have hl : ∀ s ∈ l,s.1<f.length:=fun s hs=>by rw [hf.len]; exact (hr s hs).1
 have key : ∀ i,i<f.length→0≤(push f x l).getD i 0∧(push f x l).getD i 0≤(arc A i).cap:=by
  intro i hi
  have l0:=hf.lo i hi; have h0:=hf.hi i hi (by rw [← hf.len]; exact hi)
  rw [getD_getElem f 0 i hi] at l0 h0
  rw [getD_getElem A ⟨0,0,0⟩ i (by rw [← hf.len]; exact hi)] at h0
  by_cases e : ∃ s ∈ l,s.1=i
  ·obtain ⟨s,hs,rfl⟩:=e
   rw [Apc x l f hl hn s hs]
   have:=(hr s hs).2
   unfold room at this; unfold arc at this ⊢
   cases hb : s.2 <;> simp [hb] at this ⊢ <;> simp at l0 h0 <;> omega
  ·rw [push_get x i l f hl (fun s hs e'=>e ⟨s,hs,e'⟩)]
   exact ⟨l0,h0⟩
 refine ⟨⟨by rw [push_len,hf.len],fun i hi=>?_,fun i hi h'=>?_,fun v h0 h1=>?_⟩,?_⟩
 ·rw [push_len] at hi; rw [getD_getElem _ 0]; exact (key i hi).1
 ·rw [push_len] at hi; rw [getD_getElem _ 0,getD_getElem A ⟨0,0,0⟩ i h']; exact (key i hi).2
 ·rw [Ang x v l f 0 1 hf.len hw,hf.zero v h0 h1]; simp [b2,h0.symm,h1.symm]
 ·unfold val; rw [Ang x 0 l f 0 1 hf.len hw]; simp [b2]
def Disc (A : List Arc) (f : List Int) : List (Int×Step)→Prop
 | []=>True
 | (v,s)::V=>v≠0∧v ∉ V.map (·.1)∧s.1<A.length∧stTo A s=v∧(stFr A s=0∨stFr A s ∈ V.map (·.1))∧0<room A f s∧Disc A f V
theorem disc_mem {f : List Int} : ∀ {V : List (Int×Step)},Disc A f V→∀ p ∈ V,p.1≠0∧p.2.1<A.length∧stTo A p.2=p.1∧(stFr A p.2=0∨stFr A p.2 ∈ V.map (·.1))∧0<room A f p.2:=by
 intro V; induction V with
 | nil=>intro _ p hp; cases hp
 | cons q V ih =>
  rintro ⟨h1,h2,h3,h4,h5,h6,h7⟩ p hp
  rcases List.mem_cons.1 hp with rfl | hp
  ·refine ⟨h1,h3,h4,?_,h6⟩
   rcases h5 with h | h
   ·exact .inl h
   ·exact .inr (by simp at h ⊢; exact .inr h)
  ·obtain ⟨a,b,c,d,e⟩:=ih h7 p hp
   refine ⟨a,b,c,?_,e⟩
   rcases d with h | h
   ·exact .inl h
   ·exact .inr (by simp at h ⊢; exact .inr h)
theorem disc_nodup {f : List Int} : ∀ {V : List (Int×Step)},Disc A f V→(V.map (·.1)).Nodup∧(V.map (·.2.1)).Nodup:=by
 intro V; induction V with
 | nil=>intro _; simp
 | cons q V ih =>
  obtain ⟨v,s⟩:=q
  rintro ⟨h1,h2,h3,h4,h5,h6,h7⟩
  obtain ⟨i1,i2⟩:=ih h7
  refine ⟨by simp only [List.map_cons,List.nodup_cons]; exact ⟨h2,i1⟩,?_⟩
  simp only [List.map_cons,List.nodup_cons]
  refine ⟨fun hm=>?_,i2⟩
  obtain ⟨⟨w,t⟩,hq,e⟩:=List.mem_map.1 hm
  obtain ⟨a,b,c,d,_⟩:=disc_mem h7 _ hq
  simp only at e a b c d
  have hv : v ∈ V.map (·.1):=by
   by_cases hb : t.2=s.2
   ·have : t=s:=Prod.ext e hb
    subst this; rw [← h4,c]; exact List.mem_map_of_mem (f:=(·.1)) hq
   ·have : stFr A t=stTo A s:=by
     unfold stFr stTo; rw [e]; cases h : t.2 <;> cases h' : s.2 <;> simp [h,h'] at hb ⊢
    rw [h4] at this
    rcases d with h | h
    ·exact absurd (this ▸ h) h1
    ·rw [this] at h; exact h
  exact h2 hv
def pathOf (A : List Arc) : List (Int×Step)→Int→List Step
 | [],_=>[]
 | (v,s)::V,t=>if t=v then s::pathOf A V (stFr A s) else pathOf A V t
theorem pathOf_sub (A : List Arc) : ∀ (V : List (Int×Step)) (t : Int),(pathOf A V t).Sublist (V.map (·.2)):=by
 intro V; induction V with
 | nil=>intro t; exact .slnil
 | cons q V ih =>
  obtain ⟨v,s⟩:=q
  intro t; unfold pathOf; split
  ·exact .cons_cons _ (ih _)
  ·exact .cons _ (ih _)
theorem pathOf_zero {f : List Int} : ∀ {V : List (Int×Step)},Disc A f V→pathOf A V 0 = []:=by
 intro V; induction V with
 | nil=>intro _; rfl
 | cons q V ih =>
  obtain ⟨v,s⟩:=q
  rintro ⟨h1,h2,h3,h4,h5,h6,h7⟩
  unfold pathOf; rw [if_neg (fun e=>h1 e.symm),ih h7]
theorem Aoe {f : List Int} : ∀ {V : List (Int×Step)},Disc A f V→∀ t,t=0∨t ∈ V.map (·.1)→AsL A 0 (pathOf A V t) t:=by
 intro V; induction V with
 | nil=>intro _ t h; rcases h with rfl | h; rfl; cases h
 | cons q V ih =>
  obtain ⟨v,s⟩:=q
  rintro ⟨h1,h2,h3,h4,h5,h6,h7⟩ t h
  unfold pathOf; split
  ·subst t; exact ⟨h3,h4,ih h7 _ h5⟩
  ·rename_i hne
   exact ih h7 t (by rcases h with h | h; exact .inl h; simp [hne] at h; exact .inr (by simpa using h))
theorem disc_push {n : Nat} {f : List Int} (hf : Flow n A f) {V : List (Int×Step)} (hd : Disc A f V) (h1 : 1 ∈ V.map (·.1)) (x : Int) (hx : 0≤x) (hr : ∀ s ∈ pathOf A V 1,x≤room A f s) : Flow n A (push f x (pathOf A V 1))∧val A (push f x (pathOf A V 1))=val A f+x:=by
 refine Apd hf x hx _ ?_ (Aoe hd 1 (.inr h1)) fun s hs=>⟨?_,hr s hs⟩
 ·have:=(pathOf_sub A V 1).map (·.1)
  rw [List.map_map] at this
  exact this.nodup (disc_nodup hd).2
 ·obtain ⟨p,hp,rfl⟩:=List.mem_map.1 ((pathOf_sub A V 1).subset hs)
  exact (disc_mem hd p hp).2.1
theorem path_room {f : List Int} {V : List (Int×Step)} (hd : Disc A f V) (t : Int) : ∀ s ∈ pathOf A V t,s.1<A.length∧0<room A f s:=by
 intro s hs
 obtain ⟨p,hp,rfl⟩:=List.mem_map.1 ((pathOf_sub A V t).subset hs)
 have:=disc_mem hd p hp; exact ⟨this.2.1,this.2.2.2.2⟩
theorem disc_closed {n : Nat} {f : List Int} (hf : Flow n A f) {V : List (Int×Step)} (hc : ∀ s : Step,s.1<A.length→(stFr A s=0∨stFr A s ∈ V.map (·.1))→0<room A f s→stTo A s=0∨stTo A s ∈ V.map (·.1)) : Closed A f fun v=>decide (v=0∨v ∈ V.map (·.1)):=by
 intro i hi hi'
 have hl:=hf.lo i hi'; have hh:=hf.hi i hi' hi
 have e1 : arc A i=A[i]:=(getD_getElem A _ i hi).symm
 have e2:=getD_getElem f 0 i hi'
 constructor
 ·intro p q
  rw [decide_eq_true_iff] at p; rw [decide_eq_false_iff_not] at q
  have:=hc (i,false) hi (by simpa [stFr,e1] using p)
  simp only [room,stTo,e1,Bool.false_eq_true,if_false,← e2] at this
  by_cases h : f[i]=A[i].cap
  ·exact h
  ·exact absurd (this (by omega)) q
 ·intro p q
  rw [decide_eq_true_iff] at p; rw [decide_eq_false_iff_not] at q
  have:=hc (i,true) hi (by simpa [stFr,e1] using p)
  simp only [room,stTo,e1,if_true,← e2] at this
  by_cases h : f[i]=0
  ·exact h
  ·exact absurd (this (by omega)) q
end Go.TF.Mf
namespace Go.TF.Mf
variable {A : List Arc}
theorem out_arc (v : Int) : ∀ {A : List Arc} {f : List Int},f.length=A.length→(∀ (i : Nat) (h : i<f.length),0≤f[i])→1≤sur A f v→∃ i,i<A.length∧(arc A i).fr=v∧1≤f.getD i 0:=by
 intro A; induction A with
 | nil=>intro f _ _ h; simp [sur,sm] at h
 | cons a A ih =>
  intro f hl h0 h; cases f with
  | nil=>cases hl
  | cons x f =>
   have x0:=h0 0 (by simp); simp only [List.getElem_cons_zero] at x0
   by_cases e : a.fr=v∧1≤x
   ·exact ⟨0,by simp,by simpa [arc] using e.1,by simpa using e.2⟩
   ·have : (b2 (a.fr=v)-b2 (a.to=v))*x≤0:=by
     by_cases e1 : a.fr=v
     ·have : x=0:=by have : ¬ 1≤x:=fun h=>e ⟨e1,h⟩
                     omega
      subst this; simp
     ·by_cases e2 : a.to=v <;> simp [b2,e1,e2] <;> omega
    unfold sur at h; rw [sm_cons] at h
    obtain ⟨i,h1,h2,h3⟩:=ih (f:=f) (by simpa using hl) (fun i hi=>by have:=h0 (i+1) (by simpa using hi); simpa using this) (by unfold sur; omega)
    exact ⟨i+1,by simpa using h1,by simpa [arc] using h2,by simpa using h3⟩
theorem capS_nonneg (hc : ∀ a ∈ A,0≤a.cap) (S : Int→Bool) : 0≤capS A S:=by
 unfold capS; induction A with
 | nil=>simp
 | cons a A ih =>
  have:=ih (fun b hb=>hc b (by simp [hb])); have ha:=hc a (by simp)
  simp only [List.map_cons,List.sum_cons]
  have : 0≤b2 (S a.fr=true∧S a.to=false)*a.cap:=Int.mul_nonneg (by unfold b2; split <;> simp) ha
  omega
structure Least (A : List Arc) (v : Int) : Prop where
 is : ∃ S : Int→Bool,S 0=true∧S 1=false∧capS A S=v
 le : ∀ S : Int→Bool,S 0=true→S 1=false→v≤capS A S
theorem least_of {n : Nat} (hN : Net n A) {f : List Int} (hf : Flow n A f) (S : Int→Bool) (h0 : S 0=true) (h1 : S 1=false) (hc : Closed A f S) : Least A (val A f) :=
 ⟨⟨S,h0,h1,(AoV hN hf S h0 h1 hc).symm⟩,fun T t0 t1=>val_le hN hf T t0 t1⟩
theorem Least.mono {B : List Arc} {v w : Int} (hA : Least A v) (hB : Least B w) (h : ∀ S : Int→Bool,S 0=true→S 1=false→capS A S≤capS B S) : v≤w:=by
 obtain ⟨T,t0,t1,e⟩:=hB.is
 have:=hA.le T t0 t1; have:=h T t0 t1; omega
end Go.TF.Mf
set_option linter.unusedVariables false
set_option linter.unusedSimpArgs false
namespace Go.TF
open Go Go.Abs
def ar (A : List AaC) : List Mf.Arc:=A.map fun a=>⟨a.From,a.To,a.Cap⟩
theorem Ab6 (A : List AaC) : (ar A).length=A.length:=by simp [ar]
theorem Ahv {A : List AaC} {i : Nat} (h : i<A.length) : Mf.arc (ar A) i=⟨A[i].From,A[i].To,A[i].Cap⟩:=by
 unfold Mf.arc; rw [List.getD_eq_getElem?_getD,List.getElem?_eq_getElem (by rw [Ab6]; exact h)]; simp [ar]
def okA (N : Int) (a : AaC) : Bool:=decide (0≤a.From∧a.From<N∧0≤a.To∧a.To<N∧a.From≠a.To∧a.To≠0∧a.From≠1∧0≤a.Cap∧a.Cap≤1048576)
def ArF (N : Int) (A : List AaC) : Bool:=decide (2≤N∧N≤130∧A.length≤1200)&&A.all (okA N)
structure NV (N : Nat) (A : List AaC) : Prop where
 two : 2≤N
 n130 : N≤130
 len : A.length≤1200
 ok : ∀ a ∈ A,0≤a.From∧a.From<N∧0≤a.To∧a.To<N∧a.From≠a.To∧a.To≠0∧a.From≠1∧0≤a.Cap∧a.Cap≤1048576
theorem AhE (N : Int) (A : List AaC) : ArF N A=true↔∃ n : Nat,N=n∧NV n A:=by
 unfold ArF
 rw [Bool.and_eq_true,decide_eq_true_eq,List.all_eq_true]
 constructor
 ·rintro ⟨⟨h1,h2,h3⟩,h4⟩
  obtain ⟨n,rfl⟩:=Int.eq_ofNat_of_zero_le (show 0≤N by omega)
  exact ⟨n,rfl,by omega,by omega,h3,fun a ha=>by have:=h4 a ha; unfold okA at this; rw [decide_eq_true_eq] at this; exact this⟩
 ·rintro ⟨n,rfl,h⟩
  have:=h.two; have:=h.n130
  exact ⟨⟨by omega,by omega,h.len⟩,fun a ha=>by unfold okA; rw [decide_eq_true_eq]; exact h.ok a ha⟩
theorem NV.net {N : Nat} {A : List AaC} (h : NV N A) : Mf.Net N (ar A):=by
 have key : ∀ a ∈ ar A,∃ b ∈ A,a=⟨b.From,b.To,b.Cap⟩:=by
  intro a ha; obtain ⟨b,hb,rfl⟩:=List.mem_map.1 ha; exact ⟨b,hb,rfl⟩
 refine ⟨h.two,fun a ha=>?_,fun a ha=>?_,fun a ha=>?_,fun a ha=>?_⟩ <;> obtain ⟨b,hb,rfl⟩:=key a ha <;> have:=h.ok b hb
 ·exact ⟨this.1,this.2.1,this.2.2.1,this.2.2.2.1⟩
 ·exact this.2.2.2.2.2.1
 ·exact this.2.2.2.2.2.2.1
 ·exact this.2.2.2.2.2.2.2.1
def AfS {β : Type} (N : Nat) (f : Int→β) : List β:=(List.range N).map fun (v : Nat)=>f (v : Int)
theorem Ab2 {β : Type} (N : Nat) (f : Int→β) : (AfS N f).length=N:=by simp [AfS]
theorem Adh {β γ : Type} {N : Nat} {f : Int→β} {x : Int} {F : β→Option γ} (h0 : 0≤x) (h1 : x<N) : idx (AfS N f) x F=F (f x):=by
 obtain ⟨i,rfl⟩:=Int.eq_ofNat_of_zero_le h0
 rw [Aae (by rw [Ab2]; omega)]; simp [AfS]
theorem Afy {β : Type} {N : Nat} {f : Int→β} {x : Int} {y : β} (h0 : 0≤x) : (AfS N f).set x.toNat y=AfS N fun v=>if v=x then y else f v:=by
 refine List.ext_getElem (by simp [AfS]) fun i h1 h2=>?_
 rw [List.getElem_set]
 simp only [AfS,List.getElem_map,List.getElem_range]
 by_cases e : x.toNat=i
 ·rw [if_pos e,if_pos (by omega)]
 ·rw [if_neg e,if_neg (by omega)]
theorem Ah6 {β : Type} (N : Nat) (z : β) : List.replicate N z=AfS N fun _=>z:=by
 refine List.ext_getElem (by simp [AfS]) fun i h1 h2=>?_
 simp [AfS]
theorem Anf {β : Type} {N : Nat} {f : Int→β} {i : Nat} (h : i<(AfS N f).length) : (AfS N f)[i]=f (i : Int):=by simp [AfS]
def whB (p : Int→Bool) (i : Nat) : List Int:=((List.range i).filter fun (v : Nat)=>p (v : Int)).map fun (v : Nat)=>(v : Int)
theorem ArJ (p : Int→Bool) (i : Nat) : whB p (i+1)=whB p i++if p (i : Int)=true then [(i : Int)] else []:=by
 unfold whB
 rw [List.range_succ,List.filter_append,List.map_append]
 by_cases h : p (i : Int)=true <;> simp [h]
theorem Asw (p : Int→Bool) (i : Nat) : (whB p i).length≤i:=by
 unfold whB; rw [List.length_map]; exact Nat.le_trans (List.length_filter_le _ _) (by simp)
def cvS (s : Mf.Step) : AaA:=⟨(s.1 : Int),s.2⟩
def Amq (A : List AaC) : Nat→Int→List AaA
 | 0,_=>[]
 | i+1,v=>(Amq A i v++if (Mf.arc (ar A) i).fr=v then [⟨(i : Int),false⟩] else [])++if (Mf.arc (ar A) i).to=v then [⟨(i : Int),true⟩] else []
theorem Ah8 (A : List AaC) (v : Int) : ∀ i,(Amq A i v).length≤2*i
 | 0=>by simp [Amq]
 | i+1=>by
  have:=Ah8 A v i
  rw [Amq,List.length_append,List.length_append]
  have h1 : (if (Mf.arc (ar A) i).fr=v then [(⟨(i : Int),false⟩ : AaA)] else []).length≤1:=by split <;> simp
  have h2 : (if (Mf.arc (ar A) i).to=v then [(⟨(i : Int),true⟩ : AaA)] else []).length≤1:=by split <;> simp
  omega
theorem Akt {A : List AaC} {v : Int} {s : AaA} : ∀ {i : Nat},s ∈ Amq A i v↔∃ t : Mf.Step,s=cvS t∧t.1<i∧Mf.stFr (ar A) t=v
 | 0=>by simp [Amq]
 | i+1=>by
  rw [Amq,List.mem_append,List.mem_append,Akt (i:=i)]
  constructor
  ·rintro ((⟨t,h1,h2,h3⟩ | h) | h)
   ·exact ⟨t,h1,by omega,h3⟩
   ·split at h
    ·rename_i e; simp at h; exact ⟨(i,false),h,by simp,by simpa [Mf.stFr] using e⟩
    ·simp at h
   ·split at h
    ·rename_i e; simp at h; exact ⟨(i,true),h,by simp,by simpa [Mf.stFr] using e⟩
    ·simp at h
  ·rintro ⟨⟨j,b⟩,h1,h2,h3⟩
   by_cases e : j=i
   ·subst e
    cases b with
    | false=>left; right; rw [if_pos (by simpa [Mf.stFr] using h3)]; simp [h1,cvS]
    | true=>right; rw [if_pos (by simpa [Mf.stFr] using h3)]; simp [h1,cvS]
   ·exact .inl (.inl ⟨(j,b),h1,by simp at h2 ⊢; omega,h3⟩)
theorem AsW (N : Nat) (f : Int→List AaA) (x : Int) (e : AaA) (F : List (List AaA)→Option (List (List AaA))) (h0 : 0≤x) (h1 : x<N) (hl : ∀ v,(f v).length≤100000) : AbC.S (AfS N f) x e F=F (AfS N fun v=>if v=x then f x++[e] else f v):=by
 unfold AbC.S
 rw [AaT (by rw [Ab2]; omega),Adh h0 h1,AaT (by have:=hl x; simp only [List.length_cons,List.length_nil]; omega),Afy h0]
theorem Apu (k N : Nat) (A : List AaC) (h : NV N A) : ∀ (m i n : Nat),i+m=A.length→m<n→AbC.L1 k A n (i : Int) (AfS N (Amq A i))=some (AfS N (Amq A A.length))
 | 0,i,n+1,e,_=>by
  have : i=A.length:=by omega
  subst this
  rw [AbC.L1,if_neg (by omega)]
 | m+1,i,n+1,e,hn=>by
  have hi : i<A.length:=by omega
  have ok:=h.ok _ (List.getElem_mem hi)
  have hl:=h.len
  have ih:=Apu k N A h m (i+1) n (by omega) (by omega)
  have ea:=Ahv hi
  rw [AbC.L1,if_pos (by omega),Aae hi,AsW N _ _ _ _ ok.1 ok.2.1 (fun v=>by have:=Ah8 A v i; omega)]
  rw [AsW N _ _ _ _ ok.2.2.1 ok.2.2.2.1 (fun v=>by
   have:=Ah8 A v i
   split
   ·rename_i e; subst e; simp; omega
   ·omega),Acv i (by omega),← ih]
  congr 2
  funext v
  rw [Amq,ea]
  by_cases e1 : v=A[i].To
  ·subst e1
   rw [if_pos rfl,if_neg (fun z=>ok.2.2.2.2.1 z.symm),if_neg (fun z=>ok.2.2.2.2.1 z),if_pos rfl]; simp
  ·rw [if_neg e1]
   by_cases e2 : v=A[i].From
   ·subst e2
    rw [if_pos rfl,if_pos rfl,if_neg (fun z=>e1 z.symm)]; simp
   ·rw [if_neg e2,if_neg (fun z=>e2 z.symm),if_neg (fun z=>e1 z.symm)]; simp
def AoX (N : Nat) (A : List AaC) : List (List AaA):=AfS N (Amq A A.length)
theorem Apt (k N : Nat) (A : List AaC) (f : List Int) (h : NV N A) (hk : A.length<k) : AbC k (N : Int) A f=some (AoX N A):=by
 have:=h.n130
 unfold AbC
 rw [AaT (by omega),show ((N : Int)).toNat=N by omega,Ah6]
 exact Apu k N A h A.length 0 k (by omega) hk
theorem nodup_range : ∀ (N : Nat) (l : List Int),l.Nodup→(∀ x ∈ l,0≤x∧x<N)→l.length≤N
 | 0,l,_,h=>by
  cases l with
  | nil=>simp
  | cons a l=>have:=h a (by simp); omega
 | N+1,l,hn,h=>by
  by_cases e : (N : Int) ∈ l
  ·have:=nodup_range N (l.erase (N : Int)) (hn.erase _) fun x hx=>by
    have hx':=(hn.mem_erase_iff).1 hx
    have:=h x hx'.2
    have : x≠(N : Int):=hx'.1
    omega
   rw [List.length_erase_of_mem e] at this; omega
  ·have:=nodup_range N l hn fun x hx=>by
    have:=h x hx
    have : x≠(N : Int):=fun q=>e (q ▸ hx)
    omega
   omega
theorem Afm {β : Type} (m : List (Int×β)) (a b : Int) (v : β) : AjY (Agm m a v) b=if b=a then some v else AjY m b:=by
 have fi : ∀ m : List (Int×β),∀ b : Int,mgI m b=m.findIdx? fun p=>b==p.1:=fun _ _=>rfl
 unfold Agm
 cases h : mgI m a with
 | none =>
  simp only
  have hn : ∀ p ∈ m,¬ a=p.1:=by
   rw [fi,List.findIdx?_eq_none_iff] at h
   intro p hp; simpa using h p hp
  unfold AjY
  rw [fi,fi,List.findIdx?_append]
  by_cases e : b=a
  ·subst e
   rw [if_pos rfl]
   have : m.findIdx? (fun p=>b==p.1)=none:=by rw [← fi]; exact h
   rw [this]; simp [List.findIdx?_cons]
  ·rw [if_neg e]
   cases hb : m.findIdx? (fun p=>b==p.1) with
   | none=>simp [List.findIdx?_cons,e]
   | some j =>
    have hj : j<m.length:=(List.findIdx?_eq_some_iff_findIdx_eq.1 hb).1
    simp [List.getElem?_append_left hj]
 | some j =>
  simp only
  rw [fi,List.findIdx?_eq_some_iff_findIdx_eq] at h
  have hj:=h.1
  have haj : a=m[j].1:=by
   have:=List.findIdx_getElem (xs:=m) (p:=fun p=>a==p.1) (w:=by rw [h.2]; exact hj)
   simp only [h.2,beq_iff_eq] at this; exact this
  have e1 : (m.set j (a,v)).findIdx? (fun p=>b==p.1)=m.findIdx? (fun p=>b==p.1):=by
   have : (m.set j (a,v)).map (fun p=>p.1)=m.map (fun p=>p.1):=by
    rw [List.map_set]
    refine List.ext_getElem (by simp) fun i h1 h2=>?_
    rw [List.getElem_set]
    split
    ·rename_i e; subst e; simp [haj]
    ·rfl
   have g : ∀ l : List (Int×β),l.findIdx? (fun p=>b==p.1)=(l.map (fun p=>p.1)).findIdx? (fun x=>b==x):=fun l=>by rw [List.findIdx?_map]; rfl
   rw [g,g,this]
  unfold AjY
  rw [fi,fi,e1]
  by_cases e : b=a
  ·subst e
   rw [if_pos rfl]
   have : m.findIdx? (fun p=>b==p.1)=some j:=List.findIdx?_eq_some_iff_findIdx_eq.2 h
   rw [this]; simp [hj]
  ·rw [if_neg e]
   cases hb : m.findIdx? (fun p=>b==p.1) with
   | none=>rfl
   | some i =>
    have hi:=List.findIdx?_eq_some_iff_findIdx_eq.1 hb
    have hbi : b=m[i].1:=by
     have:=List.findIdx_getElem (xs:=m) (p:=fun p=>b==p.1) (w:=by rw [hi.2]; exact hi.1)
     simp only [hi.2,beq_iff_eq] at this; exact this
    have : ¬ j=i:=by rintro rfl; exact e (hbi.trans haj.symm)
    simp [List.getElem?_set,this]
abbrev Vs:=List (Int×Mf.Step)
def lk : Vs→Int→Option Mf.Step
 | [],_=>none
 | (w,s)::V,v=>if v=w then some s else lk V v
theorem Ahb {V : Vs} {v : Int} : lk V v=none↔v ∉ V.map (·.1):=by
 induction V with
 | nil=>simp [lk]
 | cons p V ih =>
  obtain ⟨w,s⟩:=p
  rw [lk]
  by_cases e : v=w
  ·rw [if_pos e]; simp [e]
  ·rw [if_neg e,ih]; simp [e]
def Cm (m : List (Int×AaA)) (V : Vs) : Prop:=∀ v,AjY m v=if v=0 then some ⟨-1,false⟩ else (lk V v).map cvS
def Cpl (A : List Mf.Arc) (f : List Int) (V : Vs) : Prop:=∀ s : Mf.Step,s.1<A.length→(Mf.stFr A s=0∨Mf.stFr A s ∈ V.map (·.1))→0<Mf.room A f s→Mf.stTo A s=0∨Mf.stTo A s ∈ V.map (·.1)
structure FB (A : List AaC) (f : List Int) : Prop where
 len : f.length=A.length
 lo : ∀ (i : Nat) (h : i<f.length),0≤f[i]
 hi : ∀ (i : Nat) (h : i<f.length) (h' : i<A.length),f[i]≤A[i].Cap
theorem FB.of {N : Nat} {A : List AaC} {f : List Int} (h : Mf.Flow N (ar A) f) : FB A f :=
 ⟨by rw [h.len,Ab6],h.lo,fun i a b=>by have:=h.hi i a (by rw [Ab6]; exact b); simpa [ar] using this⟩
theorem ApS (k N : Nat) (A : List AaC) (f : List Int) (at_ : List (List AaA)) (h : NV N A) (hf : FB A f) (t : Mf.Step) (ht : t.1<A.length) : AcJ k (N : Int) A f at_ (cvS t).arc (cvS t).back=some (Mf.room (ar A) f t,Mf.stTo (ar A) t):=by
 obtain ⟨i,b⟩:=t
 simp only [] at ht
 have hi : i<f.length:=by rw [hf.len]; exact ht
 have a1:=hf.lo i hi; have a2:=hf.hi i hi ht
 have ok:=h.ok _ (List.getElem_mem ht)
 have eg:=Mf.getD_getElem f 0 i hi
 unfold AcJ cvS
 simp only []
 rw [Aae ht]
 cases b with
 | true=>rw [if_pos rfl,Aae hi]; simp [Mf.room,Mf.stTo,Ahv ht,List.getElem?_eq_getElem hi]
 | false=>rw [if_neg (by simp),Aae hi,w64 (by omega) (by omega)]; simp [Mf.room,Mf.stTo,Ahv ht,List.getElem?_eq_getElem hi]
theorem Aj3 {N : Nat} {A : List AaC} {f : List Int} (h : NV N A) {V : Vs} (hd : Mf.Disc (ar A) f V) : ∀ v : Int,v ∈ V.map (·.1)→0≤v∧v<N:=by
 intro v hv
 obtain ⟨p,hp,rfl⟩:=List.mem_map.1 hv
 obtain ⟨_,h2,h3,_⟩:=Mf.disc_mem hd p hp
 rw [Ab6] at h2
 have ok:=h.ok _ (List.getElem_mem h2)
 rw [← h3]; unfold Mf.stTo; rw [Ahv h2]
 cases p.2.2 <;> simp <;> omega
theorem AoY {N : Nat} {A : List AaC} (h : NV N A) (t : Mf.Step) (ht : t.1<A.length) : 0≤Mf.stTo (ar A) t∧Mf.stTo (ar A) t<N:=by
 have ok:=h.ok _ (List.getElem_mem ht)
 unfold Mf.stTo; rw [Ahv ht]
 cases t.2 <;> simp <;> omega
theorem Ak9 {N : Nat} {A : List AaC} {f : List Int} (h : NV N A) {V : Vs} (hd : Mf.Disc (ar A) f V) : V.length+1≤N:=by
 have:=nodup_range N (0::V.map (·.1)) (List.nodup_cons.2 ⟨fun hm=>by
  obtain ⟨p,hp,e⟩:=List.mem_map.1 hm
  exact (Mf.disc_mem hd p hp).1 e,(Mf.disc_nodup hd).1⟩) (fun x hx=>by
  rcases List.mem_cons.1 hx with rfl | hx
  ·have:=h.two; omega
  ·exact Aj3 h hd x hx)
 simpa using this
theorem AlT (k N : Nat) (A : List AaC) (f : List Int) (h : NV N A) (hf : FB A f) (u : Int) (kb : Nat→List (Int×AaA)→List Int→Option (List (Int×AaA))) (L : List AaA) (hL : ∀ s ∈ L,∃ t : Mf.Step,s=cvS t∧t.1<A.length∧Mf.stFr (ar A) t=u) (hl9 : L.length≤100000) :
 ∀ (m j n o : Nat) (cm : List (Int×AaA)) (todo : List Int) (V : Vs),j+m=L.length→m<n→Mf.Disc (ar A) f V→Cm cm V→(u=0∨u ∈ V.map (·.1))→o<todo.length→(todo.drop o).length≤V.length+1 →
 ∃ (cm' : List (Int×AaA)) (todo' : List Int) (W : Vs) (o' : Nat),AaK.L2 k (N : Int) A f (AoX N A) L kb n o (j : Int) cm todo=kb (o'+1) cm' todo'∧Mf.Disc (ar A) f (W++V)∧Cm cm' (W++V)∧o'<todo'.length∧todo'.drop o'=todo.drop o++(W.map (·.1)).reverse ∧
  (∀ s ∈ L.drop j,∀ t : Mf.Step,s=cvS t→0<Mf.room (ar A) f t→Mf.stTo (ar A) t=0∨Mf.stTo (ar A) t ∈ (W++V).map (·.1))
 | 0,j,n+1,o,cm,todo,V,e,_,hd,hc,hu,ho,hq=>by
  rw [AaK.L2,if_neg (by omega),AaT (by omega)]
  exact ⟨cm,todo,[],o,by simp,hd,hc,ho,by simp,fun s hs=>by rw [List.drop_eq_nil_of_le (by omega)] at hs; simp at hs⟩
 | m+1,j,n+1,o,cm,todo,V,e,hn,hd,hc,hu,ho,hq=>by
  have hj : j<L.length:=by omega
  obtain ⟨t,t1,t2,t3⟩:=hL _ (List.getElem_mem hj)
  have hv:=Ak9 h hd
  have hN:=h.n130
  have ts:=AoY h t t2
  rw [AaK.L2,if_pos (by omega),Aae hj,t1,ApS k N A f _ h hf t t2,Aa7]
  have go : ∀ (o1 : Nat) (cm1 : List (Int×AaA)) (todo1 : List Int) (V1 W1 : Vs),V1=W1++V→Mf.Disc (ar A) f V1→Cm cm1 V1→o1<todo1.length→todo1.drop o1=todo.drop o++(W1.map (·.1)).reverse→(0<Mf.room (ar A) f t→Mf.stTo (ar A) t=0∨Mf.stTo (ar A) t ∈ V1.map (·.1)) →
   ∃ (cm' : List (Int×AaA)) (todo' : List Int) (W : Vs) (o' : Nat),AaK.J3 k (j : Int) (fun v10_ v11_ v12_ v13_=>AaK.L2 k (N : Int) A f (AoX N A) L kb n v10_ v11_ v12_ v13_) cm1 todo1 o1=kb (o'+1) cm' todo'∧Mf.Disc (ar A) f (W++V)∧Cm cm' (W++V)∧o'<todo'.length∧todo'.drop o'=todo.drop o++(W.map (·.1)).reverse ∧
   (∀ s ∈ L.drop j,∀ t : Mf.Step,s=cvS t→0<Mf.room (ar A) f t→Mf.stTo (ar A) t=0∨Mf.stTo (ar A) t ∈ (W++V).map (·.1)):=by
   intro o1 cm1 todo1 V1 W1 e1 hd1 hc1 ho1 hq1 hr1
   unfold AaK.J3
   rw [Acv j (by omega)]
   obtain ⟨cm',todo',W,o',g1,g2,g3,g4,g5,g6⟩:=AlT k N A f h hf u kb L hL hl9 m (j+1) n o1 cm1 todo1 V1 (by omega) (by omega) hd1 hc1 (by
    rcases hu with hu | hu
    ·exact .inl hu
    ·right; rw [e1,List.map_append,List.mem_append]; exact .inr hu) ho1 (by
    rw [hq1,List.length_append,List.length_reverse,List.length_map,e1,List.length_append]; omega)
   subst e1
   refine ⟨cm',todo',W++W1,o',g1,by rw [List.append_assoc]; exact g2,by rw [List.append_assoc]; exact g3,g4,by rw [g5,hq1,List.map_append,List.reverse_append,List.append_assoc],?_⟩
   intro s hs t' ht' hr
   rw [List.append_assoc]
   rw [List.drop_eq_getElem_cons hj,List.mem_cons] at hs
   rcases hs with rfl | hs
   ·have : t'=t:=by
     have:=ht'.symm.trans t1
     unfold cvS at this
     simp only [AaA.mk.injEq] at this
     exact Prod.ext (by omega) this.2
    subst this
    rcases hr1 hr with q | q
    ·exact .inl q
    ·right; rw [List.map_append,List.mem_append]; exact .inr q
   ·exact g6 s hs t' ht' hr
  have hcm:=hc (Mf.stTo (ar A) t)
  by_cases z0 : Mf.stTo (ar A) t=0
  ·rw [if_pos z0] at hcm
   rw [hcm]
   show ∃ cm' todo' W o',AaK.J4 _ _ _ _ _ _ _ _ _ _=_∧_
   unfold AaK.J4
   have:=go o cm todo V [] rfl hd hc ho (by simp) (fun _ => .inl z0)
   split
   ·rw [if_neg (by simp)]; exact this
   ·exact this
  ·rw [if_neg z0] at hcm
   cases hl : lk V (Mf.stTo (ar A) t) with
   | some s0 =>
    rw [hl] at hcm
    rw [hcm]
    show ∃ cm' todo' W o',AaK.J4 _ _ _ _ _ _ _ _ _ _=_∧_
    unfold AaK.J4
    have hm : Mf.stTo (ar A) t ∈ V.map (·.1):=by
     apply Classical.byContradiction; intro q
     rw [Ahb.2 q] at hl; cases hl
    have:=go o cm todo V [] rfl hd hc ho (by simp) (fun _ => .inr hm)
    split
    ·rw [if_neg (by simp)]; exact this
    ·exact this
   | none =>
    rw [hl] at hcm
    rw [hcm]
    show ∃ cm' todo' W o',AaK.J4 _ _ _ _ _ _ _ _ _ _=_∧_
    unfold AaK.J4
    by_cases hr : 0<Mf.room (ar A) f t
    ·rw [if_pos hr,if_pos (by simp),AaT (by rw [show ([Mf.stTo (ar A) t] : List Int).length=1 from rfl]; omega)]
     have hm:=Ahb.1 hl
     refine go 0 _ _ ((Mf.stTo (ar A) t,t)::V) [(Mf.stTo (ar A) t,t)] rfl ⟨z0,hm,by rw [Ab6]; exact t2,rfl,by rw [t3]; exact hu,hr,hd⟩ ?_ (by simp) (by simp) (fun _ => .inr (by simp))
     intro v
     rw [Afm,lk]
     by_cases e2 : v=Mf.stTo (ar A) t
     ·rw [if_pos e2,if_pos e2,if_neg (by rw [e2]; exact z0)]; rfl
     ·rw [if_neg e2,if_neg e2]; exact hc v
    ·rw [if_neg hr]
     exact go o cm todo V [] rfl hd hc ho (by simp) (fun q=>absurd q hr)
theorem AlU (k N : Nat) (A : List AaC) (f : List Int) (h : NV N A) (hf : FB A f) (hk : 2*A.length<k) : ∀ (m n o : Nat) (cm : List (Int×AaA)) (todo : List Int) (V : Vs) (p : List Int),m+p.length=N→m<n→Mf.Disc (ar A) f V→Cm cm V→o≤todo.length→(p++todo.drop o).Nodup→(∀ x,x ∈ p++todo.drop o↔x=0∨x ∈ V.map (·.1)) →
 (∀ u ∈ p,∀ t : Mf.Step,t.1<A.length→Mf.stFr (ar A) t=u→0<Mf.room (ar A) f t→Mf.stTo (ar A) t=0∨Mf.stTo (ar A) t ∈ V.map (·.1)) →
 ∃ (cm' : List (Int×AaA)) (V' : Vs),AaK.L1 k (N : Int) A f (AoX N A) n o cm todo=some cm'∧Mf.Disc (ar A) f V'∧Cm cm' V'∧Cpl (ar A) f V'
 | m,n+1,o,cm,todo,V,p,e,hn,hd,hc,ho,hnd,hm,hp=>by
  have hN:=h.n130
  have rng : ∀ x ∈ p++todo.drop o,0≤x∧x<N:=by
   intro x hx
   rcases (hm x).1 hx with rfl | hx
   ·have:=h.two; omega
   ·exact Aj3 h hd x hx
  have hle:=nodup_range N _ hnd rng
  rw [List.length_append,List.length_drop] at hle
  rw [AaK.L1]
  by_cases hq : o<todo.length
  ·have hu : todo[o] ∈ p++todo.drop o:=by rw [List.mem_append]; right; rw [List.drop_eq_getElem_cons hq]; exact List.mem_cons_self ..
   have ru:=rng _ hu
   have hall:=(hm _).1 hu
   cases m with
   | zero=>omega
   | succ m =>
    have e0 : ((o+(0 : Int).toNat : Nat) : Int)=(o : Int):=by simp
    rw [if_pos (by omega),AaT (by simp; omega),e0,Aae hq,show AoX N A=AfS N (Amq A A.length) from rfl,Adh ru.1 ru.2]
    have hlen:=Ah8 A todo[o] A.length
    have hA:=h.len
    have hdv:=Ak9 h hd
    have hdl:=nodup_range N _ (List.nodup_append.1 hnd).2.1 (fun x hx=>rng x (by rw [List.mem_append]; exact .inr hx))
    have hqv : (todo.drop o).length≤V.length+1:=by
     have s1 : ∀ x ∈ todo.drop o,x ∈ 0::V.map (·.1):=fun x hx=>by
      have:=(hm x).1 (by rw [List.mem_append]; exact .inr hx)
      simpa using this
     have:=(List.nodup_append.1 hnd).2.1
     have:=List.Nodup.length_le_of_subset this s1
     simpa using this
    obtain ⟨cm',todo',W,o',g1,g2,g3,g4,g5,g6⟩:=AlT k N A f h hf todo[o] (fun v5_ v6_ v7_=>AaK.L1 k (N : Int) A f (AoX N A) n v5_ v6_ v7_) (Amq A A.length todo[o])
     (fun s hs=>Akt.1 hs) (by omega) (Amq A A.length todo[o]).length 0 k o cm todo V (by omega) (by omega) hd hc hall hq hqv
    rw [show AfS N (Amq A A.length)=AoX N A from rfl]
    rw [show (0 : Int)=((0 : Nat) : Int) from rfl,g1]
    have hdrop : todo'.drop (o'+1)=todo.drop (o+1)++(W.map (·.1)).reverse:=by
     rw [List.drop_eq_getElem_cons g4,List.drop_eq_getElem_cons hq,List.cons_append] at g5
     exact (List.cons.inj g5).2
    have hwd:=(Mf.disc_nodup g2).1
    rw [List.map_append] at hwd
    have perm : (p++[todo[o]])++todo'.drop (o'+1)=(p++todo.drop o)++(W.map (·.1)).reverse:=by
     rw [hdrop,List.drop_eq_getElem_cons hq]; simp [-List.getElem_cons_drop]
    refine AlU k N A f h hf hk m n (o'+1) cm' todo' (W++V) (p++[todo[o]]) (by simp; omega) (by omega) g2 g3 (by omega) ?_ ?_ ?_
    ·rw [perm,List.nodup_append]
     refine ⟨hnd,List.pairwise_reverse.2 ((List.nodup_append.1 hwd).1.imp fun q=>q.symm),fun a ha b hb=>?_⟩
     rw [List.mem_reverse] at hb
     rintro rfl
     rcases (hm a).1 ha with rfl | ha'
     ·obtain ⟨q,hq1,hq2⟩:=List.mem_map.1 hb
      exact (Mf.disc_mem g2 q (List.mem_append_left _ hq1)).1 hq2
     ·exact (List.nodup_append.1 hwd).2.2 a hb a ha' rfl
    ·intro x
     rw [perm,List.mem_append,hm x,List.mem_reverse,List.map_append,List.mem_append]
     constructor
     ·rintro ((z | z) | z)
      ·exact .inl z
      ·exact .inr (.inr z)
      ·exact .inr (.inl z)
     ·rintro (z | z | z)
      ·exact .inl (.inl z)
      ·exact .inr z
      ·exact .inl (.inr z)
    ·intro u hu' t t1 t2 t3
     rw [List.mem_append,List.mem_singleton] at hu'
     rcases hu' with hu' | rfl
     ·rcases hp u hu' t t1 t2 t3 with z | z
      ·exact .inl z
      ·right; rw [List.map_append,List.mem_append]; exact .inr z
     ·exact g6 (cvS t) (by rw [List.drop_zero]; exact Akt.2 ⟨t,rfl,t1,t2⟩) t rfl t3
  ·have hdn : todo.drop o = []:=List.drop_eq_nil_of_le (by omega)
   rw [if_neg (by omega)]
   refine ⟨cm,V,rfl,hd,hc,fun s h1 h2 h3=>?_⟩
   rw [Ab6] at h1
   have hx:=(hm (Mf.stFr (ar A) s)).2 h2
   rw [hdn,List.append_nil] at hx
   exact hp _ hx s h1 rfl h3
theorem AlS (k N : Nat) (A : List AaC) (f : List Int) (h : NV N A) (hf : FB A f) (hk : 2*A.length<k) (hk2 : N<k) :
 ∃ (cm : List (Int×AaA)) (V : Vs),AaK k (N : Int) A f (AoX N A)=some cm∧Mf.Disc (ar A) f V∧Cm cm V∧Cpl (ar A) f V:=by
 unfold AaK
 refine AlU k N A f h hf hk N k 0 _ [0] [] [] (by simp) hk2 trivial ?_ (by simp) (by simp) (by simp) (by simp)
 intro v
 rw [Afm]
 by_cases e : v=0
 ·rw [if_pos e,if_pos e]
 ·rw [if_neg e,if_neg e]; rfl
end Go.TF
set_option linter.unusedVariables false
set_option linter.unusedSimpArgs false
namespace Go.TF
open Go Go.Abs
theorem AxZ {V W : Vs} {t : Int} {s : Mf.Step} (h : t ∉ W.map (·.1)) : lk (W++(t,s)::V) t=some s:=by
 induction W with
 | nil=>simp [lk]
 | cons p W ih =>
  obtain ⟨w,q⟩:=p
  simp only [List.map_cons,List.mem_cons,not_or] at h
  rw [List.cons_append,lk,if_neg h.1,ih h.2]
theorem AmQ {A : List Mf.Arc} {f : List Int} : ∀ {W V : Vs},Mf.Disc A f (W++V)→Mf.Disc A f V
 | [],_,h=>h
 | (w,s)::W,V,h=>AmQ (W:=W) h.2.2.2.2.2.2
theorem mn (a b : Int) : (if a<b then a else b)≤a∧(if a<b then a else b)≤b:=by split <;> omega
theorem Amy (k N : Nat) (A : List AaC) (f : List Int) (h : NV N A) (hf : FB A f) (cm : List (Int×AaA)) (V : Vs) (hc : Cm cm V) (hd : Mf.Disc (ar A) f V) : ∀ (V' W : Vs) (n : Nat) (t most : Int) (acc : List AaA),V=W++V'→V'.length<n→(t=0∨t ∈ V'.map (·.1))→1≤most→acc.length+V'.length≤1000000000 →
 ∃ most',AaM.L2 k (N : Int) A f (AoX N A) cm n most t acc=AaM.L4 k most' (acc++(Mf.pathOf (ar A) V' t).map cvS) k 0 f∧most'≤most∧1≤most'∧∀ s ∈ Mf.pathOf (ar A) V' t,most'≤Mf.room (ar A) f s
 | [],W,n+1,t,most,acc,e,hn,ht,hm,_=>by
  rcases ht with rfl | ht
  ·rw [AaM.L2,if_neg (by simp)]
   exact ⟨most,by simp [Mf.pathOf],by omega,hm,by simp [Mf.pathOf]⟩
  ·simp at ht
 | (v,s)::V',W,n,t,most,acc,e,hn,ht,hm,ha=>by
  have hd' : Mf.Disc (ar A) f ((v,s)::V'):=AmQ (e ▸ hd)
  by_cases t0 : t=0
  ·subst t0
   cases n with
   | zero=>omega
   | succ n =>
    rw [AaM.L2,if_neg (by simp),Mf.pathOf_zero hd']
    exact ⟨most,by simp,by omega,hm,by simp⟩
  ·by_cases tv : t=v
   ·subst tv
    cases n with
    | zero=>omega
    | succ n =>
     have hnd:=(Mf.disc_nodup hd).1
     rw [e,List.map_append,List.map_cons] at hnd
     have hw : t ∉ W.map (·.1):=fun q=>(List.nodup_append.1 hnd).2.2 t q t (by simp) rfl
     have hg:=hc t
     rw [if_neg t0,e,AxZ hw] at hg
     obtain ⟨h1,h2,h3,h4,h5,h6,h7⟩:=hd'
     rw [Ab6] at h3
     have ok:=h.ok _ (List.getElem_mem h3)
     rw [AaM.L2,if_pos t0,hg]
     show ∃ most',AaM.J3 _ _ _ _ _ _ _ _ _ _=_∧_
     unfold AaM.J3
     rw [ApS k N A f _ h hf s h3,Aa7,AaT (by simp only [List.length_cons,List.length_nil] at ha ⊢; omega),Aiv]
     have m1:=mn (Mf.room (ar A) f s) most
     have hr : 1≤(if Mf.room (ar A) f s<most then Mf.room (ar A) f s else most):=by split <;> omega
     obtain ⟨most',g1,g2,g3,g4⟩:=Amy k N A f h hf cm V hc hd V' (W++[(t,s)]) n (Mf.stFr (ar A) s) (if Mf.room (ar A) f s<most then Mf.room (ar A) f s else most) (acc++[cvS s]) (by rw [e]; simp) (by simp only [List.length_cons] at hn; omega) h5 hr (by simp only [List.length_append,List.length_cons,List.length_nil] at ha ⊢; omega)
     have hp : Mf.pathOf (ar A) ((t,s)::V') t=s::Mf.pathOf (ar A) V' (Mf.stFr (ar A) s):=by rw [Mf.pathOf,if_pos rfl]
     have fin : AaM.L2 k (N : Int) A f (AoX N A) cm n (if Mf.room (ar A) f s<most then Mf.room (ar A) f s else most) (Mf.stFr (ar A) s) (acc++[cvS s])=AaM.L4 k most' (acc++(Mf.pathOf (ar A) ((t,s)::V') t).map cvS) k 0 f:=by
      rw [g1,hp]; simp
     refine ⟨most',?_,by omega,g3,?_⟩
     ·rw [← fin]
      show idx A (s.1 : Int) _=_
      rw [Aae h3]
      have e1 : (AaA.mk (cvS s).arc (cvS s).back)=cvS s:=rfl
      rw [e1]
      show (if s.2=true then _ else _)=_
      unfold Mf.stFr
      rw [Ahv h3]
      cases s.2 <;> simp
     ·rw [hp]; intro x hx
      rcases List.mem_cons.1 hx with rfl | hx
      ·omega
      ·exact g4 x hx
   ·have hp : Mf.pathOf (ar A) ((v,s)::V') t=Mf.pathOf (ar A) V' t:=by rw [Mf.pathOf,if_neg tv]
    rw [hp]
    exact Amy k N A f h hf cm V hc hd V' (W++[(v,s)]) n t most acc (by rw [e]; simp) (by simp only [List.length_cons] at hn; omega) (by
     rcases ht with ht | ht
     ·exact .inl ht
     ·simp only [List.map_cons,List.mem_cons] at ht
      rcases ht with ht | ht
      ·exact absurd ht tv
      ·exact .inr ht) hm (by simp only [List.length_cons] at ha; omega)
theorem Ape (k : Nat) (A : List AaC) (f : List Int) (hf : FB A f) (hA : ∀ a ∈ A,0≤a.Cap∧a.Cap≤1048576) (most : Int) (hm : 1≤most) (P : List Mf.Step) (hP : ∀ s ∈ P,s.1<A.length∧most≤Mf.room (ar A) f s) (hn : (P.map (·.1)).Nodup) (h9 : P.length≤100000) : ∀ (m i n : Nat),i+m=P.length→m<n →
 AaM.L4 k most (P.map cvS) n (i : Int) (Mf.push f most (P.take i))=some (true,Mf.push f most P)
 | 0,i,n+1,e,_=>by
  rw [AaM.L4,if_neg (by simp; omega),List.take_of_length_le (by omega)]
 | m+1,i,n+1,e,hn'=>by
  have hi : i<P.length:=by omega
  have hs:=hP _ (List.getElem_mem hi)
  have hsf : P[i].1<f.length:=by rw [hf.len]; exact hs.1
  have ih:=Ape k A f hf hA most hm P hP hn h9 m (i+1) n (by omega) (by omega)
  have hpl:=Mf.push_len most (P.take i) f
  have hg : (Mf.push f most (P.take i)).getD P[i].1 0=f[P[i].1]:=by
   rw [Mf.push_get most _ _ f (fun s hs'=>by rw [hf.len]; exact (hP s (List.mem_of_mem_take hs')).1) (fun s hs' q=>?_),← Mf.getD_getElem f 0 _ hsf]
   obtain ⟨j,hj,rfl⟩:=List.mem_iff_getElem.1 hs'
   rw [List.length_take] at hj
   rw [List.getElem_take] at q
   have:=List.pairwise_iff_getElem.1 hn j i (by simp; omega) (by simp; omega) (by omega)
   simp only [List.getElem_map] at this
   exact this q
  have hlt : P[i].1<(Mf.push f most (P.take i)).length:=by rw [hpl]; exact hsf
  have hgg : (Mf.push f most (P.take i))[P[i].1]=f[P[i].1]:=by rw [← hg]; exact Mf.getD_getElem _ 0 _ hlt
  have b1:=hf.lo _ hsf; have b2:=hf.hi _ hsf hs.1
  have cap:=hA _ (List.getElem_mem hs.1)
  have e0:=Mf.getD_getElem f 0 _ hsf
  have nxt : Mf.push f most (P.take (i+1))=Mf.push1 (Mf.push f most (P.take i)) most P[i]:=by
   rw [List.take_succ_eq_append_getElem hi]; unfold Mf.push; rw [List.foldl_append]; rfl
  rw [nxt] at ih
  unfold Mf.push1 at ih
  rw [hg] at ih
  rw [AaM.L4,if_pos (by simp; omega),Aae (by simpa using hi),List.getElem_map]
  have ea : (cvS P[i]).arc=(P[i].1 : Int):=rfl
  have eb : (cvS P[i]).back=P[i].2:=rfl
  unfold AaM.J5
  rw [ea,eb,Acv i (by omega)]
  have hr:=hs.2
  unfold Mf.room at hr
  rw [Ahv hs.1,← e0] at hr
  cases hb : P[i].2 with
  | true =>
   simp only [hb,if_true] at hr ih
   rw [if_pos rfl,AaT (by omega),Aae hlt,hgg,AaT (by omega),w64 (by omega) (by omega),show ((P[i].1 : Int)).toNat=P[i].1 by omega]
   rw [← ih]; congr 2
  | false =>
   simp only [hb,Bool.false_eq_true,if_false] at hr ih
   rw [if_neg (by simp),AaT (by omega),Aae hlt,hgg,AaT (by omega),w64 (by omega) (by omega),show ((P[i].1 : Int)).toNat=P[i].1 by omega]
   rw [← ih]
structure AnW (N : Nat) (A : List AaC) (f : List Int) : Prop where
 fl : Mf.Flow N (ar A) f
 ex : ∃ V : Vs,Mf.Disc (ar A) f V∧Cpl (ar A) f V∧(1 : Int) ∉ V.map (·.1)
theorem ArR (k N : Nat) (A : List AaC) (f : List Int) (h : NV N A) (hf : Mf.Flow N (ar A) f) (hk : 2*A.length<k) (hk2 : N<k) :
 ∃ b f',AaM k (N : Int) A f (AoX N A)=some (b,f')∧((b=true∧Mf.Flow N (ar A) f'∧Mf.val (ar A) f+1≤Mf.val (ar A) f')∨(b=false∧f'=f∧AnW N A f)):=by
 have fb:=FB.of hf
 obtain ⟨cm,V,e,hd,hc,hcp⟩:=AlS k N A f h fb hk hk2
 have hN:=h.n130
 have hvl:=Ak9 h hd
 unfold AaM
 rw [e,AaJ]
 have h1:=hc 1
 rw [if_neg (by omega)] at h1
 by_cases hm : (1 : Int) ∈ V.map (·.1)
 ·cases hl : lk V 1 with
  | none=>exact absurd hm (Ahb.1 hl)
  | some s =>
   rw [hl] at h1
   rw [h1]
   show ∃ b f',AaM.J1 _ _ _ _ _ _ _=_∧_
   unfold AaM.J1
   rw [if_neg (by simp)]
   obtain ⟨most,g1,g2,g3,g4⟩:=Amy k N A f h fb cm V hc hd V [] k 1 1048576 [] rfl (by omega) (.inr hm) (by omega) (by simp only [List.length_nil]; omega)
   have hsub:=Mf.pathOf_sub (ar A) V 1
   have hpl : (Mf.pathOf (ar A) V 1).length≤V.length:=by have:=hsub.length_le; simpa using this
   have hnd : ((Mf.pathOf (ar A) V 1).map (·.1)).Nodup:=by
    have:=hsub.map (·.1)
    rw [List.map_map] at this
    exact this.nodup (Mf.disc_nodup hd).2
   have g5:=Ape k A f fb (fun a ha=>by have:=h.ok a ha; omega) most g3 (Mf.pathOf (ar A) V 1) (fun s hs=>⟨by have:=(Mf.path_room hd 1 s hs).1; rw [Ab6] at this; exact this,g4 s hs⟩) hnd (by omega) (Mf.pathOf (ar A) V 1).length 0 k (by omega) (by omega)
   rw [g1,List.nil_append]
   refine ⟨true,_,g5,.inl ⟨rfl,?_⟩⟩
   have:=Mf.disc_push hf hd hm most (by omega) g4
   exact ⟨this.1,by rw [this.2]; omega⟩
 ·rw [Ahb.2 hm] at h1
  rw [h1]
  show ∃ b f',AaM.J1 _ _ _ _ _ _ _=_∧_
  unfold AaM.J1
  rw [if_pos (by simp)]
  exact ⟨false,f,rfl,.inr ⟨rfl,rfl,hf,V,hd,hcp,hm⟩⟩
theorem Ap6 (k N : Nat) (A : List AaC) (h : NV N A) (hk : 2*A.length<k) (hk2 : N<k) (C : Int) (hC : ∀ g,Mf.Flow N (ar A) g→Mf.val (ar A) g≤C) : ∀ (m n : Nat) (f : List Int),Mf.Flow N (ar A) f→C-Mf.val (ar A) f≤m→m<n→∃ g,Acy.L1 k (N : Int) A (AoX N A) n f=some g∧AnW N A g
 | m,n+1,f,hf,hm,hn=>by
  rw [Acy.L1]
  obtain ⟨b,f',e,h1⟩:=ArR k N A f h hf hk hk2
  rw [e,Aa7]
  rcases h1 with ⟨rfl,h2,h3⟩ | ⟨rfl,rfl,h2⟩
  ·rw [AaT (by rw [h2.len,hf.len]),if_pos rfl]
   have:=hC f' h2
   cases m with
   | zero=>omega
   | succ m=>exact Ap6 k N A h hk hk2 C hC m n f' h2 (by omega) (by omega)
  ·rw [AaT rfl,if_neg (by simp)]
   exact ⟨f',rfl,h2⟩
theorem AlV (k : Nat) (l : List Int) (h : l.length≤100000) : AbZ k l=some l:=by
 unfold AbZ; rw [AaT (by omega)]
theorem ApN (w : Mf.Arc→Int) : ∀ (A : List Mf.Arc) (n : Nat),Mf.sm A (List.replicate n 0) w=0
 | [],n=>by cases n <;> rfl
 | a::A,0=>rfl
 | a::A,n+1=>by rw [List.replicate_succ,Mf.sm_cons,ApN w A n]; omega
theorem ApB {N : Nat} {A : List AaC} (h : NV N A) : Mf.Flow N (ar A) (List.replicate A.length 0):=by
 refine ⟨by simp [Ab6],fun i hi=>by simp,fun i hi h'=>?_,fun v _ _=>ApN _ _ _⟩
 have:=h.net.cap _ (List.getElem_mem h')
 simpa using this
theorem ArH (A : List AaC) (n : Nat) : Mf.val (ar A) (List.replicate n 0)=0:=by unfold Mf.val Mf.sur; exact ApN _ _ _
theorem Arw (k N : Nat) (A : List AaC) (f : List Int) (h : NV N A) (hf : Mf.Flow N (ar A) f) (hk : 2*A.length<k) (hk2 : N<k) (C : Nat) (hC : ∀ g,Mf.Flow N (ar A) g→Mf.val (ar A) g≤C) (h0 : 0≤Mf.val (ar A) f) (hk3 : C<k) : ∃ g,Acy k (N : Int) A f=some g∧AnW N A g:=by
 have hl:=hf.len
 have:=h.len
 rw [Ab6] at hl
 unfold Acy
 rw [AlV k f (by omega),AaJ,Apt k N A f h (by omega),AaJ]
 exact Ap6 k N A h hk hk2 C hC C k f hf (by omega) hk3
theorem Apz (k : Nat) (x a b : Int) : Abf k x a b=some (decide (a≤x∧x≤b)):=by
 unfold Abf
 by_cases h : a≤x
 ·rw [if_pos h]; simp [h]
 ·rw [if_neg h]; simp [h]
theorem At4 (k : Nat) (a : AaC) (N : Int) (A : List AaC) (hN : -1000000≤N∧N≤1000000) : Aec k a.From a.To a.Cap N A=some (!okA N a):=by
 unfold Aec okA
 simp only [Apz,w64 (n:=N-1) (by omega) (by omega),AaJ]
 by_cases h1 : 0≤a.From∧a.From≤N-1
 ·by_cases h2 : 0≤a.To∧a.To≤N-1
  ·by_cases h3 : a.From=a.To
   ·simp [h1,h2,h3]
   ·by_cases h4 : a.To=0
    ·simp [h1,h2,h3,h4]
    ·by_cases h5 : a.From=1
     ·simp [h1,h2,h3,h4,h5]
     ·have e : (0≤a.From∧a.From<N∧0≤a.To∧a.To<N∧a.From≠a.To∧a.To≠0∧a.From≠1∧0≤a.Cap∧a.Cap≤1048576)↔(0≤a.Cap∧a.Cap≤1048576):=by omega
      have e2 : decide (0≤a.From∧a.From<N∧0≤a.To∧a.To<N∧a.From≠a.To∧a.To≠0∧a.From≠1∧0≤a.Cap∧a.Cap≤1048576)=decide (0≤a.Cap∧a.Cap≤1048576):=decide_eq_decide.2 e
      rw [e2]; simp [h1,h2,h3,h4,h5]
  ·have e : ¬ (0≤a.From∧a.From<N∧0≤a.To∧a.To<N∧a.From≠a.To∧a.To≠0∧a.From≠1∧0≤a.Cap∧a.Cap≤1048576):=by omega
   rw [decide_eq_false e]; simp [h1,h2]
 ·have e : ¬ (0≤a.From∧a.From<N∧0≤a.To∧a.To<N∧a.From≠a.To∧a.To≠0∧a.From≠1∧0≤a.Cap∧a.Cap≤1048576):=by omega
  rw [decide_eq_false e]; simp [h1]
theorem AmK (k : Nat) (A B : List AaC) (N : Int) (hN : -1000000≤N∧N≤1000000) (h9 : A.length≤1000000) : ∀ (m i n : Nat),i+m=A.length→m<n→∃ r,AaU.L1 k A N B n (i : Int)=some r∧(0≤r↔(A.drop i).all (okA N)=false)
 | 0,i,n+1,h,_=>by rw [AaU.L1,if_neg (by omega),List.drop_eq_nil_of_le (by omega)]; exact ⟨_,rfl,by simp⟩
 | m+1,i,n+1,h,hn=>by
  have hi : i<A.length:=by omega
  rw [AaU.L1,if_pos (by omega),Aae hi,At4 k _ N B hN,AaJ,List.drop_eq_getElem_cons hi,List.all_cons]
  by_cases e : okA N A[i]=true
  ·rw [if_neg (by simp [e]),Acv i (by omega)]
   obtain ⟨r,h1,h2⟩:=AmK k A B N hN h9 m (i+1) n (by omega) (by omega)
   exact ⟨r,h1,by rw [h2,e]; simp⟩
  ·rw [if_pos (by simpa using e)]
   exact ⟨_,rfl,by simp [e]⟩
theorem Ai6 (k : Nat) (N : Int) (A : List AaC) (hk : 1200<k) : AeC k N A=some (if ArF N A then 0 else 16):=by
 unfold AeC ArF
 rw [Apz,AaJ]
 by_cases h1 : 2≤N∧N≤130
 ·rw [if_neg (by simp [h1])]
  by_cases h2 : 1200<(A.length : Int)
  ·rw [if_pos h2]; have : ¬ (2≤N∧N≤130∧A.length≤1200):=by omega
   rw [decide_eq_false this]; rfl
  ·rw [if_neg h2]
   have e : (2≤N∧N≤130∧A.length≤1200):=by omega
   unfold AbH AaU
   obtain ⟨r,g1,g2⟩:=AmK k A A N (by omega) (by omega) A.length 0 k (by omega) (by omega)
   rw [show AaU.L1 k A N A k 0=some r from g1,AaJ,AaJ]
   rw [List.drop_zero] at g2
   rw [decide_eq_true e,Bool.true_and]
   by_cases q : A.all (okA N)=true
   ·have : ¬ 0≤r:=fun z=>by rw [g2.1 z] at q; cases q
    rw [q,if_neg (by simpa using this)]; rfl
   ·simp only [Bool.not_eq_true] at q
    rw [q,if_pos (by simpa using g2.2 q)]; rfl
 ·rw [if_pos (by rw [decide_eq_false h1]; rfl)]
  have : ¬ (2≤N∧N≤130∧A.length≤1200):=by omega
  rw [decide_eq_false this]; rfl
theorem Atk (k N : Nat) (A : List AaC) (h : NV N A) (hk : 2*A.length<k) (hk2 : 1200<k) (C : Nat) (hC : ∀ g,Mf.Flow N (ar A) g→Mf.val (ar A) g≤C) (hk3 : C<k) : ∃ g,AgA k (N : Int) A=some (g,0)∧AnW N A g:=by
 have h2:=h.n130; have h3:=h.len
 unfold AgA
 rw [Ai6 k N A hk2,AaJ,if_pos ((AhE _ _).2 ⟨N,rfl,h⟩),if_neg (by simp),AaT (by omega),show ((A.length : Int)).toNat=A.length by omega]
 obtain ⟨g,e,d⟩:=Arw k N A _ h (ApB h) hk (by omega) C hC (by rw [ArH]; omega) hk3
 rw [e,AaJ]
 exact ⟨g,rfl,d⟩
theorem AlM {N : Nat} {A : List AaC} (h : NV N A) : ∀ g,Mf.Flow N (ar A) g→Mf.val (ar A) g≤((A.length*1048576 : Nat) : Int):=by
 intro g hg
 have h1:=Mf.val_le h.net hg (fun v=>decide (v=0)) (by simp) (by simp)
 have h2 : ∀ B : List AaC,(∀ a ∈ B,0≤a.Cap∧a.Cap≤1048576)→Mf.capS (ar B) (fun v=>decide (v=0))≤((B.length*1048576 : Nat) : Int):=by
  intro B hB
  induction B with
  | nil=>simp [ar,Mf.capS]
  | cons b B ih =>
   have:=ih fun a ha=>hB a (by simp [ha])
   have hb:=hB b (by simp)
   unfold ar Mf.capS at this ⊢
   simp only [List.map_cons,List.sum_cons,List.length_cons] at this ⊢
   have : Mf.b2 (decide (b.From=0)=true∧decide (b.To=0)=false)*b.Cap≤1048576:=by
    unfold Mf.b2; split <;> omega
   omega
 have:=h2 A fun a ha=>by have:=h.ok a ha; omega
 omega
theorem AnW.side {N : Nat} {A : List AaC} {f : List Int} (h : NV N A) (hd : AnW N A f) : ∃ S : Int→Bool,S 0=true∧S 1=false∧Mf.Closed (ar A) f S:=by
 obtain ⟨V,d1,d2,d3⟩:=hd.ex
 exact ⟨fun v=>decide (v=0∨v ∈ V.map (·.1)),by simp,by simpa using d3,Mf.disc_closed hd.fl d2⟩
def Aw6 (N : Nat) (V : Vs) : List Int:=whB (fun v=>decide (v=0∨v ∈ V.map (·.1))) N
theorem Ajf (k N : Nat) (cm : List (Int×AaA)) (V : Vs) (hc : Cm cm V) (hN : N≤100000) : ∀ (m i n : Nat),i+m=N→m<n→Aad.L1 k (N : Int) cm n (i : Int) (whB (fun v=>decide (v=0∨v ∈ V.map (·.1))) i)=some (Aw6 N V)
 | 0,i,n+1,e,_=>by
  have : i=N:=by omega
  subst this
  rw [Aad.L1,if_neg (by omega)]; rfl
 | m+1,i,n+1,e,hn=>by
  have ih:=Ajf k N cm V hc hN m (i+1) n (by omega) (by omega)
  rw [ArJ] at ih
  have hl:=Asw (fun v=>decide (v=0∨v ∈ V.map (·.1))) i
  have hm:=hc (i : Int)
  have hr : Adi k (i : Int) cm=some (decide ((i : Int)=0∨(i : Int) ∈ V.map (·.1))):=by
   unfold Adi
   rw [hm]
   by_cases q : (i : Int)=0
   ·rw [if_pos q]; simp [Aps,q]
   ·rw [if_neg q]
    cases z : lk V (i : Int) with
    | none=>rw [decide_eq_false (fun w=>by rcases w with w | w; exact q w; exact Ahb.1 z w)]; rfl
    | some s =>
     have : (i : Int) ∈ V.map (·.1):=by
      apply Classical.byContradiction; intro w
      rw [Ahb.2 w] at z; cases z
     rw [decide_eq_true (.inr this)]; rfl
  rw [Aad.L1,if_pos (by omega),hr,AaJ]
  unfold Aad.J2
  rw [Acv i (by omega)]
  by_cases q : decide ((i : Int)=0∨(i : Int) ∈ V.map (·.1))=true
  ·rw [if_pos q] at ih ⊢
   rw [AaT (by simp only [List.length_cons,List.length_nil]; omega)]
   exact ih
  ·rw [if_neg q] at ih ⊢
   rw [List.append_nil] at ih
   exact ih
theorem AnN (k N : Nat) (A : List AaC) (f : List Int) (h : NV N A) (hf : Mf.Flow N (ar A) f) (hk : 2*A.length<k) (hk2 : 1200<k) : ∃ V : Vs,Aeb k (N : Int) A f=some (Aw6 N V)∧Mf.Disc (ar A) f V∧Cpl (ar A) f V:=by
 have hN:=h.n130; have hA:=h.len
 obtain ⟨cm,V,e,hd,hc,hcp⟩:=AlS k N A f h (FB.of hf) hk (by omega)
 unfold Aeb
 rw [show AeZ k (N : Int) A f=some (AoX N A) from Apt k N A f h (by omega),AaJ,e,AaJ]
 have:=Ajf k N cm V hc (by omega) N 0 k (by omega) (by omega)
 unfold Aad
 rw [show Aad.L1 k (N : Int) cm k 0 []=some (Aw6 N V) from this,AaJ]
 exact ⟨V,rfl,hd,hcp⟩
end Go.TF
set_option linter.unusedVariables false
set_option linter.unusedSimpArgs false
namespace Go.TF
open Go Go.Abs
def rb (V : Vs) (v : Int) : Int:=match lk V v with
 | none=>0
 | some s=>if s.2 then -((s.1 : Int)+1) else (s.1 : Int)+1
def sn (V : Vs) (v : Int) : Bool:=decide (v=0∨v ∈ V.map (·.1))
end Go.TF
set_option linter.unusedVariables false
set_option linter.unusedSimpArgs false
namespace Go.TF
open Go Go.Abs
theorem Agz (k : Nat) (N : Int) (A : List AaC) (h9 : A.length≤1000000) : ∀ (m i n : Nat),i+m=A.length→m<n→AcA.L1 k N A n (i : Int)=some (if (A.drop i).all (okA N) then 0 else 16)
 | 0,i,n+1,h,_=>by rw [AcA.L1,if_neg (by omega),List.drop_eq_nil_of_le (by omega)]; rfl
 | m+1,i,n+1,h,hn=>by
  have hi : i<A.length:=by omega
  have ih:=Agz k N A h9 m (i+1) n (by omega) (by omega)
  rw [AcA.L1,if_pos (by omega),Aae hi,List.drop_eq_getElem_cons hi,List.all_cons,Acv i (by omega),ih]
  have bad : okA N A[i]=false→(some 16 : Option Int)=some (if (okA N A[i]&&(A.drop (i+1)).all (okA N))=true then 0 else 16):=fun z=>by rw [z]; rfl
  by_cases a1 : A[i].From<0
  ·rw [if_pos a1]; exact bad (by unfold okA; rw [decide_eq_false_iff_not]; omega)
  rw [if_neg a1]
  by_cases a2 : N≤A[i].From
  ·rw [if_pos a2]; exact bad (by unfold okA; rw [decide_eq_false_iff_not]; omega)
  rw [if_neg a2]
  by_cases a3 : A[i].To<0
  ·rw [if_pos a3]; exact bad (by unfold okA; rw [decide_eq_false_iff_not]; omega)
  rw [if_neg a3]
  by_cases a4 : N≤A[i].To
  ·rw [if_pos a4]; exact bad (by unfold okA; rw [decide_eq_false_iff_not]; omega)
  rw [if_neg a4]
  by_cases a5 : A[i].From=A[i].To
  ·rw [if_pos a5]; exact bad (by unfold okA; rw [decide_eq_false_iff_not]; omega)
  rw [if_neg a5]
  by_cases a6 : A[i].To=0
  ·rw [if_pos a6]; exact bad (by unfold okA; rw [decide_eq_false_iff_not]; omega)
  rw [if_neg a6]
  by_cases a7 : A[i].From=1
  ·rw [if_pos a7]; exact bad (by unfold okA; rw [decide_eq_false_iff_not]; omega)
  rw [if_neg a7]
  by_cases a8 : A[i].Cap<0
  ·rw [if_pos a8]; exact bad (by unfold okA; rw [decide_eq_false_iff_not]; omega)
  rw [if_neg a8]
  by_cases a9 : 1048576<A[i].Cap
  ·rw [if_pos a9]; exact bad (by unfold okA; rw [decide_eq_false_iff_not]; omega)
  rw [if_neg a9]
  have : okA N A[i]=true:=by unfold okA; rw [decide_eq_true_eq]; omega
  rw [this,Bool.true_and]
theorem Amx (k : Nat) (N : Int) (A : List AaC) (hk : 1200<k) : AcA k N A=some (if ArF N A then 0 else 16):=by
 unfold AcA ArF
 by_cases h1 : N<2
 ·rw [if_pos h1,decide_eq_false (by omega)]; rfl
 rw [if_neg h1]
 by_cases h2 : 130<N
 ·rw [if_pos h2,decide_eq_false (by omega)]; rfl
 rw [if_neg h2]
 by_cases h3 : 1200<(A.length : Int)
 ·rw [if_pos h3,decide_eq_false (by omega)]; rfl
 rw [if_neg h3,decide_eq_true (by omega),Bool.true_and]
 exact Agz k N A (by omega) A.length 0 k (by omega) (by omega)
end Go.TF
set_option linter.unusedVariables false
set_option linter.unusedSimpArgs false
set_option maxRecDepth 100000
namespace Go.TF
open Go Go.Abs
def vS (N : Int) (A : List AaC) (side : List Int) : Bool:=ArF N A&&(setF N none side&&(decide ((0 : Int) ∈ side) && !decide ((1 : Int) ∈ side)))
def inS (side : List Int) (v : Int) : Bool:=decide (v ∈ side)
def cpS (A : List AaC) (side : List Int) : Int:=Mf.capS (ar A) (inS side)
structure NM (N : Nat) (A : List AaC) : Prop where
 nv : NV N A
 n8 : N≤8
 l15 : A.length≤15
 c5 : ∀ a ∈ A,a.Cap≤5
end Go.TF
set_option linter.unusedVariables false
set_option linter.unusedSimpArgs false
set_option maxRecDepth 100000
namespace Go.TF
open Go Go.Abs
theorem AlQ (w : Mf.Arc→Int) : ∀ (A B : List Mf.Arc) (f g : List Int),A.length=f.length→Mf.sm (A++B) (f++g) w=Mf.sm A f w+Mf.sm B g w
 | [],B,[],g,_=>by simp [Mf.sm_nil]
 | a::A,B,x::f,g,h=>by
  rw [List.cons_append,List.cons_append,Mf.sm_cons,Mf.sm_cons,AlQ w A B f g (by simpa using h)]; omega
 | [],B,x::f,g,h=>by simp at h
 | a::A,B,[],g,h=>by simp at h
theorem Ah7 (A : List AaC) (f : List Int) (i : Nat) (h1 : i<A.length) (h2 : i<f.length) (v : Int) :
 Mf.sur (ar (A.take (i+1))) (f.take (i+1)) v=Mf.sur (ar (A.take i)) (f.take i) v+(Mf.b2 (A[i].From=v)-Mf.b2 (A[i].To=v))*f[i]:=by
 have e1 : ar (A.take (i+1))=ar (A.take i)++[⟨A[i].From,A[i].To,A[i].Cap⟩]:=by
  unfold ar; rw [List.take_succ_eq_append_getElem h1,List.map_append]; rfl
 rw [e1,List.take_succ_eq_append_getElem h2]
 unfold Mf.sur
 rw [AlQ _ _ _ _ _ (by rw [Ab6,List.length_take,List.length_take]; omega),Mf.sm_cons,Mf.sm_nil,Int.add_zero]
def inB (A : List AaC) (f : List Int) : Bool:=(A.zip f).all fun p=>decide (0≤p.2∧p.2≤p.1.Cap)
def AlH (N : Nat) (A : List AaC) (f : List Int) : Bool:=(List.range N).all fun (v : Nat)=>decide (v<2∨Mf.sur (ar A) f (v : Int)=0)
def flB (N : Int) (A : List AaC) (f : List Int) : Bool:=ArF N A&&(decide (f.length=A.length)&&(inB A f&&AlH N.toNat A f))
theorem Ahd {A : List AaC} {f : List Int} (hl : f.length=A.length) : inB A f=true↔∀ (i : Nat) (h1 : i<A.length) (h2 : i<f.length),0≤f[i]∧f[i]≤A[i].Cap:=by
 unfold inB
 rw [List.all_eq_true]
 constructor
 ·intro h i h1 h2
  have:=h (A[i],f[i]) (List.mem_iff_getElem.2 ⟨i,by simp; omega,by simp⟩)
  simpa using this
 ·intro h p hp
  obtain ⟨i,hi,rfl⟩:=List.mem_iff_getElem.1 hp
  simp only [List.length_zip] at hi
  have:=h i (by omega) (by omega)
  simpa using this
theorem Asz {A : List AaC} {N : Nat} (h : NV N A) (v : Int) (hv : v<0∨(N : Int)≤v) : ∀ f,Mf.sur (ar A) f v=0:=by
 intro f
 unfold Mf.sur
 rw [Mf.sm_congr (w':=fun _=>0) (fun a ha=>?_) f,Mf.sm_zero]
 have:=h.net.rng a ha
 unfold Mf.b2
 rw [if_neg (by omega),if_neg (by omega)]; rfl
theorem Ahh (N : Int) (A : List AaC) (f : List Int) : flB N A f=true↔∃ n : Nat,N=n∧NV n A∧Mf.Flow n (ar A) f:=by
 unfold flB
 rw [Bool.and_eq_true,AhE,Bool.and_eq_true,decide_eq_true_eq,Bool.and_eq_true]
 constructor
 ·rintro ⟨⟨n,rfl,nv⟩,hl,h1,h2⟩
  rw [Ahd hl] at h1
  unfold AlH at h2
  rw [List.all_eq_true] at h2
  refine ⟨n,rfl,nv,by rw [Ab6,hl],fun i hi=>(h1 i (by omega) hi).1,fun i hi h'=>?_,fun v v0 v1=>?_⟩
  ·have:=(h1 i (by omega) hi).2; simpa [ar] using this
  ·by_cases hv : 0≤v∧v<n
   ·have:=h2 v.toNat (by rw [List.mem_range]; omega)
    rw [decide_eq_true_eq] at this
    rcases this with q | q
    ·omega
    ·rw [show ((v.toNat : Nat) : Int)=v by omega] at q; exact q
   ·exact Asz nv v (by omega) f
 ·rintro ⟨n,rfl,nv,fl⟩
  have hl:=fl.len
  rw [Ab6] at hl
  refine ⟨⟨n,rfl,nv⟩,hl,(Ahd hl).2 fun i h1 h2=>⟨fl.lo i h2,by have:=fl.hi i h2 (by rw [Ab6]; exact h1); simpa [ar] using this⟩,?_⟩
  unfold AlH
  rw [List.all_eq_true]
  intro v hv
  rw [decide_eq_true_eq]
  by_cases z : v<2
  ·exact .inl z
  ·right; exact fl.zero _ (by omega) (by omega)
theorem AiV {A : List AaC} {f : List Int} (hA : ∀ a ∈ A,a.Cap≤1048576) (v : Int) : ∀ i : Nat,i≤A.length→i≤f.length→(∀ (j : Nat) (h1 : j<A.length) (h2 : j<f.length),j<i→0≤f[j]∧f[j]≤A[j].Cap) → -((i : Int)*1048576)≤Mf.sur (ar (A.take i)) (f.take i) v∧Mf.sur (ar (A.take i)) (f.take i) v≤(i : Int)*1048576:=by
 intro i
 induction i with
 | zero=>intro _ _ _; simp [Mf.sur,ar,Mf.sm_nil]
 | succ i ih =>
  intro h1 h2 hr
  have:=ih (by omega) (by omega) fun j j1 j2 j3=>hr j j1 j2 (by omega)
  have r:=hr i (by omega) (by omega) (by omega)
  have c:=hA _ (List.getElem_mem (show i<A.length by omega))
  rw [Ah7 A f i (by omega) (by omega)]
  unfold Mf.b2
  split <;> split <;> simp <;> omega
theorem AvB (k N : Nat) (g : Int→Int) (hN : N≤1000000000) : ∀ (m i n : Nat),i+m=N→m<n→AbM.L2 k (N : Int) (AfS N g) n (i : Int)=some ((List.range N).all fun (v : Nat)=>decide (v<i∨g (v : Int)=0))
 | 0,i,n+1,e,_=>by
  rw [AbM.L2,if_neg (by omega)]
  congr 1; symm
  rw [List.all_eq_true]; intro v hv
  rw [List.mem_range] at hv
  rw [decide_eq_true_eq]; left; omega
 | m+1,i,n+1,e,hn=>by
  rw [AbM.L2,if_pos (by omega),Adh (by omega) (by omega)]
  by_cases z : g (i : Int)=0
  ·rw [if_neg (by simpa using z),Acv i (by omega),AvB k N g hN m (i+1) n (by omega) (by omega)]
   congr 2
   funext v
   refine decide_eq_decide.2 ⟨fun h=>?_,fun h=>by rcases h with h | h; exact .inl (by omega); exact .inr h⟩
   rcases h with h | h
   ·by_cases q : v=i
    ·subst q; exact .inr z
    ·exact .inl (by omega)
   ·exact .inr h
  ·rw [if_pos z]
   congr 1; symm
   rw [List.all_eq_false]
   exact ⟨i,by rw [List.mem_range]; omega,by rw [decide_eq_true_eq]; rintro (h | h); omega; exact z h⟩
theorem AvC (k N : Nat) (A : List AaC) (f : List Int) (h : NV N A) (hl : f.length=A.length) (hk : N<k) : ∀ (m i n : Nat),i+m=f.length→m<n→(∀ (j : Nat) (h1 : j<A.length) (h2 : j<f.length),j<i→0≤f[j]∧f[j]≤A[j].Cap) →
 AbM.L1 k (N : Int) A f n (i : Int) (AfS N fun v => -Mf.sur (ar (A.take i)) (f.take i) v)=some (inB A f&&AlH N A f)
 | 0,i,n+1,e,_,hr=>by
  have hN:=h.n130; have h2:=h.two
  have : i=f.length:=by omega
  subst this
  rw [AbM.L1,if_neg (by omega),List.take_of_length_le (Nat.le_refl _),List.take_of_length_le (by omega)]
  have:=AvB k N (fun v => -Mf.sur (ar A) f v) (by omega) (N-2) 2 k (by omega) (by omega)
  rw [show (2 : Int)=((2 : Nat) : Int) from rfl,this,(Ahd hl).2 fun j h1 h2=>hr j h1 h2 h2,Bool.true_and]
  unfold AlH
  congr 2
  funext v
  exact decide_eq_decide.2 ⟨fun h=>by rcases h with h | h; exact .inl h; exact .inr (by omega),fun h=>by rcases h with h | h; exact .inl h; exact .inr (by omega)⟩
 | m+1,i,n+1,e,hn,hr=>by
  have hi : i<f.length:=by omega
  have hiA : i<A.length:=by omega
  have ok:=h.ok _ (List.getElem_mem hiA)
  have hA:=h.len
  have bad : (¬ (0≤f[i]∧f[i]≤A[i].Cap))→inB A f=false:=by
   intro z
   cases q : inB A f with
   | false=>rfl
   | true=>exact absurd ((Ahd hl).1 q i hiA hi) z
  rw [AbM.L1,if_pos (by omega),Aae hi]
  by_cases c1 : f[i]<0
  ·rw [if_pos c1,bad (by omega)]; rfl
  rw [if_neg c1,Aae hiA]
  by_cases c2 : A[i].Cap<f[i]
  ·rw [if_pos c2,bad (by omega)]; rfl
  rw [if_neg c2]
  have B:=fun v=>AiV (A:=A) (f:=f) (fun a ha=>(h.ok a ha).2.2.2.2.2.2.2.2) v i (by omega) (by omega) hr
  have b1:=B A[i].From; have b2:=B A[i].To
  rw [AaT (by rw [Ab2]; omega),Adh ok.1 ok.2.1,AaT (by rw [Ab2]; omega),w64 (by omega) (by omega),Afy ok.1,AaT (by rw [Ab2]; omega),Adh ok.2.2.1 ok.2.2.2.1,AaT (by rw [Ab2]; omega),if_neg (fun z=>ok.2.2.2.2.1 z.symm),Acv i (by omega),Afy ok.2.2.1,w64 (n := -Mf.sur (ar (A.take i)) (f.take i) A[i].To+f[i]) (by omega) (by omega)]
  have ih:=AvC k N A f h hl hk m (i+1) n (by omega) (by omega) (fun j h1 h2 h3=>by
   by_cases z : j=i
   ·subst z; omega
   ·exact hr j h1 h2 (by omega))
  rw [← ih]
  congr 2
  funext v
  rw [Ah7 A f i hiA hi]
  unfold Mf.b2
  by_cases e1 : v=A[i].To
  ·subst e1
   rw [if_pos rfl,if_neg (fun z=>ok.2.2.2.2.1 z),if_pos rfl]; omega
  ·rw [if_neg e1]
   by_cases e2 : v=A[i].From
   ·subst e2
    rw [if_pos rfl,if_pos rfl,if_neg (fun z=>e1 z.symm)]; omega
   ·rw [if_neg e2,if_neg (fun z=>e2 z.symm),if_neg (fun z=>e1 z.symm)]; omega
theorem ApW (k : Nat) (N : Int) (A : List AaC) (f : List Int) (hk : 1300<k) : AbM k N A f=some (flB N A f):=by
 unfold AbM flB
 rw [Amx k N A (by omega),AaJ]
 cases h : ArF N A with
 | false=>rw [if_pos (by simp)]; rfl
 | true =>
  obtain ⟨n,rfl,nv⟩:=(AhE _ _).1 h
  have:=nv.n130; have:=nv.len
  rw [if_neg (by simp)]
  by_cases hl : f.length=A.length
  ·rw [if_neg (by omega),decide_eq_true hl,AaT (by omega),show ((n : Int)).toNat=n by omega,Ah6]
   exact AvC k n A f nv hl (by omega) f.length 0 k (by omega) (by omega) (fun j _ _ h=>by omega)
  ·rw [if_pos (by omega),decide_eq_false hl]; rfl
theorem ApX (k N : Nat) (A : List AaC) (f : List Int) (h : NV N A) (hf : Mf.Flow N (ar A) f) : ∀ (m i n : Nat),i+m=f.length→m<n→AbL.L1 k A f n (Mf.sur (ar (A.take i)) (f.take i) 0) (i : Int)=some (Mf.val (ar A) f)
 | 0,i,n+1,e,_=>by
  have hl:=hf.len
  rw [Ab6] at hl
  have : i=f.length:=by omega
  subst this
  rw [AbL.L1,if_neg (by omega),List.take_of_length_le (Nat.le_refl _),List.take_of_length_le (by omega)]; rfl
 | m+1,i,n+1,e,hn=>by
  have hl:=hf.len
  rw [Ab6] at hl
  have hA:=h.len
  have hi : i<f.length:=by omega
  have hiA : i<A.length:=by omega
  have fb:=FB.of hf
  have ok:=h.ok _ (List.getElem_mem hiA)
  have r1:=fb.lo i hi; have r2:=fb.hi i hi hiA
  have B:=AiV (A:=A) (f:=f) (fun a ha=>(h.ok a ha).2.2.2.2.2.2.2.2) 0 i (by omega) (by omega) (fun j h1 h2 _=>⟨fb.lo j h2,fb.hi j h2 h1⟩)
  have ih:=ApX k N A f h hf m (i+1) n (by omega) (by omega)
  rw [Ah7 A f i hiA hi] at ih
  rw [AbL.L1,if_pos (by omega),Aae hiA]
  unfold AbL.J2
  unfold Mf.b2 at ih
  rw [if_neg (show ¬ A[i].To=0 from ok.2.2.2.2.2.1)] at ih
  by_cases c : A[i].From=0
  ·rw [if_pos c] at ih
   rw [if_pos c,Aae hi,w64 (by omega) (by omega),Acv i (by omega),← ih]
   congr 1; omega
  ·rw [if_neg c] at ih
   rw [if_neg c,Acv i (by omega),← ih]
   congr 1; omega
theorem ApV (k : Nat) (N : Int) (A : List AaC) (f : List Int) (hk : 1300<k) : AbL k N A f=some (if flB N A f then Mf.val (ar A) f else 0):=by
 unfold AbL
 rw [ApW k N A f hk,AaJ]
 cases h : flB N A f with
 | false=>rfl
 | true =>
  obtain ⟨n,rfl,nv,fl⟩:=(Ahh _ _ _).1 h
  have hl:=fl.len
  rw [Ab6] at hl
  have:=nv.len
  rw [if_neg (by simp)]
  have:=ApX k n A f nv fl f.length 0 k (by omega) (by omega)
  rw [List.take_zero,List.take_zero] at this
  exact this
end Go.TF
set_option linter.unusedVariables false
set_option linter.unusedSimpArgs false
set_option maxRecDepth 100000
namespace Go.TF
open Go Go.Abs
theorem AqJ (k N : Nat) (A : List AaC) (f : List Int) (h : NV N A) (hl : f.length=A.length) (hr : ∀ (j : Nat) (h1 : j<A.length) (h2 : j<f.length),0≤f[j]∧f[j]≤A[j].Cap) : ∀ (m i n : Nat),i+m=A.length→m<n →
 Abg.L1 k A f n (i : Int) (AfS N fun v=>Mf.sur (ar (A.take i)) (f.take i) v)=some (AfS N fun v=>Mf.sur (ar A) f v)
 | 0,i,n+1,e,_=>by
  have : i=A.length:=by omega
  subst this
  rw [Abg.L1,if_neg (by omega),List.take_of_length_le (Nat.le_refl _),List.take_of_length_le (by omega)]
 | m+1,i,n+1,e,hn=>by
  have hiA : i<A.length:=by omega
  have hi : i<f.length:=by omega
  have ok:=h.ok _ (List.getElem_mem hiA)
  have hA:=h.len
  have rr:=hr i hiA hi
  have B:=fun v=>AiV (A:=A) (f:=f) (fun a ha=>(h.ok a ha).2.2.2.2.2.2.2.2) v i (by omega) (by omega) (fun j h1 h2 _=>hr j h1 h2)
  have b1:=B A[i].From; have b2:=B A[i].To
  rw [Abg.L1,if_pos (by omega),Aae hiA,AaT (by rw [Ab2]; omega),Adh ok.1 ok.2.1,Aae hi,AaT (by rw [Ab2]; omega),w64 (by omega) (by omega),Afy ok.1,AaT (by rw [Ab2]; omega),Adh ok.2.2.1 ok.2.2.2.1,AaT (by rw [Ab2]; omega),if_neg (fun z=>ok.2.2.2.2.1 z.symm),Acv i (by omega),Afy ok.2.2.1,w64 (n:=Mf.sur (ar (A.take i)) (f.take i) A[i].To-f[i]) (by omega) (by omega)]
  have ih:=AqJ k N A f h hl hr m (i+1) n (by omega) (by omega)
  rw [← ih]
  congr 2
  funext v
  rw [Ah7 A f i hiA hi]
  unfold Mf.b2
  by_cases e1 : v=A[i].To
  ·subst e1
   rw [if_pos rfl,if_neg (fun z=>ok.2.2.2.2.1 z),if_pos rfl]; omega
  ·rw [if_neg e1]
   by_cases e2 : v=A[i].From
   ·subst e2
    rw [if_pos rfl,if_pos rfl,if_neg (fun z=>e1 z.symm)]; omega
   ·rw [if_neg e2,if_neg (fun z=>e2 z.symm),if_neg (fun z=>e1 z.symm)]; omega
theorem AqI (k N : Nat) (A : List AaC) (f : List Int) (h : NV N A) (hl : f.length=A.length) (hr : ∀ (j : Nat) (h1 : j<A.length) (h2 : j<f.length),0≤f[j]∧f[j]≤A[j].Cap) (hk : 1200<k) : Abg k (N : Int) A f=some (AfS N fun v=>Mf.sur (ar A) f v):=by
 have:=h.n130; have:=h.len
 unfold Abg
 rw [AaT (by omega),show ((N : Int)).toNat=N by omega,Ah6]
 exact AqJ k N A f h hl hr A.length 0 k (by omega) (by omega)
theorem Apv (k : Nat) (l : List Int) (h9 : l.length≤1000000) : ∀ (m i n : Nat),i+m=l.length→m<n→∃ r,Aaa.L1 k l n (i : Int)=some r∧(0≤r↔(l.drop i).all (fun x=>decide (x=0))=false)
 | 0,i,n+1,e,_=>⟨-1,by rw [Aaa.L1,if_neg (by omega)],by
  rw [List.drop_of_length_le (by omega)]
  constructor
  ·intro h; omega
  ·intro h; cases h⟩
 | m+1,i,n+1,e,hn=>by
  have hi : i<l.length:=by omega
  obtain ⟨r,e1,e2⟩:=Apv k l h9 m (i+1) n (by omega) (by omega)
  rw [Aaa.L1,if_pos (by omega),Aae hi,Aea,AaJ,List.drop_eq_getElem_cons hi,List.all_cons]
  by_cases c : l[i]=0
  ·rw [if_neg (by simp [c]),Acv i (by omega)]
   exact ⟨r,e1,by rw [e2,decide_eq_true c,Bool.true_and]⟩
  ·rw [if_pos (by simpa using c)]
   exact ⟨i,rfl,by rw [decide_eq_false c]; simp⟩
theorem Avi (k N : Nat) (A : List AaC) (f : List Int) (h : NV N A) (hl : f.length=A.length) (hk : 1300<k) : ∀ (m i n : Nat),i+m=A.length→m<n→(∀ (j : Nat) (h1 : j<A.length) (h2 : j<f.length),j<i→0≤f[j]∧f[j]≤A[j].Cap) →
 Abn.L1 k (N : Int) A f n (i : Int)=some (inB A f&&AlH N A f)
 | 0,i,n+1,e,_,hr=>by
  have hN:=h.n130; have h2:=h.two
  have : i=A.length:=by omega
  subst this
  have hr' : ∀ (j : Nat) (h1 : j<A.length) (h2 : j<f.length),0≤f[j]∧f[j]≤A[j].Cap:=fun j h1 h2=>hr j h1 h2 h1
  rw [Abn.L1,if_neg (by omega),AqI k N A f h hl hr' (by omega),AaJ,AaT (by rw [Ab2]; omega),Abc,Aaa]
  obtain ⟨r,e1,e2⟩:=Apv k ((AfS N fun v=>Mf.sur (ar A) f v).drop ((2 : Int).toNat)) (by rw [List.length_drop,Ab2]; omega) _ 0 k (Nat.zero_add _) (by rw [List.length_drop,Ab2]; omega)
  have e1 : Aaa.L1 k ((AfS N fun v=>Mf.sur (ar A) f v).drop ((2 : Int).toNat)) k 0=some r:=e1
  rw [e1,AaJ,AaJ,(Ahd hl).2 hr',Bool.true_and]
  congr 1
  rw [List.drop_zero] at e2
  have q : AlH N A f=((AfS N fun v=>Mf.sur (ar A) f v).drop ((2 : Int).toNat)).all (fun x=>decide (x=0)):=by
   rw [Bool.eq_iff_iff]
   unfold AlH
   rw [List.all_eq_true,List.all_eq_true]
   constructor
   ·intro z x hx
    obtain ⟨j,hj,rfl⟩:=List.mem_iff_getElem.1 hx
    rw [List.length_drop,Ab2] at hj
    rw [List.getElem_drop,Anf]
    have:=z ((2 : Int).toNat+j) (by rw [List.mem_range]; omega)
    rw [decide_eq_true_eq] at this ⊢
    rcases this with w | w
    ·have : (2 : Int).toNat=2:=rfl
     omega
    ·exact w
   ·intro z v hv
    rw [List.mem_range] at hv
    rw [decide_eq_true_eq]
    by_cases c : v<2
    ·exact .inl c
    ·right
     have:=z (Mf.sur (ar A) f (v : Int)) (by
      rw [List.mem_iff_getElem]
      refine ⟨v-2,by rw [List.length_drop,Ab2]; exact Nat.sub_lt_sub_right (by omega) hv,?_⟩
      rw [List.getElem_drop,Anf]
      congr 1
      have : (2 : Int).toNat=2:=rfl
      omega)
     simpa using this
  rw [q]
  cases c : ((AfS N fun v=>Mf.sur (ar A) f v).drop ((2 : Int).toNat)).all (fun x=>decide (x=0)) with
  | true =>
   have : ¬ 0≤r:=fun h=>by rw [e2.1 h] at c; cases c
   rw [decide_eq_false this]; rfl
  | false=>rw [decide_eq_true (e2.2 c)]; rfl
 | m+1,i,n+1,e,hn,hr=>by
  have hi : i<f.length:=by omega
  have hiA : i<A.length:=by omega
  have hA:=h.len
  have ih:=Avi k N A f h hl hk m (i+1) n (by omega) (by omega)
  rw [Abn.L1,if_pos (by omega),Aae hiA,Aae hi,Apz,AaJ]
  by_cases c : 0≤f[i]∧f[i]≤A[i].Cap
  ·rw [decide_eq_true c,if_neg (by simp),Acv i (by omega)]
   exact ih fun j h1 h2 h3=>by
    by_cases z : j=i
    ·subst z; exact c
    ·exact hr j h1 h2 (by omega)
  ·rw [decide_eq_false c,if_pos (by rfl)]
   cases q : inB A f with
   | false=>rfl
   | true=>exact absurd ((Ahd hl).1 q i hiA hi) c
theorem AmM (k : Nat) (N : Int) (A : List AaC) (f : List Int) (hk : 1300<k) : Abn k N A f=some (flB N A f):=by
 unfold Abn flB
 rw [Ai6 k N A (by omega),AaJ]
 cases h : ArF N A with
 | false=>rw [if_pos (by simp)]; rfl
 | true =>
  obtain ⟨n,rfl,nv⟩:=(AhE _ _).1 h
  have:=nv.n130; have:=nv.len
  rw [if_neg (by simp)]
  by_cases hl : f.length=A.length
  ·rw [if_neg (by omega),decide_eq_true hl]
   exact Avi k n A f nv hl (by omega) A.length 0 k (by omega) (by omega) (fun j _ _ h=>by omega)
  ·rw [if_pos (by omega),decide_eq_false hl]; rfl
theorem AmL (k : Nat) (N : Int) (A : List AaC) (f : List Int) (hk : 1300<k) : AeB k N A f=some (if flB N A f then Mf.val (ar A) f else 0):=by
 unfold AeB
 rw [AmM k N A f hk,AaJ]
 cases h : flB N A f with
 | false=>rfl
 | true =>
  obtain ⟨n,rfl,nv,fl⟩:=(Ahh _ _ _).1 h
  have hl:=fl.len
  rw [Ab6] at hl
  have fb:=FB.of fl
  have:=nv.two
  rw [if_neg (by simp),AqI k n A f nv hl (fun j h1 h2=>⟨fb.lo j h2,fb.hi j h2 h1⟩) (by omega),AaJ,AaT (by rw [Ab2]; exact ⟨by omega,by simpa using (by omega : 0<n)⟩),Adh (by omega) (by omega)]
  rfl
theorem AnM (k N : Nat) (A : List AaC) (f : List Int) (h : NV N A) (hf : Mf.Flow N (ar A) f) (hk : 1300<k) : AeB k (N : Int) A f=some (Mf.val (ar A) f):=by
 rw [AmL k N A f hk,if_pos ((Ahh _ _ _).2 ⟨N,rfl,h,hf⟩)]
end Go.TF
set_option linter.unusedVariables false
set_option linter.unusedSimpArgs false
set_option maxRecDepth 100000
namespace Go.TF
open Go Go.Abs
theorem AnW.least {N : Nat} {A : List AaC} {f : List Int} (h : NV N A) (d : AnW N A f) : Mf.Least (ar A) (Mf.val (ar A) f):=by
 obtain ⟨S,s0,s1,sc⟩:=d.side h
 exact Mf.least_of h.net d.fl S s0 s1 sc
theorem AnW.rng {N : Nat} {A : List AaC} {f : List Int} (h : NV N A) (d : AnW N A f) : 0≤Mf.val (ar A) f∧Mf.val (ar A) f≤((A.length*1048576 : Nat) : Int):=by
 refine ⟨?_,AlM h f d.fl⟩
 obtain ⟨S,s0,s1,e⟩:=(d.least h).is
 rw [← e]
 exact Mf.capS_nonneg h.net.cap S
def AyY : List AaC→List AaC
 | []=>[]
 | a::l=>AyY l++[a,⟨0,1,0⟩]
def twF (A : List AaC) : List AaC:=A.map fun a=>⟨a.From,a.To,2*a.Cap⟩
def btF (s : Int) (i : Nat) : Bool:=decide (Aah .and .i64 (Int.fdiv s (2 ^ (min ((IntKind.wrap .u64 (i : Int)).toNat) 64))) 1=1)
def ofB (S : Nat→Bool) : Nat→Nat
 | 0=>0
 | n+1=>ofB S n+if S n then 2 ^ n else 0
structure Sx (s : Int) (i : Nat) (a : List Int) : Prop where
 rng : ∀ x ∈ a,0≤x∧x<i
 mem : ∀ j : Nat,j<i→((j : Int) ∈ a↔btF s j=true)
 len : a.length≤i
def ldB (s v : Int) : Bool:=btF s v.toNat
end Go.TF
