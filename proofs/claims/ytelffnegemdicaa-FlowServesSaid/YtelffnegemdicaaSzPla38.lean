import Derived.Test.YtelffnegemdicaaSzPla37
set_option linter.unusedVariables false
set_option linter.unusedSimpArgs false
set_option maxRecDepth 100000
namespace Go.TF
open Go Go.Abs
theorem Afi {w : Mf.Arc→Int} : ∀ {A : List Mf.Arc} {f : List Int},(∀ a ∈ A,0≤w a)→(∀ (i : Nat) (h : i<f.length),0≤f[i])→0≤Mf.sm A f w
 | [],f,_,_=>by rw [Mf.sm_nil]; exact Int.le_refl _
 | a::A,[],_,_=>by rw [Mf.sm_nil']; exact Int.le_refl _
 | a::A,x::f,h1,h2=>by
  rw [Mf.sm_cons]
  have:=h2 0 (by simp)
  have p:=Int.mul_nonneg (h1 a List.mem_cons_self) this
  have q:=Afi (A:=A) (f:=f) (fun b hb=>h1 b (List.mem_cons_of_mem _ hb)) fun i hi=>by have:=h2 (i+1) (by simpa using hi); simpa using this
  simp only [List.getElem_cons_zero] at p
  omega
theorem Ank (p : Prop) [Decidable p] : 0≤Mf.b2 p:=by unfold Mf.b2; split <;> omega
theorem Alt {A : List AaC} {f : List Int} {i : Nat} (h1 : i<A.length) (h2 : i<f.length) (w : Mf.Arc→Int) : Mf.sm (ar (A.drop i)) (f.drop i) w=w ⟨A[i].From,A[i].To,A[i].Cap⟩*f[i]+Mf.sm (ar (A.drop (i+1))) (f.drop (i+1)) w:=by
 have e : ar (A.drop i)=⟨A[i].From,A[i].To,A[i].Cap⟩::ar (A.drop (i+1)):=by unfold ar; rw [List.drop_eq_getElem_cons h1,List.map_cons]
 rw [e,List.drop_eq_getElem_cons h2,Mf.sm_cons]
def wS (x : Int) (a : Mf.Arc) : Int:=Mf.b2 (a.fr=2+2*x∧a.to=1)
def wT (x : Int) (a : Mf.Arc) : Int:=Mf.b2 (a.to=2+2*x)
theorem AmW {f : List Int} (h : ∀ (i : Nat) (h : i<f.length),0≤f[i]) (i : Nat) : ∀ (j : Nat) (h : j<(f.drop i).length),0≤(f.drop i)[j]:=fun j hj=>by rw [List.getElem_drop]; exact h _ _
theorem AqT (k : Nat) (ks : List Int) (A : List AaC) (f : List Int) (N : Nat) (c : Int→Int) (x : Nat) (hx : x<N) (hN : N≤64) (hl : f.length=A.length) (h9 : A.length≤100000) (nn : ∀ (i : Nat) (h : i<f.length),0≤f[i]) (hks : ks.length<k) (hks9 : ks.length≤1000000) (good : ∀ a ∈ A,a.From=2+2*(x : Int)→a.To=1→(x : Int) ∈ ks) (kb : Int→Int→Option Bool) : ∀ (m i n : Nat) (sv th : Int),i+m=A.length→m<n→0≤sv→0≤th→sv+Mf.sm (ar (A.drop i)) (f.drop i) (wS x)≤9223372036854775807→th+Mf.sm (ar (A.drop i)) (f.drop i) (wT x)≤9223372036854775807 →
 AaQ.L2 k ks A f (tab N c) (x : Int) kb n sv th (i : Int)=if c x<th+Mf.sm (ar (A.drop i)) (f.drop i) (wT x) then some false else kb (sv+Mf.sm (ar (A.drop i)) (f.drop i) (wS x)) ((x+1 : Nat) : Int)
 | 0,i,n+1,sv,th,e,_,_,_,_,_=>by
  rw [AaQ.L2,if_neg (by omega),Adx (by omega) (by omega),List.drop_of_length_le (l:=A) (by omega)]
  simp only [ar,List.map_nil,Mf.sm_nil,Int.add_zero]
  rw [AdO x (by omega)]
 | m+1,i,n+1,sv,th,e,hn,s0,t0,s1,t1=>by
  have hi : i<A.length:=by omega
  have hi' : i<f.length:=by omega
  have fi:=nn i hi'
  have dS:=Alt hi hi' (wS (x : Int)); have dT:=Alt hi hi' (wT (x : Int))
  have nS:=Afi (A:=ar (A.drop (i+1))) (w:=wS (x : Int)) (fun _ _=>Ank _) (AmW nn (i+1))
  have nT:=Afi (A:=ar (A.drop (i+1))) (w:=wT (x : Int)) (fun _ _=>Ank _) (AmW nn (i+1))
  have gd:=good _ (List.getElem_mem hi)
  rw [dS] at s1; rw [dT] at t1
  have ih:=fun sv' th' a1 a2 a3 a4=>AqT k ks A f N c x hx hN hl h9 nn hks hks9 good kb m (i+1) n sv' th' (by omega) (by omega) a1 a2 a3 a4
  -- the part behind the sum of what comes in
  have tail : ∀ th' : Int,0≤th'→th'+Mf.sm (ar (A.drop (i+1))) (f.drop (i+1)) (wT x)≤9223372036854775807 →
   AaQ.J4 k ks A f (x : Int) sv (i : Int) (fun v25_ v26_ v27_=>AaQ.L2 k ks A f (tab N c) (x : Int) kb n v25_ v26_ v27_) th'=if c x<th'+Mf.sm (ar (A.drop (i+1))) (f.drop (i+1)) (wT x) then some false else kb (sv+(wS x ⟨A[i].From,A[i].To,A[i].Cap⟩*f[i]+Mf.sm (ar (A.drop (i+1))) (f.drop (i+1)) (wS x))) ((x+1 : Nat) : Int):=by
   intro th' h1 h2
   unfold AaQ.J4 AaQ.J3
   rw [Aav hi,AdH k x (by omega),AaR,AdO i (by omega)]
   by_cases q : A[i].From=2+2*(x : Int)
   ·rw [if_pos q]
    by_cases q2 : A[i].To=1
    ·have w1 : wS (x : Int) ⟨A[i].From,A[i].To,A[i].Cap⟩=1:=by unfold wS Mf.b2; rw [if_pos ⟨q,q2⟩]
     rw [w1] at s1 ⊢
     have I:=ih (sv+f[i]) th' (by omega) h1 (by omega) h2
     rw [if_pos q2,Aav hi',AgD k ks _ hks hks9,AaR,decide_eq_true (gd q q2),if_neg (show ¬ (!true)=true by simp),w64 (by omega) (by omega)]
     simp only [ite_self]
     refine I.trans ?_; congr 2; omega
    ·have w1 : wS (x : Int) ⟨A[i].From,A[i].To,A[i].Cap⟩=0:=by unfold wS Mf.b2; rw [if_neg (fun z=>q2 z.2)]
     rw [w1] at s1 ⊢
     rw [if_neg q2]; refine (ih sv th' s0 h1 (by omega) h2).trans ?_; congr 2; omega
   ·have w1 : wS (x : Int) ⟨A[i].From,A[i].To,A[i].Cap⟩=0:=by unfold wS Mf.b2; rw [if_neg (fun z=>q z.1)]
    rw [w1] at s1 ⊢
    rw [if_neg q]; refine (ih sv th' s0 h1 (by omega) h2).trans ?_; congr 2; omega
  rw [AaQ.L2,if_pos (by omega),Aav hi,AdH k x (by omega),AaR,dS,dT]
  by_cases q : A[i].To=2+2*(x : Int)
  ·have w1 : wT (x : Int) ⟨A[i].From,A[i].To,A[i].Cap⟩=1:=by unfold wT Mf.b2; rw [if_pos q]
   rw [w1] at t1 ⊢
   rw [if_pos q,Aav hi',w64 (by omega) (by omega),tail _ (by omega) (by omega)]
   rw [show th+f[i]+Mf.sm (ar (A.drop (i+1))) (f.drop (i+1)) (wT x)=th+(1*f[i]+Mf.sm (ar (A.drop (i+1))) (f.drop (i+1)) (wT x)) by omega]
  ·have w1 : wT (x : Int) ⟨A[i].From,A[i].To,A[i].Cap⟩=0:=by unfold wT Mf.b2; rw [if_neg q]
   rw [w1] at t1 ⊢
   rw [if_neg q,tail _ t0 (by omega)]
   rw [show th+Mf.sm (ar (A.drop (i+1))) (f.drop (i+1)) (wT x)=th+(0*f[i]+Mf.sm (ar (A.drop (i+1))) (f.drop (i+1)) (wT x)) by omega]
def wU (x : Int) (a : Mf.Arc) : Int:=Mf.b2 (a.to=1∧a.fr<2+2*x)
theorem AqU (N : Nat) (hN : N≤64) (ks : List Int) (A : List AaC) (nv : NV (2+2*N) A) (f : List Int) (fl : Mf.Flow (2+2*N) (ar A) f) (c : Int→Int) (hks9 : ks.length≤1000000) (good : ∀ a ∈ A,a.To=1→∃ y : Int,a.From=2+2*y∧0≤y∧y<N∧y ∈ ks) (hc : ∀ x : Nat,x<N→(Mf.sm (ar A) f (wT x))≤c x) (hv : Mf.val (ar A) f≤ks.length) : ∀ (m x n : Nat),x+m=N→m<n →
 AaQ.L1 1000000000 (N : Int) ks (2+2*(N : Int)) A f (tab N c) n (Mf.sm (ar A) f (wU x)) (x : Int)=some true
 | 0,x,n+1,e,_=>by
  have : x=N:=by omega
  subst this
  have lf:=fl.len
  rw [Acj] at lf
  have fB : flB (2+2*(x : Int)) A f=true:=(AmS _ _ _).2 ⟨2+2*x,by omega,nv,fl⟩
  have ev : Mf.sm (ar A) f (wU x)=Mf.val (ar A) f:=by
   rw [Anv nv fl]
   refine Mf.sm_congr (fun a ha=>?_) f
   obtain ⟨b,hb,rfl⟩:=List.mem_map.1 ha
   unfold wU
   simp only []
   by_cases z : b.To=1
   ·obtain ⟨y,y1,y2,y3,_⟩:=good b hb z
    unfold Mf.b2
    rw [if_pos ⟨z,by omega⟩,if_pos z]
   ·unfold Mf.b2
    rw [if_neg (fun q=>z q.1),if_neg z]
  rw [AaQ.L1,if_neg (by omega),Amp,AaR,if_pos rfl,Al0 1000000000 _ A f (by omega),AaR,if_pos fB,if_pos ev,ev,decide_eq_true hv]
 | m+1,x,n+1,e,hn=>by
  have lf:=fl.len
  rw [Acj] at lf
  have hA:=nv.len
  have up : ∀ w : Mf.Arc→Int,(∀ a,0≤w a∧w a≤1)→0≤Mf.sm (ar A) f w∧Mf.sm (ar A) f w≤A.length*1048576:=by
   intro w hw
   refine ⟨Afi (fun a _=>(hw a).1) fl.lo,?_⟩
   have fb:=FB.of fl
   have : ∀ (B : List AaC) (g : List Int),(∀ y ∈ g,0≤y∧y≤1048576)→Mf.sm (ar B) g w≤B.length*1048576:=by
    intro B
    induction B with
    | nil=>intro g _; simp [ar,Mf.sm_nil]
    | cons b B ih =>
     intro g hg
     cases g with
     | nil=>rw [Mf.sm_nil']; omega
     | cons y g =>
      have e' : ar (b::B)=⟨b.From,b.To,b.Cap⟩::ar B:=by simp [ar]
      have h1:=hg y List.mem_cons_self
      have h2:=hw ⟨b.From,b.To,b.Cap⟩
      have h3:=ih g fun z hz=>hg z (List.mem_cons_of_mem _ hz)
      have h4 : w ⟨b.From,b.To,b.Cap⟩*y≤1*y:=Int.mul_le_mul_of_nonneg_right h2.2 h1.1
      rw [e',Mf.sm_cons]
      simp only [List.length_cons]; omega
   exact this A f fun y hy=>by
    obtain ⟨j,hj,rfl⟩:=List.mem_iff_getElem.1 hy
    have a1:=fb.lo j hj
    have a2:=fb.hi j hj (by omega)
    have a3:=(nv.ok _ (List.getElem_mem (show j<A.length by omega))).2.2.2.2.2.2.2.2
    omega
  have b01 : ∀ (p : Prop) [Decidable p],0≤Mf.b2 p∧Mf.b2 p≤1:=fun p _=>by unfold Mf.b2; split <;> omega
  have uU:=up (wU x) fun a=>b01 _
  have uS:=up (wS x) fun a=>b01 _
  have uT:=up (wT x) fun a=>b01 _
  have l2:=AqT 1000000000 ks A f N c x (by omega) hN lf (by omega) fl.lo (by omega) hks9 (fun a ha h1 h2=>by
   obtain ⟨y,y1,_,_,y2⟩:=good a ha h2
   have : y=(x : Int):=by omega
   exact this ▸ y2) (fun v23_ v24_=>AaQ.L1 1000000000 (N : Int) ks (2+2*(N : Int)) A f (tab N c) n v23_ v24_) A.length 0 1000000000 (Mf.sm (ar A) f (wU x)) 0 (by omega) (by omega) uU.1 (by omega) (by rw [List.drop_zero,List.drop_zero]; omega) (by rw [List.drop_zero,List.drop_zero]; omega)
  rw [List.drop_zero,List.drop_zero,Int.zero_add,if_neg (by have:=hc x (by omega); omega)] at l2
  have ih:=AqU N hN ks A nv f fl c hks9 good hc hv m (x+1) n (by omega) (by omega)
  rw [AaQ.L1,if_pos (by omega)]
  refine Eq.trans l2 ?_
  rw [← ih]
  congr 1
  rw [← Mf.sm_add]
  refine Mf.sm_congr (fun a ha=>?_) f
  obtain ⟨b,hb,rfl⟩:=List.mem_map.1 ha
  unfold wU wS Mf.b2
  simp only []
  by_cases z : b.To=1
  ·obtain ⟨y,y1,y2,y3,_⟩:=good b hb z
   by_cases p : y=(x : Int)
   ·rw [if_neg (by omega),if_pos ⟨by omega,z⟩,if_pos ⟨z,by omega⟩]; rfl
   ·by_cases p2 : y<(x : Int)
    ·rw [if_pos ⟨z,by omega⟩,if_neg (by omega),if_pos ⟨z,by omega⟩]; rfl
    ·rw [if_neg (by omega),if_neg (by omega),if_neg (by omega)]; rfl
  ·rw [if_neg (fun q=>z q.1),if_neg (fun q=>z q.2),if_neg (fun q=>z q.1)]; rfl
theorem Aoi {N : Nat} {E : List AaA} {g s t : List Int} {lv : Int} {ks : List Int} (hE : inE N E) (hs : ∀ x ∈ s,0≤x∧x<N) (hk : ∀ x ∈ ks,0≤x∧x<N) (nv : NV (2+2*N) (AhU N E g s t lv ks)) : ∀ f,Mf.Flow (2+2*N) (ar (AhU N E g s t lv ks)) f→Mf.val (ar (AhU N E g s t lv ks)) f≤((ks.length : Nat) : Int):=by
 intro f fl
 have lf:=fl.len
 rw [Acj] at lf
 have fb:=FB.of fl
 rw [Anv nv fl]
 have a:=Agp (A:=AhU N E g s t lv ks) (f:=f) (w:=fun a=>Mf.b2 (a.to=1)) (fun _ _=>Ank _) lf fb.hi
 have b:=AqP (g:=g) (t:=t) (lv:=lv) hE hs hk
 exact Int.le_trans a b
theorem Aii (v0 : List Int) (h0 : Fit (.lst false false (v0.map (.int .i64)))) : ∃ k,AaQ k v0=some true:=by
 refine ⟨1000000000,?_⟩
 unfold AaQ
 rw [Anr,AaR]
 by_cases h : (v0.length : Int)≤400
 ·rw [if_neg (by simpa using h),ApQ,AbM]
  obtain ⟨N,E,g,q,e,hq,n1,n2,ok⟩:=Ant v0 0 (by omega) ⟨by omega,by omega⟩
  have G : GV N E g:=⟨by omega,by omega,ok⟩
  have hgl:=G.glen; have hel:=G.len
  obtain ⟨s,t,lv,q2,e2,hq2,pv⟩:=Amz v0 q N E g (by omega) hq (by omega) (by omega)
  have hs:=pv.sl; have ht9:=pv.t9
  obtain ⟨ks,q3,e3,hq3,ka,kr,hk⟩:=ApP 1000000000 v0 q2 (N : Int) (by omega) hq2 (by omega) (by omega) (by omega)
  have hset : setF N none ks=true:=(Afk _ _).2 ⟨kr,ka⟩
  have hl:=Aoj N E g s t lv ks
  have c9 : ∀ x,0≤cF N E g s t lv x∧cF N E g s t lv x≤100000:=fun x=>AjD (fun y hy=>by have:=pv.tr y hy; omega) _
  have ht1 : ∀ x ∈ t,1≤x:=fun x hx=>(pv.tr x hx).1
  have nv:=AqD (g:=g) (s:=s) (t:=t) (lv:=lv) (by omega) (by omega) G.inE pv.sr kr ht1 (fun x=>by have:=c9 x; omega) (by omega)
  have vb:=Aoi (g:=g) (t:=t) (lv:=lv) G.inE pv.sr kr nv
  obtain ⟨f,f1,f2⟩:=Ao0 1000000000 (2+2*N) _ nv (by omega) (by omega) ks.length vb (by omega)
  rw [show ((2+2*N : Nat) : Int)=2+2*(N : Int) by omega] at f1
  have fl:=f2.fl
  have lf:=fl.len
  rw [Acj] at lf
  have fb:=FB.of fl
  have cN : Am6 (2+2*(N : Int)) (AhU N E g s t lv ks)=true:=(Agf _ _).2 ⟨2+2*N,by omega,nv⟩
  rw [e,AhB,e2,AhB,e3,AbM,AoT N E g s t lv ks G.gw (by omega) (by omega) pv.pol,if_pos hset,Adl,f1,AbM,if_neg (by simp),if_neg (by simp),Agv 1000000000 _ _ (by omega),AaR,cN,if_neg (by simp),ArV N E g s t lv G.gw (by omega) (by omega),AaR]
  have gd:=Ako (g:=g) (lv:=lv) G.inE pv.sr kr ht1
  have main:=AqU N (by omega) ks (AhU N E g s t lv ks) nv f fl (cF N E g s t lv) (by omega) (fun a ha ht=>by
   rcases gd a ha with ⟨x,rfl,p⟩ | ⟨x,rfl,p⟩ | ⟨x,rfl,p⟩ | ⟨e,rfl,p⟩
   ·simp only [arS] at ht; omega
   ·simp only [arI] at ht; omega
   ·exact ⟨x,rfl,p.1,p.2.1,p.2.2.1⟩
   ·simp only [arE] at ht; omega) (fun x hx=>by
   have a:=Ak6 fl (2+2*(x : Int)) (by omega) (by omega)
   have b:=Agp (A:=AhU N E g s t lv ks) (f:=f) (w:=fun a=>Mf.b2 (a.fr=2+2*(x : Int))) (fun _ _=>Ank _) lf fb.hi
   have c:=Aoa (g:=g) (lv:=lv) G.inE pv.sr kr ka ht1 (fun x=>(c9 x).1) (x : Int) (by omega)
   have a' : Mf.sm (ar (AhU N E g s t lv ks)) f (wT (x : Int))=Mf.sm (ar (AhU N E g s t lv ks)) f fun a=>Mf.b2 (a.fr=2+2*(x : Int)):=a
   rw [a']; exact Int.le_trans b c) (vb f fl) N 0 1000000000 (by omega) (by omega)
  have z : Mf.sm (ar (AhU N E g s t lv ks)) f (wU ((0 : Nat) : Int))=0:=by
   rw [Mf.sm_congr (w':=fun _=>0) (fun a ha=>?_) f,Mf.sm_zero]
   obtain ⟨b,hb,rfl⟩:=List.mem_map.1 ha
   unfold wU Mf.b2
   have:=nv.ok b hb
   by_cases t1 : b.To=1
   ·rcases gd b hb with ⟨x,rfl,p⟩ | ⟨x,rfl,p⟩ | ⟨x,rfl,p⟩ | ⟨e,rfl,p⟩
    ·simp only [arS] at t1; omega
    ·simp only [arI] at t1; omega
    ·rw [if_neg (by simp only [arT]; omega)]
    ·simp only [arE] at t1; omega
   ·rw [if_neg (fun q=>t1 q.1)]
  rw [z] at main
  exact main
 ·rw [if_pos (by simpa using h),Amp,AaR]
end Go.TF
