import Derived.Test.YtelffnegemdicaaPmzPla36
set_option linter.unusedVariables false
set_option linter.unusedSimpArgs false
namespace Go.TF
open Go Go.Abs
def AkN (N lv a b : Int) : Bool:=decide (1≤lv∧lv≤3∧0≤a∧a<N∧0≤b∧b<N∧a≠b)
theorem AkM (k : Nat) (N : Int) (E : List AaB) (g : List Int) (lv a b : Int) (hN : -1000001≤N∧N≤1000001) : AcN k N E g lv a b=some (AkN N lv a b):=by
 unfold AcN AkN
 rw [AhM,Aan]
 by_cases h1 : 1≤lv∧lv≤3
 ·rw [if_pos (decide_eq_true h1),AhM,Aan,w64 (by omega) (by omega)]
  by_cases h2 : 0≤a∧a≤N-1
  ·rw [if_pos (decide_eq_true h2),AhM,Aan]
   by_cases h3 : 0≤b∧b≤N-1
   ·rw [if_pos (decide_eq_true h3)]
    congr 1
    by_cases h4 : a=b
    ·subst h4; simp
    ·rw [decide_eq_true (by omega)]; simpa using h4
   ·rw [if_neg (by simpa using h3),decide_eq_false (by omega)]
  ·rw [if_neg (by simpa using h2),decide_eq_false (by omega)]
 ·rw [if_neg (by simpa using h1),decide_eq_false (by omega)]
def ndA (a b : Int) (i : Nat) : List AaC:=((AnC i).filter fun x=>decide (x≠a∧x≠b)).map fun x=>⟨2+2*x,3+2*x,1⟩
def egP (lv a b : Int) (e : AaB) : Bool:=decide (lv≤e.Level∧e.To≠a∧e.From≠b)
def egM (a b : Int) (e : AaB) : AaC:=⟨if e.From=a then 0 else 3+2*e.From,if e.To=b then 1 else 2+2*e.To,1⟩
def egA (lv a b : Int) (E : List AaB) : List AaC:=(E.filter (egP lv a b)).map (egM a b)
def AfD (N : Nat) (E : List AaB) (lv a b : Int) : List AaC:=ndA a b N++egA lv a b E
theorem AlW (i : Nat) : AnC (i+1)=AnC i++[(i : Int)]:=by simp [AnC,List.range_succ]
theorem Amb (a b : Int) (i : Nat) : ndA a b (i+1)=ndA a b i++if (i : Int)≠a∧(i : Int)≠b then [⟨2+2*(i : Int),3+2*(i : Int),1⟩] else []:=by
 unfold ndA
 rw [AlW,List.filter_append,List.map_append]
 congr 1
 rw [List.filter_cons]
 by_cases h : (i : Int)≠a∧(i : Int)≠b
 ·rw [if_pos h,if_pos (by simpa using h)]; rfl
 ·rw [if_neg h,if_neg (by simpa using h)]; rfl
theorem Ahz (a b : Int) (i : Nat) : (ndA a b i).length≤i:=by
 unfold ndA; rw [List.length_map]; exact Nat.le_trans (List.length_filter_le _ _) (by rw [Ama]; exact Nat.le_refl _)
theorem Aln (lv a b : Int) (E : List AaB) : (egA lv a b E).length≤E.length:=by
 unfold egA; rw [List.length_map]; exact List.length_filter_le _ _
theorem AgV (lv a b : Int) (e : AaB) (E : List AaB) : egA lv a b (e::E)=(if egP lv a b e then [egM a b e] else [])++egA lv a b E:=by
 unfold egA; rw [List.filter_cons]; split <;> rfl
theorem AfW (k : Nat) (x : Int) (h : -100001≤x∧x≤100001) : Ab9 k x=some (2+2*x):=by
 unfold Ab9; rw [w64 (n:=2*x) (by omega) (by omega),w64 (by omega) (by omega)]
theorem Ao1 (k : Nat) (E : List AaB) (lv a b M : Int) (h9 : E.length≤100001) (hE : ∀ e ∈ E,0≤e.From∧e.From≤100001∧0≤e.To∧e.To≤100001) : ∀ (m i n : Nat) (acc : List AaC),i+m=E.length→m<n→acc.length≤200002+i→AaL.L3 k E lv a b M n (i : Int) acc=some (M,acc++egA lv a b (E.drop i))
 | 0,i,n+1,acc,e,_,_=>by
  rw [AaL.L3,if_neg (by omega),List.drop_of_length_le (by omega)]; simp [egA]
 | m+1,i,n+1,acc,e,hn,ha=>by
  have hi : i<E.length:=by omega
  have ih:=fun acc'=>Ao1 k E lv a b M h9 hE m (i+1) n acc' (by omega) (by omega)
  have hr:=hE _ (List.getElem_mem hi)
  rw [AaL.L3,if_pos (by omega),Abf hi,List.drop_eq_getElem_cons hi,AgV]
  unfold AaL.J4
  simp only [Aj5 i (by omega)]
  by_cases q1 : E[i].Level<lv
  ·rw [if_pos q1,ih _ (by omega),if_neg (by unfold egP; rw [decide_eq_true_eq]; omega)]; rfl
  rw [if_neg q1]
  by_cases q2 : E[i].To=a
  ·rw [if_pos q2,ih _ (by omega),if_neg (by unfold egP; rw [decide_eq_true_eq]; omega)]; rfl
  rw [if_neg q2]
  by_cases q3 : E[i].From=b
  ·rw [if_pos q3,ih _ (by omega),if_neg (by unfold egP; rw [decide_eq_true_eq]; omega)]; rfl
  rw [if_neg q3,AfW k _ (by omega),Aan,AfW k _ (by omega),Aan,w64 (n:=2+2*E[i].From+1) (by omega) (by omega)]
  have key : ∀ u v : Int,egM a b E[i]=⟨u,v,1⟩→AaL.J6 k (i : Int) acc u (fun v14_ v15_=>AaL.L3 k E lv a b M n v14_ v15_) v=some (M,acc++((if egP lv a b E[i] then [egM a b E[i]] else [])++egA lv a b (E.drop (i+1)))):=by
   intro u v q
   unfold AaL.J6 AaL.J4
   rw [AbT (by simp only [List.length_cons,List.length_nil]; omega)]
   simp only [Aj5 i (by omega)]
   rw [ih _ (by simp; omega),if_pos (by unfold egP; rw [decide_eq_true_eq]; omega),q,List.append_assoc]
  unfold AaL.J5
  by_cases q4 : E[i].From=a <;> by_cases q5 : E[i].To=b
  ·rw [if_pos q4,if_pos q5]; exact key _ _ (by unfold egM; rw [if_pos q4,if_pos q5])
  ·rw [if_pos q4,if_neg q5]; exact key _ _ (by unfold egM; rw [if_pos q4,if_neg q5])
  ·rw [if_neg q4,if_pos q5]; exact key _ _ (by unfold egM; rw [if_neg q4,if_pos q5]; congr 1; omega)
  ·rw [if_neg q4,if_neg q5]; exact key _ _ (by unfold egM; rw [if_neg q4,if_neg q5]; congr 1; omega)
theorem Ao2 (k N : Nat) (E : List AaB) (lv a b M : Int) (hN : N≤1001) (h9 : E.length≤100001) (hk : E.length<k) (hE : ∀ e ∈ E,0≤e.From∧e.From≤100001∧0≤e.To∧e.To≤100001) : ∀ (m i n : Nat),i+m=N→m<n→AaL.L1 k (N : Int) E lv a b M n (i : Int) (ndA a b i)=some (M,AfD N E lv a b)
 | 0,i,n+1,e,_=>by
  have : i=N:=by omega
  subst this
  have hl:=Ahz a b i
  have:=Ao1 k E lv a b M h9 hE E.length 0 k (ndA a b i) (by omega) hk (by omega)
  rw [AaL.L1,if_neg (by omega)]
  exact this
 | m+1,i,n+1,e,hn=>by
  have ih:=Ao2 k N E lv a b M hN h9 hk hE m (i+1) n (by omega) (by omega)
  have hl:=Ahz a b i
  rw [AaL.L1,if_pos (by omega)]
  unfold AaL.J2
  simp only [Aj5 i (by omega)]
  rw [Amb] at ih
  by_cases q1 : (i : Int)≠a
  ·rw [if_pos q1]
   by_cases q2 : (i : Int)≠b
   ·rw [if_pos q2,AfW k _ (by omega),Aan,Aan,w64 (n:=2+2*(i : Int)+1) (by omega) (by omega),AbT (by simp only [List.length_cons,List.length_nil]; omega)]
    rw [if_pos ⟨q1,q2⟩] at ih
    rw [show 2+2*(i : Int)+1=3+2*(i : Int) by omega]; exact ih
   ·rw [if_neg q2]; rw [if_neg (by omega),List.append_nil] at ih; exact ih
  ·rw [if_neg q1]; rw [if_neg (by omega),List.append_nil] at ih; exact ih
theorem AjR (k N : Nat) (E : List AaB) (g : List Int) (lv a b : Int) (hN : N≤1001) (h9 : E.length≤100001) (hk : E.length<k) (hk2 : N<k) (hE : ∀ e ∈ E,0≤e.From∧e.From≤100001∧0≤e.To∧e.To≤100001) : AaL k (N : Int) E g lv a b=some (((2+2*N : Nat) : Int),AfD N E lv a b):=by
 unfold AaL
 rw [AfW k _ (by omega),Aan]
 have:=Ao2 k N E lv a b (2+2*(N : Int)) hN h9 hk hE N 0 k (by omega) hk2
 rw [show ((2+2*N : Nat) : Int)=2+2*(N : Int) by omega]; exact this
theorem Ala {a b : Int} {i : Nat} {x : AaC} : x ∈ ndA a b i↔∃ v : Int,0≤v∧v<i∧v≠a∧v≠b∧x=⟨2+2*v,3+2*v,1⟩:=by
 unfold ndA
 simp only [List.mem_map,List.mem_filter,decide_eq_true_eq,AnC,List.mem_range]
 constructor
 ·rintro ⟨v,⟨⟨n,hn,rfl⟩,h1,h2⟩,rfl⟩; exact ⟨n,by omega,by omega,h1,h2,rfl⟩
 ·rintro ⟨v,h0,h1,h2,h3,rfl⟩; exact ⟨v,⟨⟨v.toNat,by omega,by omega⟩,h2,h3⟩,rfl⟩
theorem Alc {lv a b : Int} {E : List AaB} {x : AaC} : x ∈ egA lv a b E↔∃ e ∈ E,lv≤e.Level∧e.To≠a∧e.From≠b∧x=egM a b e:=by
 unfold egA
 simp only [List.mem_map,List.mem_filter,egP,decide_eq_true_eq]
 constructor
 ·rintro ⟨e,⟨h,h1,h2,h3⟩,rfl⟩; exact ⟨e,h,h1,h2,h3,rfl⟩
 ·rintro ⟨e,h,h1,h2,h3,rfl⟩; exact ⟨e,⟨h,h1,h2,h3⟩,rfl⟩
theorem Ana {N : Nat} {E : List AaB} {lv a b : Int} (hN : N≤64) (hE : inE N E) (h5 : E.length≤500) (hab : 0≤a∧a<N∧0≤b∧b<N∧a≠b) : NV (2+2*N) (AfD N E lv a b):=by
 have l1:=Ahz a b N; have l2:=Aln lv a b E
 refine ⟨by omega,by omega,by unfold AfD; rw [List.length_append]; omega,fun x hx=>?_⟩
 unfold AfD at hx
 rcases List.mem_append.1 hx with hx | hx
 ·obtain ⟨v,h0,h1,h2,h3,rfl⟩:=Ala.1 hx
  simp only []; omega
 ·obtain ⟨e,he,h1,h2,h3,rfl⟩:=Alc.1 hx
  have:=hE e he
  unfold egM
  simp only []
  split <;> split <;> omega
structure AkP (N : Nat) (E : List AaB) (lv a b v : Int) : Prop where
 no : AkN N lv a b=false→v=0
 yes : AkN N lv a b=true→Mf.Least (ar (AfD N E lv a b)) v
 r0 : 0≤v
 r1 : v≤1000001
theorem AqS {N : Nat} {E : List AaB} {lv a b : Int} : ∀ x ∈ AfD N E lv a b,x.Cap=1:=by
 intro x hx
 unfold AfD at hx
 rcases List.mem_append.1 hx with hx | hx
 ·obtain ⟨v,_,_,_,_,rfl⟩:=Ala.1 hx; rfl
 ·obtain ⟨e,_,_,_,_,rfl⟩:=Alc.1 hx; rfl
theorem Als : ∀ {A : List AaC} (S : Int→Bool),(∀ x ∈ A,x.Cap=1)→Mf.capS (ar A) S≤A.length
 | [],S,_=>by simp [ar,Mf.capS]
 | x::A,S,h=>by
  have ih:=Als (A:=A) S fun y hy=>h y (by simp [hy])
  have hx:=h x (by simp)
  have e : Mf.capS (ar (x::A)) S=Mf.b2 (S x.From=true∧S x.To=false)*x.Cap+Mf.capS (ar A) S:=by simp [ar,Mf.capS]
  rw [e,hx]
  have : Mf.b2 (S x.From=true∧S x.To=false)≤1:=by unfold Mf.b2; split <;> omega
  simp only [List.length_cons]; omega
theorem AlG {N : Nat} {E : List AaB} {lv a b : Int} (nv : NV (2+2*N) (AfD N E lv a b)) : ∀ g,Mf.Flow (2+2*N) (ar (AfD N E lv a b)) g→Mf.val (ar (AfD N E lv a b)) g≤((1200 : Nat) : Int):=by
 intro g hg
 have h1:=Mf.val_le nv.net hg (fun v=>decide (v=0)) (by simp) (by simp)
 have h2:=Als (A:=AfD N E lv a b) (fun v=>decide (v=0)) AqS
 have:=nv.len
 omega
theorem AkP.mk' {N : Nat} {E : List AaB} {lv a b v : Int} (h1 : AkN N lv a b=false→v=0) (h2 : AkN N lv a b=true→Mf.Least (ar (AfD N E lv a b)) v) (h3 : 0≤v) (h4 : v≤1000001) : AkP N E lv a b v:=⟨h1,h2,h3,h4⟩
theorem Anp {N : Nat} {E : List AaB} {lv a b : Int} (nv : NV (2+2*N) (AfD N E lv a b)) (ha : AkN N lv a b=true) {f : List Int} (d : AmI (2+2*N) (AfD N E lv a b) f) : AkP N E lv a b (Mf.val (ar (AfD N E lv a b)) f):=by
 have h1:=d.rng nv
 have h2:=AlG nv f d.fl
 exact .mk' (fun h=>by rw [ha] at h; cases h) (fun _=>d.least nv) h1.1 (by omega)
theorem AgQ (k N : Nat) (E : List AaB) (g : List Int) (lv a b : Int) (hN : N≤64) (hE : inE N E) (h5 : E.length≤500) (hk : 1300<k) : ∃ v,Ab2 k (N : Int) E g lv a b=some v∧AkP N E lv a b v:=by
 unfold Ab2
 rw [AkM k _ _ _ _ _ _ (by omega),Aan]
 cases ha : AkN N lv a b with
 | false=>exact ⟨0,by simp,.mk' (fun _=>rfl) (fun h=>by rw [ha] at h; cases h) (by omega) (by omega)⟩
 | true =>
  have hq:=ha
  unfold AkN at hq; rw [decide_eq_true_eq] at hq
  have nv:=Ana (lv:=lv) hN hE h5 ⟨hq.2.2.1,hq.2.2.2.1,hq.2.2.2.2.1,hq.2.2.2.2.2.1,hq.2.2.2.2.2.2⟩
  have l1:=nv.len
  have l2 : (AfD N E lv a b).length≤564:=by
   have:=Ahz a b N; have:=Aln lv a b E
   unfold AfD; rw [List.length_append]; omega
  obtain ⟨f,f1,f2⟩:=An5 k (2+2*N) (AfD N E lv a b) nv (by omega) (by omega) 1200 (AlG nv) (by omega)
  rw [if_neg (by simp),AjR k N E g lv a b (by omega) (by omega) (by omega) (by omega) (fun e he=>by have:=hE e he; omega),AbX,f1,AbX,Ajp k (2+2*N) _ f nv f2.fl (by omega),Aan]
  exact ⟨_,rfl,Anp nv ha f2⟩
theorem Afm (N : Nat) (E : List AaB) (lv a b : Int) (S : Int→Bool) : Mf.capS (ar (AfD N E lv a b)) S=Mf.capS (ar (ndA a b N)) S+Mf.capS (ar (egA lv a b E)) S:=by
 unfold AfD; rw [show ar (ndA a b N++egA lv a b E)=ar (ndA a b N)++ar (egA lv a b E) by simp [ar]]; exact Mf.capS_append _ _ _
theorem AgB (x : AaC) (A : List AaC) (S : Int→Bool) : Mf.capS (ar (x::A)) S=Mf.b2 (S x.From=true∧S x.To=false)*x.Cap+Mf.capS (ar A) S:=by simp [ar,Mf.capS]
end Go.TF
set_option linter.unusedVariables false
set_option linter.unusedSimpArgs false
namespace Go.TF
open Go Go.Abs
theorem AmA : AdX 1000000000=some true:=by decide +kernel
theorem Alp (k : Nat) (N : Int) (E : List AaB) (g : List Int) (lv a b : Int) (hN : -1000001≤N∧N≤1000001) (hk : 0<k) : AaX k N E g lv a b []=some true:=by
 obtain ⟨n,rfl⟩ : ∃ n,k=n+1:=⟨k-1,by omega⟩
 unfold AaX
 rw [AkM _ _ _ _ _ _ _ hN,Aan]
 cases AkN N lv a b with
 | false=>rfl
 | true =>
  rw [if_neg (by simp)]
  have e : ∀ m,AaX.J1 (n+1) N E g lv a b [] m=some true:=fun m=>by
   unfold AaX.J1; rw [AaX.L2,if_neg (by simp)]
  rw [e,e]; rfl
theorem Afp {E : List AaB} (h : E.Pairwise fun a b=>bef a b=true) : E.Nodup:=by
 rw [List.nodup_iff_pairwise_ne]
 exact h.imp fun {a b} q e=>by subst e; simp [bef] at q
theorem Alq {N : Nat} {E E' : List AaB} {lv a b : Int} {z : AaB} (hE : E.Pairwise fun a b=>bef a b=true) (hE' : E'.Pairwise fun a b=>bef a b=true) (hm : ∀ y,y ∈ E'↔y ∈ E∨y=z) (S : Int→Bool) :
 Mf.capS (ar (AfD N E lv a b)) S≤Mf.capS (ar (AfD N E' lv a b)) S∧Mf.capS (ar (AfD N E' lv a b)) S≤Mf.capS (ar (AfD N E lv a b)) S+1:=by
 have perm : ∀ {A B : List AaB},A.Perm B→Mf.capS (ar (egA lv a b A)) S=Mf.capS (ar (egA lv a b B)) S:=fun h=>Mf.capS_perm (((h.filter _).map _).map _) S
 rw [Afm,Afm]
 by_cases hz : z ∈ E
 ·have p : E'.Perm E:=(List.perm_ext_iff_of_nodup (Afp hE') (Afp hE)).2 fun y=>by
   rw [hm y]
   constructor
   ·rintro (q | q)
    ·exact q
    ·exact q ▸ hz
   ·exact .inl
  rw [perm p]; omega
 ·have p : E'.Perm (z::E):=(List.perm_ext_iff_of_nodup (Afp hE') (List.nodup_cons.2 ⟨hz,Afp hE⟩)).2 fun y=>by
   rw [hm y,List.mem_cons]
   constructor
   ·rintro (q | q)
    ·exact .inr q
    ·exact .inl q
   ·rintro (q | q)
    ·exact .inr q
    ·exact .inl q
  rw [perm p,AgV]
  by_cases r : egP lv a b z=true
  ·rw [if_pos r]
   show _∧Mf.capS (ar (ndA a b N)) S+Mf.capS (ar (egM a b z::egA lv a b E)) S≤_
   rw [List.singleton_append,AgB]
   have : Mf.b2 (S (egM a b z).From=true∧S (egM a b z).To=false)*(egM a b z).Cap=Mf.b2 (S (egM a b z).From=true∧S (egM a b z).To=false):=by
    show _*1=_; omega
   rw [this]
   unfold Mf.b2
   split <;> omega
  ·rw [if_neg r,List.nil_append]; omega
theorem Alr (N : Nat) (E : List AaB) {lv lv' a b : Int} (h : lv≤lv') (S : Int→Bool) : Mf.capS (ar (AfD N E lv' a b)) S≤Mf.capS (ar (AfD N E lv a b)) S:=by
 rw [Afm,Afm]
 have : Mf.capS (ar (egA lv' a b E)) S≤Mf.capS (ar (egA lv a b E)) S:=by
  induction E with
  | nil=>exact Int.le_refl _
  | cons e E ih =>
   rw [AgV,AgV]
   have nn : 0≤Mf.b2 (S (egM a b e).From=true∧S (egM a b e).To=false):=by unfold Mf.b2; split <;> omega
   have e1 : Mf.capS (ar (egM a b e::egA lv a b E)) S=Mf.b2 (S (egM a b e).From=true∧S (egM a b e).To=false)+Mf.capS (ar (egA lv a b E)) S:=by
    rw [AgB]; show _*1+_=_; omega
   have e2 : Mf.capS (ar (egM a b e::egA lv' a b E)) S=Mf.b2 (S (egM a b e).From=true∧S (egM a b e).To=false)+Mf.capS (ar (egA lv' a b E)) S:=by
    rw [AgB]; show _*1+_=_; omega
   by_cases r' : egP lv' a b e=true
   ·have r : egP lv a b e=true:=by
     unfold egP at r' ⊢; rw [decide_eq_true_eq] at r' ⊢; omega
    rw [if_pos r,if_pos r',List.singleton_append,List.singleton_append,e1,e2]; omega
   ·rw [if_neg r',List.nil_append]
    by_cases r : egP lv a b e=true
    ·rw [if_pos r,List.singleton_append,e1]; omega
    ·rw [if_neg r,List.nil_append]; exact ih
 omega
theorem Ao3 {N : Nat} {E E' : List AaB} {g g' : List Int} {a b : Int} (hN : N≤64) (ok : okG N E g=true) (ok' : okG N E' g'=true) (hin : inE N E) (hin' : inE N E') (ha : 0≤a∧a<N) (hb : 0≤b∧b<N)
 (cap : ∀ S : Int→Bool,Mf.capS (ar (AfD N E 1 a b)) S≤Mf.capS (ar (AfD N E' 1 a b)) S∧Mf.capS (ar (AfD N E' 1 a b)) S≤Mf.capS (ar (AfD N E 1 a b)) S+1) : AbJ.J1 1000000000 (N : Int) E g a b (N : Int) E' g'=some true:=by
 have l:=((Ac1 _ _ _).1 ok).1.2.2; have l':=((Ac1 _ _ _).1 ok').1.2.2
 obtain ⟨v1,e1,m1⟩:=AgQ 1000000000 N E g 1 a b hN hin l (by omega)
 obtain ⟨v2,e2,m2⟩:=AgQ 1000000000 N E' g' 1 a b hN hin' l' (by omega)
 obtain ⟨v3,e3,m3⟩:=AgQ 1000000000 N E g 2 a b hN hin l (by omega)
 obtain ⟨v4,e4,m4⟩:=AgQ 1000000000 N E g 3 a b hN hin l (by omega)
 unfold AbJ.J1
 have r1:=m1.r0; have r2:=m1.r1
 have ask : ∀ lv,1≤lv→lv≤3→AkN N lv a b=decide (a≠b):=fun lv h1 h2=>by
  unfold AkN
  by_cases q : a=b
  ·rw [decide_eq_false (by omega),decide_eq_false (by omega)]
  ·rw [decide_eq_true (by omega),decide_eq_true (by omega)]
 have key : v1≤v2∧v2≤v1+1∧v3≤v1∧v4≤v3:=by
  by_cases q : a=b
  ·have f : ∀ lv,1≤lv→lv≤3→AkN N lv a b=false:=fun lv h1 h2=>by rw [ask lv h1 h2,decide_eq_false (by omega)]
   rw [m1.no (f 1 (by omega) (by omega)),m2.no (f 1 (by omega) (by omega)),m3.no (f 2 (by omega) (by omega)),m4.no (f 3 (by omega) (by omega))]; omega
  ·have f : ∀ lv,1≤lv→lv≤3→AkN N lv a b=true:=fun lv h1 h2=>by rw [ask lv h1 h2,decide_eq_true (by omega)]
   have L1:=m1.yes (f 1 (by omega) (by omega)); have L2:=m2.yes (f 1 (by omega) (by omega)); have L3:=m3.yes (f 2 (by omega) (by omega)); have L4:=m4.yes (f 3 (by omega) (by omega))
   refine ⟨Mf.Least.mono L1 L2 fun S _ _=>(cap S).1,Mf.Least.more L1 L2 fun S _ _=>(cap S).2,Mf.Least.mono L3 L1 fun S _ _=>Alr N E (by omega) S,Mf.Least.mono L4 L3 fun S _ _=>Alr N E (by omega) S⟩
 rw [e1,Aan,e2,Aan,AmA,Aan,if_pos rfl,if_pos key.1,w64 (by omega) (by omega),if_pos key.2.1,e3,Aan,if_pos key.2.2.1,e4,Aan,Aan,if_pos key.2.2.2,Alp _ _ _ _ _ _ _ (by omega) (by omega),Aan]
theorem AjE (v0 : List Int) (h0 : Fit (.lst false false (v0.map (.int .i64)))) : ∃ k,AbJ k v0=some true:=by
 refine ⟨1000000000,?_⟩
 unfold AbJ
 rw [Am5,Aan]
 by_cases h : (v0.length : Int)≤400
 ·rw [if_neg (by simpa using h),AoP,AbX]
  obtain ⟨N,E,g,q,e,hq,n1,n2,ok⟩:=Am7 v0 0 (by omega) ⟨by omega,by omega⟩
  have G : GV N E g:=⟨by omega,by omega,ok⟩
  obtain ⟨a,q2,e2,hq2,ha⟩:=Adf 1000000000 v0 q (N : Int) (by omega) hq
  obtain ⟨b,q3,e3,hq3,hb⟩:=Adf 1000000000 v0 q2 (N : Int) (by omega) hq2
  obtain ⟨c,q4,e4,hq4,hc⟩:=Adf 1000000000 v0 q3 (N : Int) (by omega) hq3
  obtain ⟨d,q5,e5,hq5,hd⟩:=Adf 1000000000 v0 q4 (N : Int) (by omega) hq4
  have ha:=ha (by omega) (by omega); have hb:=hb (by omega) (by omega)
  obtain ⟨N',E',g',r,e6,h6⟩:=Akz 1000000000 (N : Int) E g c d 1 (by omega) ok
  rw [e,Agw,e2,AbX,e3,AbX,e4,AbX,e5,AbX,e6,Agw]
  by_cases hr : r=0
  ·obtain ⟨rfl,rfl,ok',hm⟩:=h6 hr
   rw [if_pos hr]
   have G' : GV N E' g':=⟨by omega,by omega,ok'⟩
   exact Ao3 (by omega) ok ok' G.inE G'.inE ha hb fun S=>Alq ((Ac1 _ _ _).1 ok).2.2.2 ((Ac1 _ _ _).1 ok').2.2.2 hm S
  ·rw [if_neg hr]
   exact Ao3 (by omega) ok ok G.inE G.inE ha hb fun S=>by omega
 ·rw [if_pos (by simpa using h),AmA,Aan]
end Go.TF
