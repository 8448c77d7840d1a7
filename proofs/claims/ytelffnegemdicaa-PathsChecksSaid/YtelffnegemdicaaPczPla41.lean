import Derived.Test.YtelffnegemdicaaPczPla40
set_option linter.unusedVariables false
set_option linter.unusedSimpArgs false
namespace Go.TF
open Go Go.Abs
structure Cx (E : List AaA) (lv : Int) (w : List Int) (mm : List (Int×Bool)) (j : Nat) : Prop where
 ed : ∀ (i : Nat) (h : i+1<w.length),j≤i+1→eg E lv w[i] w[i+1]
 un : ∀ (i : Nat) (h : i+1<w.length),j≤i→usB mm w[i]=false
 nd : ∀ (i i' : Nat) (h : i+1<w.length) (h' : i'<i),j≤i'→w[i']≠w[i]
theorem AnV (k : Nat) (N : Int) (E : List AaA) (g : List Int) (lv ix : Int) (w : List Int) (d : Bool) (kb : Bool→Int→(List (Int×Bool))→Option Bool) (hk : E.length<k) (h9 : E.length≤1000000) (hw : w.length≤1000000) : ∀ (m j n : Nat) (mm : List (Int×Bool)),1≤j→j+m=w.length→m<n →
 (¬ Cx E lv w mm j∧AaQ.L5 k N E g lv ix w d kb n (j : Int) mm=some false)∨(Cx E lv w mm j∧∃ mm',AaQ.L5 k N E g lv ix w d kb n (j : Int) mm=kb d (IntKind.wrap .i64 (ix+1)) mm'∧∀ v,usB mm' v=true↔usB mm v=true∨∃ i,∃ h : i<w.length,j≤i∧w[i]=v)
 | 0,j,n+1,mm,h1,e,_=>by
  right
  refine ⟨⟨fun i h z=>by omega,fun i h z=>by omega,fun i i' h h' z=>by omega⟩,mm,by rw [AaQ.L5,if_neg (by omega)],fun v=>⟨.inl,fun q=>q.elim id (by rintro ⟨i,h,z,_⟩; omega)⟩⟩
 | m+1,j,n+1,mm,h1,e,hn=>by
  have hj : j<w.length:=by omega
  obtain ⟨p,rfl⟩ : ∃ q,j=q+1:=⟨j-1,by omega⟩
  have hp : p<w.length:=by omega
  obtain ⟨r,e1,e2⟩:=Amh k N E g lv w[p] w[p+1] hk h9
  rw [AaQ.L5,if_pos (by omega),AoB p (by omega),Aa9 hp,Aa9 hj,e1,Aae]
  cases r with
  | false =>
   rw [if_pos (show (!false)=true from rfl)]
   exact .inl ⟨fun C=>(by have:=e2.2 (C.ed p hj (by omega)); cases this),rfl⟩
  | true =>
   rw [if_neg (by simp)]
   have hed:=e2.1 rfl
   have go : (p+1+1<w.length→usB mm w[p+1]=false)→(¬ Cx E lv w mm (p+1)∧AaQ.J6 k w ((p+1 : Nat) : Int) mm (fun v15_ v16_=>AaQ.L5 k N E g lv ix w d kb n v15_ v16_)=some false)∨(Cx E lv w mm (p+1)∧∃ mm',AaQ.J6 k w ((p+1 : Nat) : Int) mm (fun v15_ v16_=>AaQ.L5 k N E g lv ix w d kb n v15_ v16_)=kb d (IntKind.wrap .i64 (ix+1)) mm'∧∀ v,usB mm' v=true↔usB mm v=true∨∃ i,∃ h : i<w.length,p+1≤i∧w[i]=v):=by
    intro hu
    have U : ∀ v,usB (AbE mm w[p+1] true) v=if v=w[p+1] then true else usB mm v:=by
     intro v; unfold usB; rw [Ab4]; split <;> rfl
    have iff : Cx E lv w mm (p+1)↔Cx E lv w (AbE mm w[p+1] true) (p+2):=by
     constructor
     ·intro C
      refine ⟨fun i h z=>C.ed i h (by omega),fun i h z=>?_,fun i i' h h' z=>C.nd i i' h h' (by omega)⟩
      rw [U,if_neg (fun q=>C.nd i (p+1) h (by omega) (by omega) q.symm)]
      exact C.un i h (by omega)
     ·intro C
      refine ⟨fun i h z=>?_,fun i h z=>?_,fun i i' h h' z=>?_⟩
      ·by_cases q : i=p
       ·subst q; exact hed
       ·exact C.ed i h (by omega)
      ·by_cases q : i=p+1
       ·subst q; exact hu h
       ·have:=C.un i h (by omega)
        rw [U] at this
        split at this
        ·cases this
        ·exact this
      ·by_cases q : i'=p+1
       ·subst q
        have:=C.un i h (by omega)
        rw [U] at this
        split at this
        ·cases this
        ·rename_i z; exact fun q=>z q.symm
       ·exact C.nd i i' h h' (by omega)
    unfold AaQ.J6
    rw [Aa9 hj]
    simp only [AeT (p+1) (by omega)]
    rcases AnV k N E g lv ix w d kb hk h9 hw m (p+2) n (AbE mm w[p+1] true) (by omega) (by omega) (by omega) with ⟨a1,a2⟩ | ⟨a1,mm',a2,a3⟩
    ·exact .inl ⟨fun C=>a1 (iff.1 C),a2⟩
    ·refine .inr ⟨iff.2 a1,mm',a2,fun v=>?_⟩
     rw [a3 v,U]
     constructor
     ·rintro (z | ⟨i,h,z1,z2⟩)
      ·split at z
       ·rename_i hv; exact .inr ⟨p+1,hj,by omega,hv.symm⟩
       ·exact .inl z
      ·exact .inr ⟨i,h,by omega,z2⟩
     ·rintro (z | ⟨i,h,z1,z2⟩)
      ·left; split
       ·rfl
       ·exact z
      ·by_cases q : i=p+1
       ·subst q; left; rw [if_pos z2.symm]
       ·exact .inr ⟨i,h,by omega,z2⟩
   split
   ·rename_i hlt
    rw [w64 (by omega) (by omega)] at hlt
    unfold AgS
    cases q : Ab5 mm w[p+1] with
    | none=>exact go fun _=>by unfold usB; rw [q]; rfl
    | some x =>
     simp only []
     cases x with
     | false=>rw [if_neg (by simp)]; exact go fun _=>by unfold usB; rw [q]; rfl
     | true =>
      rw [if_pos rfl]
      refine .inl ⟨fun C=>?_,rfl⟩
      have:=C.un (p+1) (by omega) (by omega)
      unfold usB at this; rw [q] at this; cases this
   ·rename_i hlt
    rw [w64 (by omega) (by omega)] at hlt
    exact go fun h=>by omega
theorem AqN {E : List AaA} {lv a b : Int} {w u : List Int} {mm : List (Int×Bool)} (hab : a≠b) (hm : ∀ v,usB mm v=true↔v=a∨v=b∨v ∈ u) (h2 : 2≤w.length) (h0 : w[0]'(by omega)=a) (h1 : w[w.length-1]'(by omega)=b) : Cx E lv w mm 1↔PW2 E lv a b w∧∀ v ∈ inn w,v ∉ u:=by
 have hf : ∀ v,usB mm v=false↔v≠a∧v≠b∧v ∉ u:=by
  intro v
  rw [← Bool.not_eq_true,hm v]
  constructor
  ·intro h; exact ⟨fun z=>h (.inl z),fun z=>h (.inr (.inl z)),fun z=>h (.inr (.inr z))⟩
  ·rintro ⟨x,y,z⟩ (h | h | h)
   ·exact x h
   ·exact y h
   ·exact z h
 constructor
 ·intro C
  have key : ∀ (i j : Nat) (hi : i<w.length) (hj : j<w.length),i<j→w[i]≠w[j]:=by
   intro i j hi hj hij e
   by_cases jl : j+1<w.length
   ·have un:=(hf _).1 (C.un j jl (by omega))
    by_cases iz : i=0
    ·subst iz; exact un.1 (by rw [← e,h0])
    ·exact C.nd j i jl hij (by omega) e
   ·have jn : j=w.length-1:=by omega
    subst jn
    by_cases iz : i=0
    ·subst iz; exact hab (by rw [← h0,e,h1])
    ·have un:=(hf _).1 (C.un i (by omega) (by omega))
     exact un.2.1 (by rw [e,h1])
  refine ⟨⟨h2,?_,?_,?_,fun j hj=>C.ed j hj (by omega)⟩,fun v hv=>?_⟩
  ·rw [List.head?_eq_getElem?,List.getElem?_eq_getElem (by omega),h0]
  ·rw [List.getLast?_eq_getElem?,List.getElem?_eq_getElem (by omega),h1]
  ·rw [List.nodup_iff_pairwise_ne,List.pairwise_iff_getElem]
   exact fun i j hi hj hij=>key i j hi hj hij
  ·obtain ⟨i,hi,rfl⟩:=Aev.1 hv
   exact ((hf _).1 (C.un (i+1) (by omega) (by omega))).2.2
 ·rintro ⟨P,hu⟩
  refine ⟨fun i h _=>P.ed i h,fun i h hi=>?_,fun i i' h h' _ e=>by have:=P.ne (by omega) (by omega) e; omega⟩
  have mi : w[i] ∈ inn w:=Aev.2 ⟨i-1,by omega,by congr 1; omega⟩
  exact (hf _).2 ⟨(Ahs P mi).1,(Ahs P mi).2,hu _ mi⟩
theorem AnW (k : Nat) (N : Int) (E : List AaA) (g : List Int) (lv a b : Int) (hab : a≠b) (out : List (List Int)) (hk : E.length<k) (h9 : E.length≤1000000) (hk9 : 3000001<k) (hw : ∀ w ∈ out,w.length≤601) (ho : out.length≤601) : ∀ (m i n : Nat) (dr : Bool) (mm : List (Int×Bool)) (u : List Int),i+m=out.length→m<n→(∀ v,usB mm v=true↔v=a∨v=b∨v ∈ u) →
 ∃ r,AaQ.L2 k N E g lv a b out n dr (i : Int) mm=some r∧(r=true↔(∀ w ∈ out.drop i,PW2 E lv a b w∧∀ v ∈ inn w,v ∉ u)∧(out.drop i).Pairwise (fun w w'=>∀ v ∈ inn w,v ∉ inn w')∧(if dr=true then 1 else 0)+((out.drop i).filter fun w=>decide (w.length=2)).length≤1)
 | 0,i,n+1,dr,mm,u,e,_,_=>by
  rw [AaQ.L2,if_neg (by omega),List.drop_of_length_le (by omega)]
  exact ⟨_,rfl,by cases dr <;> simp⟩
 | m+1,i,n+1,dr,mm,u,e,hn,hm=>by
  have hi : i<out.length:=by omega
  obtain ⟨w,ew⟩ : ∃ w,out[i]=w:=⟨_,rfl⟩
  have hmem : w ∈ out:=ew ▸ List.getElem_mem hi
  have wl:=hw w hmem
  rw [AaQ.L2,if_pos (by omega),Aa9 hi,ew,List.drop_eq_getElem_cons hi,ew]
  have no : ¬ PW2 E lv a b w→∃ r,some false=some r∧(r=true↔(∀ x ∈ w::out.drop (i+1),PW2 E lv a b x∧∀ v ∈ inn x,v ∉ u)∧(w::out.drop (i+1)).Pairwise (fun w w'=>∀ v ∈ inn w,v ∉ inn w')∧(if dr=true then 1 else 0)+((w::out.drop (i+1)).filter fun w=>decide (w.length=2)).length≤1) :=
   fun h=>⟨false,rfl,⟨fun z=>(by cases z),fun z=>absurd (z.1 w List.mem_cons_self).1 h⟩⟩
  by_cases h2 : (w.length : Int)<2
  ·rw [if_pos h2]
   exact no fun P=>by have:=P.two; omega
  rw [if_neg h2,AqB (by omega)]
  have hl : w.length-1<w.length:=by omega
  by_cases h0 : w[0]'(by omega)=a
  ·rw [if_neg (by simpa using h0),show IntKind.wrap .i64 ((w.length : Int)-1)=((w.length-1 : Nat) : Int) by rw [w64 (by omega) (by omega)]; omega,Aa9 hl]
   by_cases h1 : w[w.length-1]=b
   ·rw [if_neg (by simpa using h1)]
    have go : (w.length=2→dr=false)→∃ r,AaQ.J3 k N E g lv dr (i : Int) mm w (fun v10_ v11_ v12_=>AaQ.L2 k N E g lv a b out n v10_ v11_ v12_)=some r∧(r=true↔(∀ x ∈ w::out.drop (i+1),PW2 E lv a b x∧∀ v ∈ inn x,v ∉ u)∧(w::out.drop (i+1)).Pairwise (fun w w'=>∀ v ∈ inn w,v ∉ inn w')∧(if dr=true then 1 else 0)+((w::out.drop (i+1)).filter fun w=>decide (w.length=2)).length≤1):=by
     intro hd
     have fin : ∀ d2 : Bool,d2=(dr||(w.length==2))→∃ r,AaQ.J4 k N E g lv (i : Int) mm w (fun v10_ v11_ v12_=>AaQ.L2 k N E g lv a b out n v10_ v11_ v12_) d2=some r∧(r=true↔(∀ x ∈ w::out.drop (i+1),PW2 E lv a b x∧∀ v ∈ inn x,v ∉ u)∧(w::out.drop (i+1)).Pairwise (fun w w'=>∀ v ∈ inn w,v ∉ inn w')∧(if dr=true then 1 else 0)+((w::out.drop (i+1)).filter fun w=>decide (w.length=2)).length≤1):=by
      intro d2 hd2
      have cl : (if dr=true then 1 else 0)+((w::out.drop (i+1)).filter fun w=>decide (w.length=2)).length=(if d2=true then 1 else 0)+((out.drop (i+1)).filter fun w=>decide (w.length=2)).length:=by
       rw [List.filter_cons,hd2]
       by_cases z : w.length=2
       ·rw [hd z]; simp [z]; omega
       ·have e : (w.length==2)=false:=by simpa using z
        simp [z,e]
      unfold AaQ.J4
      rcases AnV k N E g lv (i : Int) w d2 (fun v10_ v11_ v12_=>AaQ.L2 k N E g lv a b out n v10_ v11_ v12_) hk h9 (by omega) (w.length-1) 1 k mm (by omega) (by omega) (by omega) with ⟨a1,a2⟩ | ⟨a1,mm',a2,a3⟩
      ·rw [AqN hab hm (by omega) h0 h1] at a1
       refine ⟨false,a2,⟨fun z=>(by cases z),fun z=>absurd (z.1 w List.mem_cons_self) a1⟩⟩
      ·rw [AqN hab hm (by omega) h0 h1] at a1
       obtain ⟨P,hu⟩:=a1
       have hm' : ∀ v,usB mm' v=true↔v=a∨v=b∨v ∈ u++inn w:=by
        intro v
        rw [a3 v,hm v,List.mem_append]
        constructor
        ·rintro ((z | z | z) | ⟨j,h,z1,z2⟩)
         ·exact .inl z
         ·exact .inr (.inl z)
         ·exact .inr (.inr (.inl z))
         ·by_cases q : j=w.length-1
          ·subst q; exact .inr (.inl (by rw [← z2,h1]))
          ·exact .inr (.inr (.inr (Aev.2 ⟨j-1,by omega,by rw [← z2]; congr 1; omega⟩)))
        ·rintro (z | z | z | z)
         ·exact .inl (.inl z)
         ·exact .inl (.inr (.inl z))
         ·exact .inl (.inr (.inr z))
         ·obtain ⟨j,h,z⟩:=Aev.1 z
          exact .inr ⟨j+1,by omega,by omega,z⟩
       obtain ⟨r,q1,q2⟩:=AnW k N E g lv a b hab out hk h9 hk9 hw ho m (i+1) n d2 mm' (u++inn w) (by omega) (by omega) hm'
       refine ⟨r,?_,q2.trans ?_⟩
       ·rw [show AaQ.L5 k N E g lv (i : Int) w d2 (fun v10_ v11_ v12_=>AaQ.L2 k N E g lv a b out n v10_ v11_ v12_) k 1 mm=_ from a2]
        simp only [AeT i (by omega)]
        exact q1
       ·rw [cl,List.pairwise_cons]
        constructor
        ·rintro ⟨g1,g2,g3⟩
         refine ⟨fun x hx=>?_,⟨fun x hx v hv hv'=>?_,g2⟩,g3⟩
         ·rcases List.mem_cons.1 hx with rfl | hx
          ·exact ⟨P,hu⟩
          ·exact ⟨(g1 x hx).1,fun v hv z=>(g1 x hx).2 v hv (List.mem_append_left _ z)⟩
         ·exact (g1 x hx).2 v hv' (List.mem_append_right _ hv)
        ·rintro ⟨g1,⟨g4,g2⟩,g3⟩
         refine ⟨fun x hx=>⟨(g1 x (List.mem_cons_of_mem _ hx)).1,fun v hv z=>?_⟩,g2,g3⟩
         rcases List.mem_append.1 z with z | z
         ·exact (g1 x (List.mem_cons_of_mem _ hx)).2 v hv z
         ·exact g4 x hx v z hv
     unfold AaQ.J3
     cases dr with
     | true=>rw [if_pos rfl]; exact fin true rfl
     | false =>
      rw [if_neg (by simp)]
      refine fin _ ?_
      rw [Bool.false_or,Bool.eq_iff_iff,beq_iff_eq,beq_iff_eq]; omega
    split
    ·rename_i hw2
     cases dr with
     | true =>
      rw [if_pos rfl]
      refine ⟨false,rfl,⟨fun z=>(by cases z),fun z=>?_⟩⟩
      have:=z.2.2
      have e2 : w.length=2:=by omega
      rw [List.filter_cons] at this
      simp only [e2,decide_true,if_true,List.length_cons] at this
      omega
     | false=>rw [if_neg (by simp)]; exact go fun _=>rfl
    ·rename_i hw2
     exact go fun z=>by omega
   ·rw [if_pos (by simpa using h1)]
    exact no fun P=>absurd (P.at1 hl) h1
  ·rw [if_pos (by simpa using h0)]
   exact no fun P=>absurd (P.at0 (by omega)) h0
theorem AoD (k : Nat) (N : Int) (E : List AaA) (g : List Int) (lv a b : Int) (out : List (List Int)) (hN : -1000001≤N∧N≤1000001) (hk : E.length<k) (h9 : E.length≤1000000) (hk9 : 3000001<k) (hw : ∀ w ∈ out,w.length≤601) (ho : out.length≤601) :
 ∃ r,AaQ k N E g lv a b out=some r∧(Agw N lv a b=true→(r=true↔ApL E lv a b out))∧(Agw N lv a b=false→(r=true↔out = [])):=by
 unfold AaQ
 rw [Aku k _ _ _ _ _ _ hN,Aae]
 cases hq : Agw N lv a b with
 | false =>
  refine ⟨_,by rw [if_pos (show (!false)=true from rfl)],fun h=>by simp at h,fun _=>?_⟩
  rw [beq_iff_eq]
  cases out <;> simp <;> omega
 | true =>
  have hab : a≠b:=by
   have:=hq; unfold Agw at this; rw [decide_eq_true_eq] at this; exact this.2.2.2.2.2.2
  rw [if_neg (by simp)]
  have one : ∀ x y,(x=a∧y=b)∨(x=b∧y=a)→∃ r,AaQ.J1 k N E g lv a b out (AbE (AbE ([] : (List (Int×Bool))) x true) y true)=some r∧(r=true↔ApL E lv a b out):=by
   intro x y h
   unfold AaQ.J1
   obtain ⟨r,r1,r2⟩:=AnW k N E g lv a b hab out hk h9 hk9 hw ho out.length 0 k false (AbE (AbE ([] : (List (Int×Bool))) x true) y true) [] (by omega) (by omega) (fun v=>by
    unfold usB
    rw [Ab4,Ab4]
    rcases h with ⟨rfl,rfl⟩ | ⟨rfl,rfl⟩ <;> by_cases z1 : v=x <;> by_cases z2 : v=y <;> simp [z1,z2,Ab5,mgI] <;> simp_all)
   refine ⟨r,r1,r2.trans ?_⟩
   rw [List.drop_zero]
   constructor
   ·rintro ⟨h1,h2,h3⟩
    exact ⟨fun w hw=>(h1 w hw).1,h2,by simpa using h3⟩
   ·rintro ⟨h1,h2,h3⟩
    exact ⟨fun w hw=>⟨h1 w hw,by simp⟩,h2,by simpa using h3⟩
  obtain ⟨r,r1,r2⟩:=one a b (.inl ⟨rfl,rfl⟩)
  obtain ⟨r',s1,s2⟩:=one b a (.inr ⟨rfl,rfl⟩)
  have e : r=r':=by rw [Bool.eq_iff_iff,r2,s2]
  subst e
  exact ⟨r,by unfold ArH; rw [r1,s1,if_pos rfl],fun _=>r2,fun h=>by simp at h⟩
theorem ArE (N : Nat) (E : List AaA) (g : List Int) (hN : N≤12) (ok : okG (N : Int) E g=true) (lv a b : Int) (out : List (List Int)) (hw : ∀ w ∈ out,w.length≤601) (ho : out.length≤601) : ∃ r,AaQ 1000000000 (N : Int) E g lv a b out=some r∧Aal 1000000000 (N : Int) E g lv a b out=some r:=by
 have ok':=(Ac4 _ _ _).1 ok
 have h5 : E.length≤500:=ok'.1.2.2
 have hg : g.length≤12:=by
  have:=Afo g 0 N ok'.2.1.1 ok'.2.1.2 (by omega)
  omega
 obtain ⟨r,r1,r2,r3⟩:=AoD 1000000000 (N : Int) E g lv a b out (by omega) (by omega) (by omega) (by omega) hw ho
 obtain ⟨r',s1,s2,s3⟩:=Amf 1000000000 (N : Int) E g lv a b out (by omega) (by omega) (by omega) (by omega) hw ho
 have e : r=r':=by
  rw [Bool.eq_iff_iff]
  cases hq : Agw (N : Int) lv a b with
  | true=>rw [r2 hq,s2 hq]
  | false=>rw [r3 hq,s3 hq]
 subst e
 exact ⟨r,r1,s1⟩
theorem Apm (N : Nat) (E : List AaA) (g : List Int) (hN : N≤12) (ok : okG (N : Int) E g=true) (v1 : List (List Int)) (v2 : List Int) (h3 : v2.length=3) (a b : Int) (out : List (List Int)) (hw1 : ∀ w ∈ v1,w.length≤601) (ho1 : v1.length≤601) (hw : ∀ w ∈ out,w.length≤601) (ho : out.length≤601) : Aai.J2 1000000000 v1 v2 (N : Int) E g a b out=some true:=by
 unfold Aai.J2
 have i0 : ∀ {β : Type} (f : Int→Option β),idx v2 0 f=f (v2[0]'(by omega)):=fun f=>Aa9 (i:=0) (by omega)
 have i1 : ∀ {β : Type} (f : Int→Option β),idx v2 1 f=f (v2[1]'(by omega)):=fun f=>Aa9 (i:=1) (by omega)
 have i2 : ∀ {β : Type} (f : Int→Option β),idx v2 2 f=f (v2[2]'(by omega)):=fun f=>Aa9 (i:=2) (by omega)
 have c0 : (0 : Int)≤0∧(0 : Nat)<3∧(0 : Int).toNat<v2.length:=by rw [h3]; decide
 have c1 : (0 : Int)≤1∧(1 : Nat)<3∧(1 : Int).toNat<v2.length:=by rw [h3]; decide
 have c2 : (0 : Int)≤2∧(2 : Nat)<3∧(2 : Int).toNat<v2.length:=by rw [h3]; decide
 obtain ⟨r1,a1,b1⟩:=ArE N E g hN ok 1 a b out hw ho
 obtain ⟨r2,a2,b2⟩:=ArE N E g hN ok 2 a b out hw ho
 obtain ⟨r3,a3,b3⟩:=ArE N E g hN ok (v2[0]'(by omega)) (v2[1]'(by omega)) (v2[2]'(by omega)) v1 hw1 ho1
 obtain ⟨r4,a4,b4⟩:=ArE N E g hN ok 1 a b v1 hw1 ho1
 rw [Aiq,Aae,if_pos rfl,a1,Aae,b1,Aae,if_pos (by simp),a2,Aae,b2,Aae,if_pos (by simp),Aam c0,i0,Aam c1,i1,Aam c2,i2,a3,Aae,Aam c0,Aam c1,Aam c2,b3,Aae,if_pos (by simp),a4,Aae,b4,Aae]
 simp
theorem AnU (v0 : List Int) (v1 : List (List Int)) (v2 : List Int) (hl : v0.length≤400) (h3 : v2.length=3) (h12 : v1.length≤12) : ∀ (m i n : Nat),i+m=v1.length→m<n→(∀ w ∈ v1.take i,w.length≤30)→Aai.L1 1000000000 v0 v1 v2 n (i : Int)=some true
 | m+1,i,n+1,e,hn,hw=>by
  have hi : i<v1.length:=by omega
  rw [Aai.L1,if_pos (by omega),Aa9 hi]
  by_cases q : 30<(v1[i].length : Int)
  ·rw [if_pos q,Aiq,Aae]
  ·rw [if_neg q,AeT i (by omega)]
   refine AnU v0 v1 v2 hl h3 h12 m (i+1) n (by omega) (by omega) fun w h=>?_
   rw [List.take_succ_eq_append_getElem hi] at h
   rcases List.mem_append.1 h with h | h
   ·exact hw w h
   ·rw [List.mem_singleton] at h; subst h; omega
 | 0,i,n+1,e,_,hw=>by
  have hw1 : ∀ w ∈ v1,w.length≤601:=fun w h=>by
   have:=hw w (by rw [List.take_of_length_le (by omega)]; exact h); omega
  rw [Aai.L1,if_neg (by omega),Ao4,Ab2]
  obtain ⟨N,E,g,q,e,hq,n1,n2,ok⟩:=AnN v0 0 (by omega) ⟨by omega,by omega⟩
  rw [e,Ajc]
  obtain ⟨a,q1,e1,hq1,_⟩:=Ad9 1000000000 v0 q (N : Int) (by omega) hq
  obtain ⟨b,q2,e2,hq2,_⟩:=Ad9 1000000000 v0 q1 (N : Int) (by omega) hq1
  obtain ⟨c,q3,e3,hq3,_⟩:=Ad9 1000000000 v0 q2 5 (by omega) hq2
  have ok':=(Ac4 _ _ _).1 ok
  have hE : inE N E:=fun e he=>by
   have:=(AiV _ _ _).1 (ok'.2.2.1 e he)
   exact ⟨this.1,this.2.1,this.2.2.1,this.2.2.2.1⟩
  have h5 : E.length≤500:=ok'.1.2.2
  have hg : g.length≤12:=by
   have:=Afo g 0 N ok'.2.1.1 ok'.2.1.2 (by omega)
   omega
  obtain ⟨l,l1,l2,l3⟩:=Ala 1000000000 N E g 1 a b 9 hE h5 (by omega) (by omega) (by omega)
  obtain ⟨l',p1,p2,p3⟩:=Ald 1000000000 N E g ⟨by omega,ok⟩ 1 a b 9 (by omega)
  have lb : l.length≤20∧∀ w ∈ l,2≤w.length∧w.length≤12:=by
   cases hs : Agw (N : Int) 1 a b with
   | false=>rw [l2 hs]; simp
   | true =>
    obtain ⟨s1,mm,dr,A⟩:=p3 hs
    have:=SR.uniq (l3 hs) s1
    subst this
    have la:=A.len
    refine ⟨by omega,fun w hw=>⟨(A.pw w hw).two,?_⟩⟩
    have:=nodup_range N w (A.pw w hw).nd (A.rg w hw)
    omega
  obtain ⟨lb1,lb2⟩:=lb
  have J : ∀ out : List (List Int),(∀ w ∈ out,w.length≤601)→out.length≤601→Aai.J2 1000000000 v1 v2 (N : Int) E g a b out=some true:=fun out h1 h2=>Apm N E g (by omega) ok v1 v2 h3 a b out hw1 (by omega) h1 h2
  have base : ∀ w ∈ l,w.length≤601:=fun w hw=>by have:=lb2 w hw; omega
  rw [e1,Ab2,e2,Ab2,l1,Aae,e3,Ab2]
  by_cases c0 : c=0
  ·rw [if_pos c0,Aam (by omega)]
   exact J _ (fun w hw=>by rcases List.mem_append.1 hw with h | h <;> exact base w h) (by rw [List.length_append]; omega)
  rw [if_neg c0]
  by_cases c1 : c=1
  ·rw [if_pos c1]
   split
   ·rename_i h0
    have h0' : 0<l.length:=by omega
    have z:=lb2 _ (List.getElem_mem h0')
    rw [Aam (by omega),AqB h0',Aam (by omega),Aam (by rw [h3]; decide),AqB (by omega),Anp,Aae,Aam (by simp only [List.length_cons,List.length_nil]; omega),Aam (by omega)]
    refine J _ (fun w hw=>?_) (by rw [List.length_set]; omega)
    rcases List.mem_or_eq_of_mem_set hw with h | h
    ·exact base w h
    ·subst h; rw [List.length_append]; simp only [List.length_cons,List.length_nil]; omega
   ·exact J _ base (by omega)
  rw [if_neg c1]
  by_cases c2 : c=2
  ·rw [if_pos c2]
   split
   ·rename_i h0
    have h0' : 0<l.length:=by omega
    have z:=lb2 _ (List.getElem_mem h0')
    rw [Aam (by omega),AqB h0',Aam (by omega),Aam (by omega)]
    refine J _ (fun w hw=>?_) (by rw [List.length_set]; omega)
    rcases List.mem_or_eq_of_mem_set hw with h | h
    ·exact base w h
    ·subst h; rw [List.length_drop]; omega
   ·exact J _ base (by omega)
  rw [if_neg c2]
  by_cases c3 : c=3
  ·rw [if_pos c3]
   split
   ·rw [Aam (by omega)]
    exact J _ (fun w hw=>base w (List.mem_of_mem_drop hw)) (by rw [List.length_drop]; omega)
   ·exact J _ base (by omega)
  rw [if_neg c3]
  exact J _ base (by omega)
theorem Ahh (v0 : List Int) (v1 : List (List Int)) (v2 : List Int) (h0 : Fit (.lst false false (v0.map (.int .i64)))) (h3 : v2.length=3) : ∃ k,Aai k v0 v1 v2=some true:=by
 refine ⟨1000000000,?_⟩
 unfold Aai
 rw [AnM,Aae]
 by_cases h : (v0.length : Int)≤400
 ·rw [if_neg (by simpa using h)]
  by_cases h1 : 12<(v1.length : Int)
  ·rw [if_pos h1,Aiq,Aae]
  ·rw [if_neg h1]
   exact AnU v0 v1 v2 (by omega) h3 (by omega) v1.length 0 1000000000 (by omega) (by omega) (by simp)
 ·rw [if_pos (by simpa using h),Aiq,Aae]
end Go.TF
