import Derived.Test.YtelffnegemdicaaPtzPla37
set_option linter.unusedVariables false
set_option linter.unusedSimpArgs false
namespace Go.TF
open Go Go.Abs
theorem Al4 (k : Nat) (f t l a b lv : Int) : AdN k f t l a b lv=some (decide (lv≤l∧f=a∧t=b)):=by
 unfold AdN
 by_cases h : f=a
 ·rw [if_pos h]
  by_cases h2 : t=b
  ·rw [if_pos h2]; simp [h,h2]
  ·rw [if_neg h2]; simp [h2]
 ·rw [if_neg h]; simp [h]
theorem Akl (k : Nat) (E : List AaA) (a b lv : Int) (h9 : E.length≤1000000) : ∀ (m i n : Nat),i+m=E.length→m<n→∃ r,AaT.L1 k E a b lv n (i : Int)=some r∧(0≤r↔∃ e ∈ E.drop i,lv≤e.Level∧e.From=a∧e.To=b)
 | 0,i,n+1,e,_=>⟨-1,by rw [AaT.L1,if_neg (by omega)],by rw [List.drop_of_length_le (by omega)]; simp⟩
 | m+1,i,n+1,e,hn=>by
  have hi : i<E.length:=by omega
  rw [AaT.L1,if_pos (by omega),Aa4 hi,Al4,Aaa,List.drop_eq_getElem_cons hi]
  by_cases q : lv≤E[i].Level∧E[i].From=a∧E[i].To=b
  ·rw [if_pos (by simpa using q)]
   exact ⟨(i : Int),rfl,⟨fun _=>⟨_,List.mem_cons_self,q⟩,fun _=>by omega⟩⟩
  ·rw [if_neg (by simpa using q),Ad9 i (by omega)]
   obtain ⟨r,e1,e2⟩:=Akl k E a b lv h9 m (i+1) n (by omega) (by omega)
   refine ⟨r,e1,e2.trans ?_⟩
   constructor
   ·rintro ⟨x,hx,z⟩; exact ⟨x,List.mem_cons_of_mem _ hx,z⟩
   ·rintro ⟨x,hx,z⟩
    rcases List.mem_cons.1 hx with rfl | hx
    ·exact absurd z q
    ·exact ⟨x,hx,z⟩
theorem AnK (k : Nat) (N : Int) (E : List AaA) (g : List Int) (lv a b : Int) (hk : E.length<k) (h9 : E.length≤1000000) : ∃ r,AeC k N E g lv a b=some r∧(r=true↔eg E lv a b):=by
 obtain ⟨r,e1,e2⟩:=Akl k E a b lv h9 E.length 0 k (by omega) hk
 unfold AeC Aa7 AaT
 rw [show AaT.L1 k E a b lv k 0=some r from e1,Aaa,Aaa]
 exact ⟨_,rfl,by rw [decide_eq_true_eq,e2,List.drop_zero]; rfl⟩
theorem AtX {α β : Type} {l : List α} {f : α→Option β} (h : 0<l.length) : idx l 0 f=f l[0]:=Aa4 (i:=0) h
theorem PW2.at0 {E : List AaA} {lv a b : Int} {w : List Int} (P : PW2 E lv a b w) (h : 0<w.length) : w[0]=a:=by
 have:=P.hd
 rw [List.head?_eq_getElem?,List.getElem?_eq_getElem h] at this
 exact Option.some.inj this
theorem PW2.at1 {E : List AaA} {lv a b : Int} {w : List Int} (P : PW2 E lv a b w) (h : w.length-1<w.length) : w[w.length-1]=b:=by
 have:=P.lt
 rw [List.getLast?_eq_getElem?,List.getElem?_eq_getElem h] at this
 exact Option.some.inj this
theorem PW2.ne {E : List AaA} {lv a b : Int} {w : List Int} (P : PW2 E lv a b w) {i j : Nat} (hi : i<w.length) (hj : j<w.length) (h : w[i]=w[j]) : i=j:=by
 have nd:=P.nd
 rw [List.nodup_iff_pairwise_ne,List.pairwise_iff_getElem] at nd
 apply Classical.byContradiction
 intro c
 by_cases z : i<j
 ·exact nd i j hi hj z h
 ·exact nd j i hj hi (by omega) h.symm
theorem AqS (k : Nat) (N : Int) (E : List AaA) (g : List Int) (lv a b ix : Int) (w : List Int) (d : Bool) (kb : Bool→Int→(List (Int×Bool))→Option Bool) (hk : E.length<k) (h9 : E.length≤1000000) (P : PW2 E lv a b w) (hw : w.length≤1000000) : ∀ (m j n : Nat) (mm : List (Int×Bool)),1≤j→j+m=w.length→m<n→(∀ i,j≤i→∀ h : i+1<w.length,usB mm w[i]=false) →
 ∃ mm',AaV.L5 k N E g lv ix w d kb n (j : Int) mm=kb d (IntKind.wrap .i64 (ix+1)) mm'∧∀ v,usB mm' v=true↔usB mm v=true∨∃ i,∃ h : i<w.length,j≤i∧w[i]=v
 | 0,j,n+1,mm,h1,e,_,_=>⟨mm,by rw [AaV.L5,if_neg (by omega)],fun v=>⟨.inl,fun q=>q.elim id (by rintro ⟨i,h,z,_⟩; omega)⟩⟩
 | m+1,j,n+1,mm,h1,e,hn,un=>by
  have hj : j<w.length:=by omega
  obtain ⟨p,rfl⟩ : ∃ q,j=q+1:=⟨j-1,by omega⟩
  have hp : p<w.length:=by omega
  obtain ⟨r,e1,e2⟩:=AnK k N E g lv w[p] w[p+1] hk h9
  have hr : r=true:=e2.2 (P.ed p hj)
  subst hr
  obtain ⟨mm',k1,k2⟩:=AqS k N E g lv a b ix w d kb hk h9 P hw m (p+2) n (AbC mm w[p+1] true) (by omega) (by omega) (by omega) (fun i hi h=>by
   have:=un i (by omega) h
   unfold usB at this ⊢
   rw [Abq,if_neg (fun z=>by have:=P.ne (by omega) hj z; omega)]; exact this)
  have go : AaV.J6 k w ((p+1 : Nat) : Int) mm (fun v15_ v16_=>AaV.L5 k N E g lv ix w d kb n v15_ v16_)=kb d (IntKind.wrap .i64 (ix+1)) mm':=by
   unfold AaV.J6; rw [Aa4 hj]; simp only [Ad9 (p+1) (by omega)]; exact k1
  refine ⟨mm',?_,fun v=>?_⟩
  ·rw [AaV.L5,if_pos (by omega),AqO p (by omega),Aa4 hp,Aa4 hj,e1,Aaa,if_neg (by simp)]
   split
   ·rename_i hlt
    rw [w64 (by omega) (by omega)] at hlt
    have:=un (p+1) (by omega) (by omega)
    unfold usB at this; unfold AgG
    cases q : Ab4 mm w[p+1] with
    | none=>exact go
    | some x =>
     rw [q] at this
     simp only [Option.getD_some] at this
     subst this
     simp only []
     rw [if_neg (by simp)]; exact go
   ·exact go
  ·rw [k2 v]
   unfold usB
   rw [Abq]
   constructor
   ·rintro (z | ⟨i,h,z1,z2⟩)
    ·split at z
     ·rename_i hv; exact .inr ⟨p+1,hj,by omega,hv.symm⟩
     ·exact .inl z
    ·exact .inr ⟨i,h,by omega,z2⟩
   ·rintro (z | ⟨i,h,z1,z2⟩)
    ·left; split
     ·rfl
     ·exact z
    ·by_cases q : i=p+1
     ·subst q; left; rw [if_pos z2.symm]; rfl
     ·exact .inr ⟨i,h,by omega,z2⟩
theorem AqT (k N : Nat) (E : List AaA) (g : List Int) (lv a b : Int) (out : List (List Int)) (mm0 : List (Int×Bool)) (dr0 : Bool) (A : Ap N E lv a b out mm0 dr0) (hk : E.length<k) (hk2 : N<k) (h9 : E.length≤1000000) (hN : N≤100000) : ∀ (m i n : Nat) (dr : Bool) (mm : List (Int×Bool)),i+m=out.length→m<n→(dr=true→∃ w ∈ out.take i,w.length=2)→(∀ v,usB mm v=true↔v=a∨v=b∨∃ w ∈ out.take i,v ∈ inn w)→AaV.L2 k (N : Int) E g lv a b out n dr (i : Int) mm=some true
 | 0,i,n+1,dr,mm,e,_,_,_=>by rw [AaV.L2,if_neg (by omega)]
 | m+1,i,n+1,dr,mm,e,hn,hd,hm=>by
  have lo:=A.len
  have hi : i<out.length:=by omega
  have mem:=List.getElem_mem hi
  have tk:=List.take_succ_eq_append_getElem hi
  have bef' : ∀ w' ∈ out.take i,(∀ v ∈ inn w',v ∉ inn out[i])∧¬ (w'.length=2∧out[i].length=2):=by
   intro w' hw'
   obtain ⟨j,hj,rfl⟩:=List.mem_iff_getElem.1 hw'
   rw [List.length_take] at hj
   have dj:=A.dj; have d1:=A.d1
   rw [List.pairwise_iff_getElem] at dj d1
   rw [List.getElem_take]
   exact ⟨dj j i (by omega) hi (by omega),d1 j i (by omega) hi (by omega)⟩
  obtain ⟨w,hw⟩ : ∃ w,out[i]=w:=⟨_,rfl⟩
  rw [hw] at mem tk bef'
  have P:=A.pw w mem
  have two:=P.two
  have wl : w.length≤N:=nodup_range N w P.nd (A.rg w mem)
  obtain ⟨mm',k1,k2⟩:=AqS k (N : Int) E g lv a b (i : Int) w (dr||(w.length==2)) (fun v10_ v11_ v12_=>AaV.L2 k (N : Int) E g lv a b out n v10_ v11_ v12_) hk h9 P (by omega) (w.length-1) 1 k mm (by omega) (by omega) (by omega) (fun j hj h=>by
   have jn : w[j] ∈ inn w:=Aes.2 ⟨j-1,by omega,by congr 1; omega⟩
   cases q : usB mm w[j] with
   | false=>rfl
   | true =>
    rcases (hm _).1 q with z | z | ⟨w',hw',z⟩
    ·exact absurd z (AjQ P jn).1
    ·exact absurd z (AjQ P jn).2
    ·exact absurd jn ((bef' w' hw').1 _ z))
  have ih:=AqT k N E g lv a b out mm0 dr0 A hk hk2 h9 hN m (i+1) n (dr||(w.length==2)) mm' (by omega) (by omega) (fun q=>by
   rw [tk]
   rw [Bool.or_eq_true] at q
   rcases q with q | q
   ·obtain ⟨w',h1,h2⟩:=hd q; exact ⟨w',List.mem_append_left _ h1,h2⟩
   ·exact ⟨w,by simp,by simpa using q⟩) (fun v=>by
   rw [k2 v,hm v,tk]
   constructor
   ·rintro ((z | z | ⟨w',h1,h2⟩) | ⟨j,h,z1,z2⟩)
    ·exact .inl z
    ·exact .inr (.inl z)
    ·exact .inr (.inr ⟨w',List.mem_append_left _ h1,h2⟩)
    ·by_cases q : j=w.length-1
     ·subst q; right; left; rw [← z2,P.at1 h]
     ·exact .inr (.inr ⟨w,by simp,Aes.2 ⟨j-1,by omega,by rw [← z2]; congr 1; omega⟩⟩)
   ·rintro (z | z | ⟨w',h1,h2⟩)
    ·exact .inl (.inl z)
    ·exact .inl (.inr (.inl z))
    ·rcases List.mem_append.1 h1 with h1 | h1
     ·exact .inl (.inr (.inr ⟨w',h1,h2⟩))
     ·rw [List.mem_singleton] at h1
      subst h1
      obtain ⟨j,h,z⟩:=Aes.1 h2
      exact .inr ⟨j+1,by omega,by omega,z⟩)
  have go : AaV.J3 k (N : Int) E g lv dr (i : Int) mm w (fun v10_ v11_ v12_=>AaV.L2 k (N : Int) E g lv a b out n v10_ v11_ v12_)=some true:=by
   have fin : ∀ d2 : Bool,d2=(dr||(w.length==2))→AaV.J4 k (N : Int) E g lv (i : Int) mm w (fun v10_ v11_ v12_=>AaV.L2 k (N : Int) E g lv a b out n v10_ v11_ v12_) d2=some true:=by
    intro d2 h2
    unfold AaV.J4
    rw [h2,show AaV.L5 k (N : Int) E g lv (i : Int) w (dr||(w.length==2)) (fun v10_ v11_ v12_=>AaV.L2 k (N : Int) E g lv a b out n v10_ v11_ v12_) k 1 mm=_ from k1]
    simp only [Ad9 i (by omega)]
    exact ih
   unfold AaV.J3
   cases dr with
   | true=>rw [if_pos rfl]; exact fin true rfl
   | false =>
    rw [if_neg (by simp)]
    refine fin _ ?_
    rw [Bool.false_or,Bool.eq_iff_iff,beq_iff_eq,beq_iff_eq]; omega
  rw [AaV.L2,if_pos (by omega),Aa4 hi,hw,if_neg (by omega),AtX (by omega),P.at0 (by omega),if_neg (by simp),show IntKind.wrap .i64 ((w.length : Int)-1)=((w.length-1 : Nat) : Int) by rw [w64 (by omega) (by omega)]; omega,Aa4 (show w.length-1<w.length by omega),P.at1 (by omega),if_neg (by simp)]
  split
  ·rename_i h2
   cases dr with
   | true =>
    obtain ⟨w',h3,h4⟩:=hd rfl
    exact absurd ⟨h4,by omega⟩ (bef' w' h3).2
   | false=>rw [if_neg (by simp)]; exact go
  ·exact go
theorem Al6 (k N : Nat) (E : List AaA) (g : List Int) (lv a b : Int) (out : List (List Int)) (mm0 : List (Int×Bool)) (dr0 : Bool) (A : Ap N E lv a b out mm0 dr0) (hk : E.length<k) (hk2 : N<k) (h9 : E.length≤1000000) (hN : N≤100000) (hq : Ajj N lv a b=true) : AaV k (N : Int) E g lv a b out=some true:=by
 have lo:=A.len
 have one : ∀ x y,(x=a∧y=b)∨(x=b∧y=a)→AaV.J1 k (N : Int) E g lv a b out (AbC (AbC ([] : (List (Int×Bool))) x true) y true)=some true:=by
  intro x y h
  unfold AaV.J1
  refine AqT k N E g lv a b out mm0 dr0 A hk hk2 h9 hN out.length 0 k false _ (by omega) (by omega) (by simp) (fun v=>?_)
  unfold usB
  rw [Abq,Abq]
  rcases h with ⟨rfl,rfl⟩ | ⟨rfl,rfl⟩ <;> by_cases z1 : v=x <;> by_cases z2 : v=y <;> simp [z1,z2,Ab4,mgI] <;> simp_all
 unfold AaV
 rw [Aim k _ _ _ _ _ _ (by omega),hq,Aaa,if_neg (by simp),one a b (.inl ⟨rfl,rfl⟩),one b a (.inr ⟨rfl,rfl⟩)]
 rfl
def mk (l : List Bool) (v : Int) : Bool:=l.getD v.toNat false
theorem Aqk {l : List Bool} {v : Int} (h0 : 0≤v) (h : v.toNat<l.length) : mk l v=l[v.toNat]:=by
 unfold mk; rw [List.getD_eq_getElem?_getD,List.getElem?_eq_getElem h]; rfl
theorem An5 {l : List Bool} {u v : Int} (h0 : 0≤v) (hu : 0≤u∧u.toNat<l.length) : mk (l.set u.toNat true) v=if v=u then true else mk l v:=by
 unfold mk
 rw [List.getD_eq_getElem?_getD,List.getElem?_set,List.getD_eq_getElem?_getD]
 by_cases e : v=u
 ·subst e; rw [if_pos rfl,if_pos hu.2,if_pos rfl]; rfl
 ·rw [if_neg (by omega),if_neg e]
theorem AtB {α β : Type} {l : List α} {v : Int} {f : α→Option β} (h0 : 0≤v) (h : v.toNat<l.length) : idx l v f=f l[v.toNat]:=by
 obtain ⟨n,rfl⟩:=Int.eq_ofNat_of_zero_le h0
 exact Aa4 h
def inR (N : Nat) (R : List AaA) : Prop:=∀ e ∈ R,0≤e.From∧e.From<N∧0≤e.To∧e.To<N
theorem AqJ (k N : Nat) (R : List AaA) (a r : Int) (hR : inR N R) (h9 : R.length≤1000000) (kb : Int→(List Bool)→Option Bool) (m0 : List Bool) : ∀ (m i n : Nat) (c : List Bool),i+m=R.length→m<n→c.length=N→(∀ v,0≤v→mk m0 v=true→mk c v=true)→(∀ v,0≤v→mk c v=true→Rc R a v)→(∀ e ∈ R.take i,mk m0 e.From=true→mk c e.To=true) →
 ∃ c',Aal.L2 k R r kb n (i : Int) c=kb (IntKind.wrap .i64 (r+1)) c'∧c'.length=N∧(∀ v,0≤v→mk m0 v=true→mk c' v=true)∧(∀ v,0≤v→mk c' v=true→Rc R a v)∧(∀ e ∈ R,mk m0 e.From=true→mk c' e.To=true)
 | 0,i,n+1,c,e,_,l,h1,h2,h3=>⟨c,by rw [Aal.L2,if_neg (by omega)],l,h1,h2,by rw [List.take_of_length_le (by omega)] at h3; exact h3⟩
 | m+1,i,n+1,c,e,hn,l,h1,h2,h3=>by
  have hi : i<R.length:=by omega
  have rg:=hR _ (List.getElem_mem hi)
  have ih:=fun c=>AqJ k N R a r hR h9 kb m0 m (i+1) n c (by omega) (by omega)
  rw [List.take_succ_eq_append_getElem hi] at ih
  rw [Aal.L2,if_pos (by omega),Aa4 hi,Aaq (by omega),AtB rg.1 (by omega),← Aqk rg.1 (by omega)]
  unfold Aal.J3
  simp only [Ad9 i (by omega)]
  by_cases q : mk c R[i].From=true
  ·rw [if_pos q,Aaq (by omega)]
   have st : ∀ v,0≤v→mk (c.set R[i].To.toNat true) v=if v=R[i].To then true else mk c v:=fun v hv=>An5 hv (by omega)
   refine ih _ (by rw [List.length_set]; exact l) (fun v hv z=>?_) (fun v hv z=>?_) (fun x hx z=>?_)
   ·rw [st v hv]; split
    ·rfl
    ·exact h1 v hv z
   ·rw [st v hv] at z
    split at z
    ·rename_i e1; rw [e1]; exact .s (h2 _ rg.1 q) (List.getElem_mem hi)
    ·exact h2 v hv z
   ·rcases List.mem_append.1 hx with hx | hx
    ·rw [st _ (hR x (List.mem_of_mem_take hx)).2.2.1]; split
     ·rfl
     ·exact h3 x hx z
    ·rw [List.mem_singleton] at hx; subst hx
     rw [st _ rg.2.2.1,if_pos rfl]
  ·rw [if_neg q]
   refine ih c l h1 h2 (fun x hx z=>?_)
   rcases List.mem_append.1 hx with hx | hx
   ·exact h3 x hx z
   ·rw [List.mem_singleton] at hx; subst hx
    exact absurd (h1 _ rg.1 z) q
def cnM (N : Nat) (c : List Bool) : Nat:=Af2 N (mk c)
theorem Asd {N : Nat} {f g : Int→Bool} (h : ∀ v,0≤v→f v=true→g v=true) {j : Int} (hj : 0≤j∧j<N) (hf : f j=false) (hg : g j=true) : Af2 N f<Af2 N g:=by
 have s:=Agg g f (AhY N)
 have h1 : Af2 N f≤((AhY N).filter fun x=>g x&&f x).length:=AoD _ _ _ fun x hx q=>by rw [h x (Adw.1 hx).1 q,q]; rfl
 have h2 : 0<((AhY N).filter fun x=>g x && !f x).length:=List.length_pos_of_mem (a:=j) (List.mem_filter.2 ⟨Adw.2 hj,by rw [hg,hf]; rfl⟩)
 unfold Af2 at h1 ⊢
 omega
theorem Amf (N : Nat) (f : Int→Bool) : Af2 N f≤N:=by
 unfold Af2
 exact Nat.le_trans (List.length_filter_le _ _) (by rw [AiP]; exact Nat.le_refl _)
theorem AqK (k N : Nat) (R : List AaA) (a b : Int) (hR : inR N R) (h9 : R.length≤1000000) (hk : R.length<k) (hN : N≤1000000) (hb : 0≤b∧b<N) (ha : 0≤a) : ∀ (m i n : Nat) (c : List Bool),i+m=N→m<n→c.length=N→mk c a=true→(∀ v,0≤v→mk c v=true→Rc R a v)→((∀ v,Rc R a v→mk c v=true)∨i+1≤cnM N c) →
 ∃ r,Aal.L1 k (N : Int) R b n (i : Int) c=some r∧(r=true↔Rc R a b)
 | 0,i,n+1,c,e,_,l,ca,h1,h2=>by
  have h2 : ∀ v,Rc R a v→mk c v=true:=h2.resolve_right (by have:=Amf N (mk c); unfold cnM; omega)
  rw [Aal.L1,if_neg (by omega),AtB hb.1 (by omega),← Aqk hb.1 (by omega)]
  exact ⟨_,rfl,h1 b hb.1,h2 b⟩
 | m+1,i,n+1,c,e,hn,l,ca,h1,h2=>by
  rw [Aal.L1,if_pos (by omega)]
  obtain ⟨c',k1,k2,k3,k4,k5⟩:=AqJ k N R a (i : Int) hR h9 (fun v6_ v7_=>Aal.L1 k (N : Int) R b n v6_ v7_) c R.length 0 k c (by omega) hk l (fun _ _ z=>z) h1 (by simp)
  rw [show Aal.L2 k R (i : Int) (fun v6_ v7_=>Aal.L1 k (N : Int) R b n v6_ v7_) k 0 c=_ from k1]
  simp only [Ad9 i (by omega)]
  refine AqK k N R a b hR h9 hk hN hb ha m (i+1) n c' (by omega) (by omega) k2 (k3 a ha ca) k4 ?_
  rcases h2 with h2 | h2
  ·left
   intro v hv
   have : 0≤v:=by
    cases hv with
    | z=>exact ha
    | s _ he=>exact (hR _ he).2.2.1
   exact k3 v this (h2 v hv)
  ·by_cases cl : ∀ e ∈ R,mk c e.From=true→mk c e.To=true
   ·left
    have : ∀ v,Rc R a v→mk c v=true:=by
     intro v hv
     induction hv with
     | z=>exact ca
     | s h he ih=>exact cl _ he ih
    intro v hv
    have v0 : 0≤v:=by
     cases hv with
     | z=>exact ha
     | s _ he=>exact (hR _ he).2.2.1
    exact k3 v v0 (this v hv)
   ·right
    have : ∃ e ∈ R,mk c e.From=true∧mk c e.To=false:=by
     apply Classical.byContradiction
     intro z
     apply cl
     intro e he hf
     cases q : mk c e.To with
     | true=>rfl
     | false=>exact absurd ⟨e,he,hf,q⟩ z
    obtain ⟨e,he,hf,ht⟩:=this
    have:=Asd (N:=N) k3 (hR e he).2.2 ht (k5 e he hf)
    unfold cnM at h2 ⊢
    omega
theorem AlH (k N : Nat) (R : List AaA) (a b : Int) (hR : inR N R) (h9 : R.length≤1000000) (hk : R.length<k) (hk2 : N<k) (hN : N≤1000000) (ha : 0≤a∧a<N) (hb : 0≤b∧b<N) (g : List Int) : ∃ r,Aal k (N : Int) R g a b=some r∧(r=true↔Rc R a b):=by
 unfold Aal
 try simp only [Am8]
 have lr : (List.replicate ((N : Int)).toNat false).length=N:=by rw [List.length_replicate]; omega
 rw [Aaq (by omega),Aaq (by omega)]
 have st : ∀ v,0≤v→mk ((List.replicate ((N : Int)).toNat false).set a.toNat true) v=if v=a then true else false:=by
  intro v hv
  rw [An5 hv (by omega)]
  congr 1
  unfold mk
  rw [List.getD_eq_getElem?_getD,List.getElem?_replicate]
  split <;> rfl
 refine AqK k N R a b hR h9 hk hN hb ha.1 N 0 k _ (by omega) hk2 (by rw [List.length_set]; exact lr) (by rw [st a ha.1,if_pos rfl]) (fun v hv z=>?_) (.inr ?_)
 ·rw [st v hv] at z
  split at z
  ·rename_i e; rw [e]; exact .z
  ·cases z
 ·have : 0<cnM N ((List.replicate ((N : Int)).toNat false).set a.toNat true):=List.length_pos_of_mem (a:=a) (List.mem_filter.2 ⟨Adw.2 ha,by rw [st a ha.1,if_pos rfl]⟩)
  omega
def bs (s : Nat) (v : Int) : Bool:=decide (s / 2 ^ v.toNat % 2=1)
theorem Atc : ∀ (t : Fin 512) (i : Fin 9),Ac6 .and .i64 (Int.fdiv ((t.val : Nat) : Int) (2 ^ (min ((IntKind.wrap .u64 ((i.val : Nat) : Int)).toNat) 64))) 1=if t.val / 2 ^ i.val % 2=1 then 1 else 0:=by decide +kernel
theorem Asy : ∀ n : Fin 10,IntKind.wrap .i64 (1*2 ^ (min ((IntKind.wrap .u64 ((n.val : Nat) : Int)).toNat) 64))=2 ^ n.val:=by decide +kernel
theorem AoK {s : Nat} {v : Int} (hs : s<512) (hv : 0≤v∧v<9) : Ac6 .and .i64 (Int.fdiv (s : Int) (2 ^ (min ((IntKind.wrap .u64 v).toNat) 64))) 1=if bs s v=true then 1 else 0:=by
 obtain ⟨n,rfl⟩:=Int.eq_ofNat_of_zero_le hv.1
 have:=Atc ⟨s,hs⟩ ⟨n,by omega⟩
 simp only [] at this
 rw [this]
 unfold bs
 rw [show ((n : Int)).toNat=n by omega]
 by_cases q : s / 2 ^ n % 2=1
 ·rw [if_pos q,if_pos (decide_eq_true q)]
 ·rw [if_neg q,if_neg (by simpa using q)]
theorem Ank {s : Nat} {v : Int} (hs : s<512) (hv : 0≤v∧v<9) : (Ac6 .and .i64 (Int.fdiv (s : Int) (2 ^ (min ((IntKind.wrap .u64 v).toNat) 64))) 1=0↔bs s v=false)∧(Ac6 .and .i64 (Int.fdiv (s : Int) (2 ^ (min ((IntKind.wrap .u64 v).toNat) 64))) 1=1↔bs s v=true):=by
 rw [AoK hs hv]
 cases bs s v <;> simp
theorem AoE (k N : Nat) (E : List AaA) (a b least c : Int) (s : Nat) (kb : Int→Int→Option Bool) (hE : inE N E) (hN : N≤9) (h5 : E.length≤500) (hk : 600<k) (hs : s<512) (ha : 0≤a∧a<N) (hb : 0≤b∧b<N) : ∀ (m i n : Nat),i+m=E.length→m<n →
 ∃ r : Bool,AaF.L5 k (N : Int) E a b least (s : Int) c kb n (i : Int) ((E.take i).filter (AcT (bs s) a b))=kb (if r=true then least else if c<least then c else least) (IntKind.wrap .i64 ((s : Int)+1))∧(r=true↔Rc (E.filter (AcT (bs s) a b)) a b)
 | 0,i,n+1,e,_=>by
  have hf : ∀ e ∈ E.filter (AcT (bs s) a b),e ∈ E:=fun e he=>(List.mem_filter.1 he).1
  have lf:=List.length_filter_le (AcT (bs s) a b) E
  obtain ⟨r,r1,r2⟩:=AlH k N (E.filter (AcT (bs s) a b)) a b (fun e he=>hE e (hf e he)) (by omega) (by omega) (by omega) (by omega) ha hb []
  rw [AaF.L5,if_neg (by omega),List.take_of_length_le (by omega),r1,Aaa]
  refine ⟨r,?_,r2⟩
  unfold AaF.J3 Am8
  cases r <;> rfl
 | m+1,i,n+1,e,hn=>by
  have hi : i<E.length:=by omega
  have rg:=hE _ (List.getElem_mem hi)
  have ih:=AoE k N E a b least c s kb hE hN h5 hk hs ha hb m (i+1) n (by omega) (by omega)
  rw [List.take_succ_eq_append_getElem hi,List.filter_append] at ih
  have lf:=List.length_filter_le (AcT (bs s) a b) (E.take i)
  rw [List.length_take] at lf
  have uf:=AoO (n:=E[i].From) (by omega) (by omega)
  have ut:=AoO (n:=E[i].To) (by omega) (by omega)
  have zf:=(Ank hs (v:=E[i].From) (by omega)).1
  have zt:=(Ank hs (v:=E[i].To) (by omega)).1
  rw [AaF.L5,if_pos (by omega),Aa4 hi,Aaq (by rw [uf]; exact rg.1)]
  unfold AaF.J6
  simp only [Ad9 i (by omega)]
  have yes : AcT (bs s) a b E[i]=true→[E[i]].filter (AcT (bs s) a b) = [E[i]]:=fun q=>by rw [List.filter_cons,if_pos q]; rfl
  have no : ¬ AcT (bs s) a b E[i]=true→[E[i]].filter (AcT (bs s) a b) = []:=fun q=>by rw [List.filter_cons,if_neg q]; rfl
  by_cases q1 : bs s E[i].From=false
  ·rw [if_pos (zf.2 q1),Aaq (by rw [ut]; exact rg.2.2.1)]
   by_cases q2 : bs s E[i].To=false
   ·rw [if_pos (zt.2 q2)]
    by_cases q3 : E[i].From=a
    ·rw [if_pos q3]
     by_cases q4 : E[i].To≠b
     ·rw [if_pos q4,Aaq (by simp only [List.length_cons,List.length_nil]; omega)]
      rw [yes (by unfold AcT; rw [decide_eq_true_eq]; exact ⟨q1,q2,fun _=>q4⟩)] at ih
      exact ih
     ·rw [if_neg q4]
      rw [no (by unfold AcT; rw [decide_eq_true_eq]; exact fun z=>q4 (z.2.2 q3)),List.append_nil] at ih
      exact ih
    ·rw [if_neg q3,Aaq (by simp only [List.length_cons,List.length_nil]; omega)]
     rw [yes (by unfold AcT; rw [decide_eq_true_eq]; exact ⟨q1,q2,fun z=>absurd z q3⟩)] at ih
     exact ih
   ·rw [if_neg (fun z=>q2 (zt.1 z))]
    rw [no (by unfold AcT; rw [decide_eq_true_eq]; exact fun z=>q2 z.2.1),List.append_nil] at ih
    exact ih
  ·rw [if_neg (fun z=>q1 (zf.1 z))]
   rw [no (by unfold AcT; rw [decide_eq_true_eq]; exact fun z=>q1 z.1),List.append_nil] at ih
   exact ih
theorem Ame (i : Nat) (f : Int→Bool) : Af2 (i+1) f=Af2 i f+if f (i : Int)=true then 1 else 0:=by
 unfold Af2
 rw [AjE,List.filter_append,List.length_append,List.filter_cons]
 cases f (i : Int) <;> simp
theorem AoF (k N : Nat) (E : List AaA) (a b least : Int) (s d : Nat) (kb : Int→Int→Option Bool) (hN : N≤9) (hd : d≤100000) (hs : s<512) : ∀ (m i n : Nat),i+m=N→m<n →
 AaF.L4 k (N : Int) E a b least (s : Int) kb n ((d+Af2 i (bs s) : Nat) : Int) (i : Int)=AaF.L5 k (N : Int) E a b least (s : Int) ((d+Af2 N (bs s) : Nat) : Int) kb k 0 []
 | 0,i,n+1,e,_=>by
  have : i=N:=by omega
  subst this
  rw [AaF.L4,if_neg (by omega)]
 | m+1,i,n+1,e,hn=>by
  have ih:=AoF k N E a b least s d kb hN hd hs m (i+1) n (by omega) (by omega)
  have lc:=Amf i (bs s)
  rw [AaF.L4,if_pos (by omega),Aaq (by rw [AoO (by omega) (by omega)]; omega),AoK hs (by omega),Ad9 i (by omega),← ih,Ame]
  congr 1
  cases bs s (i : Int)
  ·rw [if_neg (by simp),if_neg (by simp),w64 (by omega) (by omega)]; omega
  ·rw [if_pos rfl,if_pos rfl,w64 (by omega) (by omega)]; omega
theorem AoG (k N : Nat) (l : List Int) (E : List AaA) (g : List Int) (a b q most V : Int) (d : Nat) (hE : inE N E) (hN : N≤9) (h5 : E.length≤500) (hk : 600<k) (ha : 0≤a∧a<N) (hb : 0≤b∧b<N) (hd : d≤100000)
 (hmin : ∀ s : Nat,Sep E a b (bs s)→V≤((Af2 N (bs s)+d : Nat) : Int)) (hfin : ∀ n,AaF.L2 k l (N : Int) E g a b q most (d : Int) (n+1) V ((2 ^ N : Nat) : Int)=some true) :
 ∀ (m s n : Nat) (least : Int),s+m=2 ^ N→m<n→V≤least→(least=V∨∃ t,s≤t∧t<2 ^ N∧Sep E a b (bs t)∧((Af2 N (bs t)+d : Nat) : Int)=V)→AaF.L2 k l (N : Int) E g a b q most (d : Int) n least (s : Int)=some true
 | 0,s,n+1,least,e,_,h1,h2=>by
  have : least=V:=h2.resolve_right (by rintro ⟨t,t1,t2,_⟩; omega)
  subst this
  have : s=2 ^ N:=by omega
  rw [this]; exact hfin n
 | m+1,s,n+1,least,e,hn,h1,h2=>by
  have p9 : 2 ^ N≤512:=Nat.pow_le_pow_right (n:=2) (by omega) hN
  have pw:=Asy ⟨N,by omega⟩
  simp only [] at pw
  have pc : ((2 : Int) ^ N)=((2 ^ N : Nat) : Int):=by simp
  have hs : s<512:=by omega
  have za:=(Ank hs (v:=a) (by omega)).2
  have zb:=(Ank hs (v:=b) (by omega)).2
  have ih:=fun least=>AoG k N l E g a b q most V d hE hN h5 hk ha hb hd hmin hfin m (s+1) n least (by omega) (by omega)
  have skip : ¬ Sep E a b (bs s)→AaF.J3 k (s : Int) (fun v17_ v18_=>AaF.L2 k l (N : Int) E g a b q most (d : Int) n v17_ v18_) least=some true:=by
   intro z
   unfold AaF.J3
   rw [Ad9 s (by omega)]
   refine ih least h1 ?_
   rcases h2 with h2 | ⟨t,t1,t2,t3,t4⟩
   ·exact .inl h2
   ·exact .inr ⟨t,by apply Classical.byContradiction; intro y; exact z (by rw [show s=t by omega]; exact t3),t2,t3,t4⟩
  rw [AaF.L2,Aaq (by rw [AoO (by omega) (by omega)]; omega),pw,pc,if_pos (by omega),Aaq (by rw [AoO (by omega) (by omega)]; exact ha.1)]
  by_cases qa : bs s a=true
  ·rw [if_pos (za.2 qa)]
   exact skip fun z=>by rw [z.a0] at qa; cases qa
  rw [if_neg (fun z=>qa (za.1 z)),Aaq (by rw [AoO (by omega) (by omega)]; exact hb.1)]
  by_cases qb : bs s b=true
  ·rw [if_pos (zb.2 qb)]
   exact skip fun z=>by rw [z.b0] at qb; cases qb
  rw [if_neg (fun z=>qb (zb.1 z))]
  have c0 : Af2 0 (bs s)=0:=rfl
  have l4:=AoF k N E a b least s d (fun v17_ v18_=>AaF.L2 k l (N : Int) E g a b q most (d : Int) n v17_ v18_) hN hd hs N 0 k (by omega) (by omega)
  rw [c0,Nat.add_zero] at l4
  rw [show AaF.L4 k (N : Int) E a b least (s : Int) (fun v17_ v18_=>AaF.L2 k l (N : Int) E g a b q most (d : Int) n v17_ v18_) k (d : Int) 0=_ from l4]
  obtain ⟨r,r1,r2⟩:=AoE k N E a b least ((d+Af2 N (bs s) : Nat) : Int) s (fun v17_ v18_=>AaF.L2 k l (N : Int) E g a b q most (d : Int) n v17_ v18_) hE hN h5 hk hs ha hb E.length 0 k (by omega) (by omega)
  rw [show AaF.L5 k (N : Int) E a b least (s : Int) ((d+Af2 N (bs s) : Nat) : Int) (fun v17_ v18_=>AaF.L2 k l (N : Int) E g a b q most (d : Int) n v17_ v18_) k 0 []=_ from r1]
  cases r with
  | true =>
   have:=skip fun z=>z.no (r2.1 rfl)
   unfold AaF.J3 at this
   exact this
  | false =>
   have sp : Sep E a b (bs s):=⟨by simpa using qa,by simpa using qb,fun y=>by have:=r2.2 y; cases this⟩
   have mn:=hmin s sp
   simp only [Ad9 s (by omega)]
   rw [if_neg (by simp)]
   refine ih _ (by split <;> omega) ?_
   rcases h2 with h2 | ⟨t,t1,t2,t3,t4⟩
   ·left; rw [h2,if_neg (by omega)]
   ·by_cases z : t=s
    ·subst z; left; split <;> omega
    ·exact .inr ⟨t,by omega,t2,t3,t4⟩
theorem Ai1 (k : Nat) (E : List AaA) (x : Int) (h9 : E.length≤1000000) : ∀ (m i n : Nat) (acc : List Int),i+m=E.length→m<n→acc.length≤i→Abb.L1 k E x n (i : Int) acc=some (acc++outs (E.drop i) x)
 | 0,i,n+1,acc,e,_,_=>by rw [Abb.L1,if_neg (by omega),List.drop_of_length_le (by omega)]; simp [outs]
 | m+1,i,n+1,acc,e,hn,la=>by
  have hi : i<E.length:=by omega
  have ih:=fun acc=>Ai1 k E x h9 m (i+1) n acc (by omega) (by omega)
  rw [Abb.L1,if_pos (by omega),Aa4 hi,List.drop_eq_getElem_cons hi]
  unfold Abb.J2
  simp only [Ad9 i (by omega)]
  by_cases q : E[i].From=x
  ·rw [if_pos q,Aaq (by simp only [List.length_cons,List.length_nil]; omega),ih _ (by simp; omega)]
   unfold outs
   rw [List.filter_cons,if_pos (by simpa using q),List.map_cons,List.append_assoc]; rfl
  ·rw [if_neg q,ih _ (by omega)]
   unfold outs
   rw [List.filter_cons,if_neg (by simpa using q)]
theorem Ain (v0 : List Int) (h0 : Fit (.lst false false (v0.map (.int .i64)))) : ∃ k,AaF k v0=some true:=by
 refine ⟨1000000000,?_⟩
 unfold AaF
 rw [Anw,Aaa]
 by_cases h : (v0.length : Int)≤400
 ·rw [if_neg (by simpa using h),Apg,Abo]
  obtain ⟨N,E,g,q,e,hq,n1,n2,ok⟩:=Anz v0 0 (by omega) ⟨by omega,by omega⟩
  have G : GV N E g:=⟨by omega,by omega,ok⟩
  have hin:=G.inE; have h5:=G.len
  have ok':=(AdC _ _ _).1 ok
  obtain ⟨a,q2,e2,hq2,ha⟩:=Ad5 1000000000 v0 q (N : Int) (by omega) hq
  obtain ⟨b,q3,e3,hq3,hb⟩:=Ad5 1000000000 v0 q2 (N : Int) (by omega) hq2
  have ha:=ha (by omega) (by omega); have hb:=hb (by omega) (by omega)
  obtain ⟨v,v1,v2⟩:=AnM 1000000000 N E g 1 a b (by omega) hin h5 (by omega)
  rw [e,Aje,e2,Abo,e3,Abo,v1,Aaa]
  by_cases hab : a=b
  ·have:=v2.no (by unfold Ajj; rw [decide_eq_false_iff_not]; omega)
   rw [if_pos hab,AkU,Aaa,if_pos rfl,this]; rfl
  ·rw [if_neg hab]
   have ask : Ajj N 1 a b=true:=by unfold Ajj; rw [decide_eq_true_eq]; omega
   have L:=v2.yes ask
   have ro:=Ai1 1000000000 E a (by omega) E.length 0 1000000000 [] (by omega) (by omega) (by simp)
   rw [List.nil_append,List.drop_zero] at ro
   have lo:=G.outs a
   rw [show Abb 1000000000 (N : Int) E g a=some (outs E a) from ro,Aaa,AiL 1000000000 (outs E a) b (by omega) (by omega),Aaa]
   obtain ⟨S,s1,s2,s3⟩:=AqE (fun e he=>((AiO _ _ _).1 (ok'.2.2.1 e he)).2.2.2.2.2.1) hin ha hb hab L
   have s4:=An2 ok'.2.2.2 hin ha hb hab L s1
   have d1 : Ajp E a b≤1:=by unfold Ajp; split <;> omega
   have p9 : 2 ^ N≤512:=Nat.pow_le_pow_right (n:=2) (by omega) n2
   have tl:=AmI (fun i=>S (i : Int)) N
   have tb : ∀ x : Int,0≤x→x<N→bs (ofB (fun i=>S (i : Int)) N) x=S x:=by
    intro x x0 x1
    have:=AmJ (fun i=>S (i : Int)) N x.toNat (by omega)
    unfold bs
    rw [this,show ((x.toNat : Nat) : Int)=x by omega]
   have tc : Af2 N (bs (ofB (fun i=>S (i : Int)) N))=Af2 N S:=by
    unfold Af2
    congr 1
    exact List.filter_congr fun x hx=>tb x (Adw.1 hx).1 (Adw.1 hx).2
   have ts : Sep E a b (bs (ofB (fun i=>S (i : Int)) N)):=by
    refine ⟨by rw [tb a ha.1 ha.2]; exact s1.a0,by rw [tb b hb.1 hb.2]; exact s1.b0,?_⟩
    have : E.filter (AcT (bs (ofB (fun i=>S (i : Int)) N)) a b)=E.filter (AcT S a b):=List.filter_congr fun x hx=>by
     have r:=hin x hx
     unfold AcT
     rw [tb _ r.1 r.2.1,tb _ r.2.2.1 r.2.2.2]
    rw [this]; exact s1.no
   have key : AaF.J1 1000000000 v0 (N : Int) E g a b q3 v ((Ajp E a b : Nat) : Int)=some true:=by
    unfold AaF.J1
    refine AoG 1000000000 N v0 E g a b q3 v v (Ajp E a b) hin n2 h5 (by omega) ha hb (by omega) (fun s hs=>An2 ok'.2.2.2 hin ha hb hab L hs) ?_ (2 ^ N) 0 1000000000 99 (by omega) (by omega) (by omega) (.inr ⟨_,by omega,tl,ts,by rw [tc]; omega⟩)
    intro n
    have pw:=Asy ⟨N,by omega⟩
    simp only [] at pw
    have pc : ((2 : Int) ^ N)=((2 ^ N : Nat) : Int):=by simp
    obtain ⟨len,q4,e4,hq4,_⟩:=Ad5 1000000000 v0 q3 10 (by omega) hq3
    obtain ⟨l,l1,_,l3⟩:=Al5 1000000000 N E g ⟨by omega,ok⟩ 1 a b len (by omega)
    obtain ⟨_,mm,dr,A⟩:=l3 ask
    have wl:=AoS A s1
    rw [AaF.L2,Aaq (by rw [AoO (by omega) (by omega)]; omega),pw,pc,if_neg (by omega),e4,Abo,l1,Aaa,AkU,Aaa,if_pos rfl,if_pos rfl,if_pos (by omega),Al6 1000000000 N E g 1 a b l mm dr A (by omega) (by omega) (by omega) (by omega) ask,Aaa]
   by_cases hd : b ∈ outs E a
   ·rw [if_pos (by simpa using hd)]
    unfold Ajp at key
    rw [if_pos hd] at key; exact key
   ·rw [if_neg (by simpa using hd)]
    unfold Ajp at key
    rw [if_neg hd] at key; exact key
 ·rw [if_pos (by simpa using h),AkU,Aaa]
end Go.TF
