import Derived.Test.YtelffnegemdicaaMdtPla36
set_option linter.unusedVariables false
set_option linter.unusedSimpArgs false
namespace Go.TF
open Go Go.Abs
theorem AsU {V W : Vs} {t : Int} {s : Mf.Step} (h : t ∉ W.map (·.1)) : lk (W++(t,s)::V) t=some s:=by
 induction W with
 | nil=>simp [lk]
 | cons p W ih =>
  obtain ⟨w,q⟩:=p
  simp only [List.map_cons,List.mem_cons,not_or] at h
  rw [List.cons_append,lk,if_neg h.1,ih h.2]
theorem Agb {A : List Mf.Arc} {f : List Int} : ∀ {W V : Vs},Mf.Disc A f (W++V)→Mf.Disc A f V
 | [],_,h=>h
 | (w,s)::W,V,h=>Agb (W:=W) h.2.2.2.2.2.2
theorem mn (a b : Int) : (if a<b then a else b)≤a∧(if a<b then a else b)≤b:=by split <;> omega
theorem AlM (k N : Nat) (A : List AaE) (f : List Int) (h : NV N A) (hf : FB A f) (cm : List (Int×AaC)) (V : Vs) (hc : Cm cm V) (hd : Mf.Disc (ar A) f V) : ∀ (V' W : Vs) (n : Nat) (t most : Int) (acc : List AaC),V=W++V'→V'.length<n→(t=0∨t ∈ V'.map (·.1))→1≤most→acc.length+V'.length≤1000000000 →
 ∃ most',AaM.L2 k (N : Int) A f (Amr N A) cm n most t acc=AaM.L4 k most' (acc++(Mf.pathOf (ar A) V' t).map cvS) k 0 f∧most'≤most∧1≤most'∧∀ s ∈ Mf.pathOf (ar A) V' t,most'≤Mf.room (ar A) f s
 | [],W,n+1,t,most,acc,e,hn,ht,hm,_=>by
  rcases ht with rfl | ht
  ·rw [AaM.L2,if_neg (by simp)]
   exact ⟨most,by simp [Mf.pathOf],by omega,hm,by simp [Mf.pathOf]⟩
  ·simp at ht
 | (v,s)::V',W,n,t,most,acc,e,hn,ht,hm,ha=>by
  have hd' : Mf.Disc (ar A) f ((v,s)::V'):=Agb (e ▸ hd)
  by_cases t0 : t=0
  ·subst t0
   cases n with
   | zero=>omega
   | succ n =>
    rw [AaM.L2,if_neg (by simp),Mf.pathOf_zero hd']
    exact ⟨most,by simp,by omega,hm,by simp⟩
  ·by_cases tv : t=v
   ·subst tv
    cases n with
    | zero=>omega
    | succ n =>
     have hnd:=(Mf.disc_nodup hd).1
     rw [e,List.map_append,List.map_cons] at hnd
     have hw : t ∉ W.map (·.1):=fun q=>(List.nodup_append.1 hnd).2.2 t q t (by simp) rfl
     have hg:=hc t
     rw [if_neg t0,e,AsU hw] at hg
     obtain ⟨h1,h2,h3,h4,h5,h6,h7⟩:=hd'
     rw [Ab5] at h3
     have ok:=h.ok _ (List.getElem_mem h3)
     rw [AaM.L2,if_pos t0,hg]
     show ∃ most',AaM.J3 _ _ _ _ _ _ _ _ _ _=_∧_
     unfold AaM.J3
     rw [Am5 k N A f _ h hf s h3,AbK,AaT (by simp only [List.length_cons,List.length_nil] at ha ⊢; omega),Af4]
     have m1:=mn (Mf.room (ar A) f s) most
     have hr : 1≤(if Mf.room (ar A) f s<most then Mf.room (ar A) f s else most):=by split <;> omega
     obtain ⟨most',g1,g2,g3,g4⟩:=AlM k N A f h hf cm V hc hd V' (W++[(t,s)]) n (Mf.stFr (ar A) s) (if Mf.room (ar A) f s<most then Mf.room (ar A) f s else most) (acc++[cvS s]) (by rw [e]; simp) (by simp only [List.length_cons] at hn; omega) h5 hr (by simp only [List.length_append,List.length_cons,List.length_nil] at ha ⊢; omega)
     have hp : Mf.pathOf (ar A) ((t,s)::V') t=s::Mf.pathOf (ar A) V' (Mf.stFr (ar A) s):=by rw [Mf.pathOf,if_pos rfl]
     have fin : AaM.L2 k (N : Int) A f (Amr N A) cm n (if Mf.room (ar A) f s<most then Mf.room (ar A) f s else most) (Mf.stFr (ar A) s) (acc++[cvS s])=AaM.L4 k most' (acc++(Mf.pathOf (ar A) ((t,s)::V') t).map cvS) k 0 f:=by
      rw [g1,hp]; simp
     refine ⟨most',?_,by omega,g3,?_⟩
     ·rw [← fin]
      show idx A (s.1 : Int) _=_
      rw [Aae h3]
      have e1 : (AaC.mk (cvS s).arc (cvS s).back)=cvS s:=rfl
      rw [e1]
      show (if s.2=true then _ else _)=_
      unfold Mf.stFr
      rw [AeF h3]
      cases s.2 <;> simp
     ·rw [hp]; intro x hx
      rcases List.mem_cons.1 hx with rfl | hx
      ·omega
      ·exact g4 x hx
   ·have hp : Mf.pathOf (ar A) ((v,s)::V') t=Mf.pathOf (ar A) V' t:=by rw [Mf.pathOf,if_neg tv]
    rw [hp]
    exact AlM k N A f h hf cm V hc hd V' (W++[(v,s)]) n t most acc (by rw [e]; simp) (by simp only [List.length_cons] at hn; omega) (by
     rcases ht with ht | ht
     ·exact .inl ht
     ·simp only [List.map_cons,List.mem_cons] at ht
      rcases ht with ht | ht
      ·exact absurd ht tv
      ·exact .inr ht) hm (by simp only [List.length_cons] at ha; omega)
theorem AnJ (k : Nat) (A : List AaE) (f : List Int) (hf : FB A f) (hA : ∀ a ∈ A,0≤a.Cap∧a.Cap≤1048576) (most : Int) (hm : 1≤most) (P : List Mf.Step) (hP : ∀ s ∈ P,s.1<A.length∧most≤Mf.room (ar A) f s) (hn : (P.map (·.1)).Nodup) (h9 : P.length≤100000) : ∀ (m i n : Nat),i+m=P.length→m<n →
 AaM.L4 k most (P.map cvS) n (i : Int) (Mf.push f most (P.take i))=some (true,Mf.push f most P)
 | 0,i,n+1,e,_=>by
  rw [AaM.L4,if_neg (by simp; omega),List.take_of_length_le (by omega)]
 | m+1,i,n+1,e,hn'=>by
  have hi : i<P.length:=by omega
  have hs:=hP _ (List.getElem_mem hi)
  have hsf : P[i].1<f.length:=by rw [hf.len]; exact hs.1
  have ih:=AnJ k A f hf hA most hm P hP hn h9 m (i+1) n (by omega) (by omega)
  have hpl:=Mf.push_len most (P.take i) f
  have hg : (Mf.push f most (P.take i)).getD P[i].1 0=f[P[i].1]:=by
   rw [Mf.push_get most _ _ f (fun s hs'=>by rw [hf.len]; exact (hP s (List.mem_of_mem_take hs')).1) (fun s hs' q=>?_),← Mf.getD_getElem f 0 _ hsf]
   obtain ⟨j,hj,rfl⟩:=List.mem_iff_getElem.1 hs'
   rw [List.length_take] at hj
   rw [List.getElem_take] at q
   have:=List.pairwise_iff_getElem.1 hn j i (by simp; omega) (by simp; omega) (by omega)
   simp only [List.getElem_map] at this
   exact this q
  have hlt : P[i].1<(Mf.push f most (P.take i)).length:=by rw [hpl]; exact hsf
  have hgg : (Mf.push f most (P.take i))[P[i].1]=f[P[i].1]:=by rw [← hg]; exact Mf.getD_getElem _ 0 _ hlt
  have b1:=hf.lo _ hsf; have b2:=hf.hi _ hsf hs.1
  have cap:=hA _ (List.getElem_mem hs.1)
  have e0:=Mf.getD_getElem f 0 _ hsf
  have nxt : Mf.push f most (P.take (i+1))=Mf.push1 (Mf.push f most (P.take i)) most P[i]:=by
   rw [List.take_succ_eq_append_getElem hi]; unfold Mf.push; rw [List.foldl_append]; rfl
  rw [nxt] at ih
  unfold Mf.push1 at ih
  rw [hg] at ih
  rw [AaM.L4,if_pos (by simp; omega),Aae (by simpa using hi),List.getElem_map]
  have ea : (cvS P[i]).arc=(P[i].1 : Int):=rfl
  have eb : (cvS P[i]).back=P[i].2:=rfl
  unfold AaM.J5
  rw [ea,eb,AdA i (by omega)]
  have hr:=hs.2
  unfold Mf.room at hr
  rw [AeF hs.1,← e0] at hr
  cases hb : P[i].2 with
  | true =>
   simp only [hb,if_true] at hr ih
   rw [if_pos rfl,AaT (by omega),Aae hlt,hgg,AaT (by omega),w64 (by omega) (by omega),show ((P[i].1 : Int)).toNat=P[i].1 by omega]
   rw [← ih]; congr 2
  | false =>
   simp only [hb,Bool.false_eq_true,if_false] at hr ih
   rw [if_neg (by simp),AaT (by omega),Aae hlt,hgg,AaT (by omega),w64 (by omega) (by omega),show ((P[i].1 : Int)).toNat=P[i].1 by omega]
   rw [← ih]
structure Amq (N : Nat) (A : List AaE) (f : List Int) : Prop where
 fl : Mf.Flow N (ar A) f
 ex : ∃ V : Vs,Mf.Disc (ar A) f V∧Cpl (ar A) f V∧(1 : Int) ∉ V.map (·.1)
theorem Aok (k N : Nat) (A : List AaE) (f : List Int) (h : NV N A) (hf : Mf.Flow N (ar A) f) (hk : 2*A.length<k) (hk2 : N<k) :
 ∃ b f',AaM k (N : Int) A f (Amr N A)=some (b,f')∧((b=true∧Mf.Flow N (ar A) f'∧Mf.val (ar A) f+1≤Mf.val (ar A) f')∨(b=false∧f'=f∧Amq N A f)):=by
 have fb:=FB.of hf
 obtain ⟨cm,V,e,hd,hc,hcp⟩:=Am4 k N A f h fb hk hk2
 have hN:=h.n130
 have hvl:=Aer h hd
 unfold AaM
 rw [e,AaP]
 have h1:=hc 1
 rw [if_neg (by omega)] at h1
 by_cases hm : (1 : Int) ∈ V.map (·.1)
 ·cases hl : lk V 1 with
  | none=>exact absurd hm (Agy.1 hl)
  | some s =>
   rw [hl] at h1
   rw [h1]
   show ∃ b f',AaM.J1 _ _ _ _ _ _ _=_∧_
   unfold AaM.J1
   rw [if_neg (by simp)]
   obtain ⟨most,g1,g2,g3,g4⟩:=AlM k N A f h fb cm V hc hd V [] k 1 1048576 [] rfl (by omega) (.inr hm) (by omega) (by simp only [List.length_nil]; omega)
   have hsub:=Mf.pathOf_sub (ar A) V 1
   have hpl : (Mf.pathOf (ar A) V 1).length≤V.length:=by have:=hsub.length_le; simpa using this
   have hnd : ((Mf.pathOf (ar A) V 1).map (·.1)).Nodup:=by
    have:=hsub.map (·.1)
    rw [List.map_map] at this
    exact this.nodup (Mf.disc_nodup hd).2
   have g5:=AnJ k A f fb (fun a ha=>by have:=h.ok a ha; omega) most g3 (Mf.pathOf (ar A) V 1) (fun s hs=>⟨by have:=(Mf.path_room hd 1 s hs).1; rw [Ab5] at this; exact this,g4 s hs⟩) hnd (by omega) (Mf.pathOf (ar A) V 1).length 0 k (by omega) (by omega)
   rw [g1,List.nil_append]
   refine ⟨true,_,g5,.inl ⟨rfl,?_⟩⟩
   have:=Mf.disc_push hf hd hm most (by omega) g4
   exact ⟨this.1,by rw [this.2]; omega⟩
 ·rw [Agy.2 hm] at h1
  rw [h1]
  show ∃ b f',AaM.J1 _ _ _ _ _ _ _=_∧_
  unfold AaM.J1
  rw [if_pos (by simp)]
  exact ⟨false,f,rfl,.inr ⟨rfl,rfl,hf,V,hd,hcp,hm⟩⟩
theorem Ank (k N : Nat) (A : List AaE) (h : NV N A) (hk : 2*A.length<k) (hk2 : N<k) (C : Int) (hC : ∀ g,Mf.Flow N (ar A) g→Mf.val (ar A) g≤C) : ∀ (m n : Nat) (f : List Int),Mf.Flow N (ar A) f→C-Mf.val (ar A) f≤m→m<n→∃ g,AcZ.L1 k (N : Int) A (Amr N A) n f=some g∧Amq N A g
 | m,n+1,f,hf,hm,hn=>by
  rw [AcZ.L1]
  obtain ⟨b,f',e,h1⟩:=Aok k N A f h hf hk hk2
  rw [e,AbK]
  rcases h1 with ⟨rfl,h2,h3⟩ | ⟨rfl,rfl,h2⟩
  ·rw [AaT (by rw [h2.len,hf.len]),if_pos rfl]
   have:=hC f' h2
   cases m with
   | zero=>omega
   | succ m=>exact Ank k N A h hk hk2 C hC m n f' h2 (by omega) (by omega)
  ·rw [AaT rfl,if_neg (by simp)]
   exact ⟨f',rfl,h2⟩
theorem AkE (k : Nat) (l : List Int) (h : l.length≤100000) : AbS k l=some l:=by
 unfold AbS; rw [AaT (by omega)]
theorem Am2 (w : Mf.Arc→Int) : ∀ (A : List Mf.Arc) (n : Nat),Mf.sm A (List.replicate n 0) w=0
 | [],n=>by cases n <;> rfl
 | a::A,0=>rfl
 | a::A,n+1=>by rw [List.replicate_succ,Mf.sm_cons,Am2 w A n]; omega
theorem Ajx {N : Nat} {A : List AaE} (h : NV N A) : Mf.Flow N (ar A) (List.replicate A.length 0):=by
 refine ⟨by simp [Ab5],fun i hi=>by simp,fun i hi h'=>?_,fun v _ _=>Am2 _ _ _⟩
 have:=h.net.cap _ (List.getElem_mem h')
 simpa using this
theorem Alu (A : List AaE) (n : Nat) : Mf.val (ar A) (List.replicate n 0)=0:=by unfold Mf.val Mf.sur; exact Am2 _ _ _
theorem ApB (k N : Nat) (A : List AaE) (f : List Int) (h : NV N A) (hf : Mf.Flow N (ar A) f) (hk : 2*A.length<k) (hk2 : N<k) (C : Nat) (hC : ∀ g,Mf.Flow N (ar A) g→Mf.val (ar A) g≤C) (h0 : 0≤Mf.val (ar A) f) (hk3 : C<k) : ∃ g,AcZ k (N : Int) A f=some g∧Amq N A g:=by
 have hl:=hf.len
 have:=h.len
 rw [Ab5] at hl
 unfold AcZ
 rw [AkE k f (by omega),AaP,AqR k N A f h (by omega),AaP]
 exact Ank k N A h hk hk2 C hC C k f hf (by omega) hk3
theorem Aik (k : Nat) (x a b : Int) : Ac1 k x a b=some (decide (a≤x∧x≤b)):=by
 unfold Ac1
 by_cases h : a≤x
 ·rw [if_pos h]; simp [h]
 ·rw [if_neg h]; simp [h]
theorem Aqx (k : Nat) (a : AaE) (N : Int) (A : List AaE) (hN : -1000000≤N∧N≤1000000) : Adl k a.From a.To a.Cap N A=some (!okA N a):=by
 unfold Adl okA
 simp only [Aik,w64 (n:=N-1) (by omega) (by omega),AaP]
 by_cases h1 : 0≤a.From∧a.From≤N-1
 ·by_cases h2 : 0≤a.To∧a.To≤N-1
  ·by_cases h3 : a.From=a.To
   ·simp [h1,h2,h3]
   ·by_cases h4 : a.To=0
    ·simp [h1,h2,h3,h4]
    ·by_cases h5 : a.From=1
     ·simp [h1,h2,h3,h4,h5]
     ·have e : (0≤a.From∧a.From<N∧0≤a.To∧a.To<N∧a.From≠a.To∧a.To≠0∧a.From≠1∧0≤a.Cap∧a.Cap≤1048576)↔(0≤a.Cap∧a.Cap≤1048576):=by omega
      have e2 : decide (0≤a.From∧a.From<N∧0≤a.To∧a.To<N∧a.From≠a.To∧a.To≠0∧a.From≠1∧0≤a.Cap∧a.Cap≤1048576)=decide (0≤a.Cap∧a.Cap≤1048576):=decide_eq_decide.2 e
      rw [e2]; simp [h1,h2,h3,h4,h5]
  ·have e : ¬ (0≤a.From∧a.From<N∧0≤a.To∧a.To<N∧a.From≠a.To∧a.To≠0∧a.From≠1∧0≤a.Cap∧a.Cap≤1048576):=by omega
   rw [decide_eq_false e]; simp [h1,h2]
 ·have e : ¬ (0≤a.From∧a.From<N∧0≤a.To∧a.To<N∧a.From≠a.To∧a.To≠0∧a.From≠1∧0≤a.Cap∧a.Cap≤1048576):=by omega
  rw [decide_eq_false e]; simp [h1]
theorem Akt (k : Nat) (A B : List AaE) (N : Int) (hN : -1000000≤N∧N≤1000000) (h9 : A.length≤1000000) : ∀ (m i n : Nat),i+m=A.length→m<n→∃ r,AaX.L1 k A N B n (i : Int)=some r∧(0≤r↔(A.drop i).all (okA N)=false)
 | 0,i,n+1,h,_=>by rw [AaX.L1,if_neg (by omega),List.drop_eq_nil_of_le (by omega)]; exact ⟨_,rfl,by simp⟩
 | m+1,i,n+1,h,hn=>by
  have hi : i<A.length:=by omega
  rw [AaX.L1,if_pos (by omega),Aae hi,Aqx k _ N B hN,AaP,List.drop_eq_getElem_cons hi,List.all_cons]
  by_cases e : okA N A[i]=true
  ·rw [if_neg (by simp [e]),AdA i (by omega)]
   obtain ⟨r,h1,h2⟩:=Akt k A B N hN h9 m (i+1) n (by omega) (by omega)
   exact ⟨r,h1,by rw [h2,e]; simp⟩
  ·rw [if_pos (by simpa using e)]
   exact ⟨_,rfl,by simp [e]⟩
theorem AiD (k : Nat) (N : Int) (A : List AaE) (hk : 1200<k) : AdT k N A=some (if AoW N A then 0 else 16):=by
 unfold AdT AoW
 rw [Aik,AaP]
 by_cases h1 : 2≤N∧N≤130
 ·rw [if_neg (by simp [h1])]
  by_cases h2 : 1200<(A.length : Int)
  ·rw [if_pos h2]; have : ¬ (2≤N∧N≤130∧A.length≤1200):=by omega
   rw [decide_eq_false this]; rfl
  ·rw [if_neg h2]
   have e : (2≤N∧N≤130∧A.length≤1200):=by omega
   unfold Aa5 AaX
   obtain ⟨r,g1,g2⟩:=Akt k A A N (by omega) (by omega) A.length 0 k (by omega) (by omega)
   rw [show AaX.L1 k A N A k 0=some r from g1,AaP,AaP]
   rw [List.drop_zero] at g2
   rw [decide_eq_true e,Bool.true_and]
   by_cases q : A.all (okA N)=true
   ·have : ¬ 0≤r:=fun z=>by rw [g2.1 z] at q; cases q
    rw [q,if_neg (by simpa using this)]; rfl
   ·simp only [Bool.not_eq_true] at q
    rw [q,if_pos (by simpa using g2.2 q)]; rfl
 ·rw [if_pos (by rw [decide_eq_false h1]; rfl)]
  have : ¬ (2≤N∧N≤130∧A.length≤1200):=by omega
  rw [decide_eq_false this]; rfl
theorem Anu (k N : Nat) (A : List AaE) (h : NV N A) (hk : 2*A.length<k) (hk2 : 1200<k) (C : Nat) (hC : ∀ g,Mf.Flow N (ar A) g→Mf.val (ar A) g≤C) (hk3 : C<k) : ∃ g,Afc k (N : Int) A=some (g,0)∧Amq N A g:=by
 have h2:=h.n130; have h3:=h.len
 unfold Afc
 rw [AiD k N A hk2,AaP,if_pos ((Afg _ _).2 ⟨N,rfl,h⟩),if_neg (by simp),AaT (by omega),show ((A.length : Int)).toNat=A.length by omega]
 obtain ⟨g,e,d⟩:=ApB k N A _ h (Ajx h) hk (by omega) C hC (by rw [Alu]; omega) hk3
 rw [e,AaP]
 exact ⟨g,rfl,d⟩
theorem Aj5 {N : Nat} {A : List AaE} (h : NV N A) : ∀ g,Mf.Flow N (ar A) g→Mf.val (ar A) g≤((A.length*1048576 : Nat) : Int):=by
 intro g hg
 have h1:=Mf.val_le h.net hg (fun v=>decide (v=0)) (by simp) (by simp)
 have h2 : ∀ B : List AaE,(∀ a ∈ B,0≤a.Cap∧a.Cap≤1048576)→Mf.capS (ar B) (fun v=>decide (v=0))≤((B.length*1048576 : Nat) : Int):=by
  intro B hB
  induction B with
  | nil=>simp [ar,Mf.capS]
  | cons b B ih =>
   have:=ih fun a ha=>hB a (by simp [ha])
   have hb:=hB b (by simp)
   unfold ar Mf.capS at this ⊢
   simp only [List.map_cons,List.sum_cons,List.length_cons] at this ⊢
   have : Mf.b2 (decide (b.From=0)=true∧decide (b.To=0)=false)*b.Cap≤1048576:=by
    unfold Mf.b2; split <;> omega
   omega
 have:=h2 A fun a ha=>by have:=h.ok a ha; omega
 omega
theorem Amq.side {N : Nat} {A : List AaE} {f : List Int} (h : NV N A) (hd : Amq N A f) : ∃ S : Int→Bool,S 0=true∧S 1=false∧Mf.Closed (ar A) f S:=by
 obtain ⟨V,d1,d2,d3⟩:=hd.ex
 exact ⟨fun v=>decide (v=0∨v ∈ V.map (·.1)),by simp,by simpa using d3,Mf.disc_closed hd.fl d2⟩
def Avp (N : Nat) (V : Vs) : List Int:=whB (fun v=>decide (v=0∨v ∈ V.map (·.1))) N
end Go.TF
set_option linter.unusedVariables false
set_option linter.unusedSimpArgs false
namespace Go.TF
open Go Go.Abs
def rb (V : Vs) (v : Int) : Int:=match lk V v with
 | none=>0
 | some s=>if s.2 then -((s.1 : Int)+1) else (s.1 : Int)+1
def sn (V : Vs) (v : Int) : Bool:=decide (v=0∨v ∈ V.map (·.1))
theorem Am9 (t : Int) (s : Mf.Step) (V : Vs) (v : Int) : rb ((t,s)::V) v=if v=t then (if s.2 then -((s.1 : Int)+1) else (s.1 : Int)+1) else rb V v:=by
 unfold rb; rw [lk]
 by_cases e : v=t
 ·rw [if_pos e,if_pos e]
 ·rw [if_neg e,if_neg e]
theorem Am1 (t : Int) (s : Mf.Step) (V : Vs) (v : Int) : sn ((t,s)::V) v=if v=t then true else sn V v:=by
 unfold sn
 by_cases e : v=t
 ·rw [if_pos e]; simp [e]
 ·rw [if_neg e]
  refine decide_eq_decide.2 ?_
  rw [List.map_cons,List.mem_cons]
  constructor
  ·rintro (z | z | z)
   ·exact .inl z
   ·exact absurd z e
   ·exact .inr z
  ·rintro (z | z)
   ·exact .inl z
   ·exact .inr (.inr z)
theorem Apc (k N : Nat) (A : List AaE) (f : List Int) (h : NV N A) (hf : FB A f) (u : Int) (kb : Nat→List Int→List Bool→List Int→Option (List Int)) :
 ∀ (m i n o : Nat) (V : Vs) (todo : List Int),i+m=A.length→m<n→Mf.Disc (ar A) f V→(u=0∨u ∈ V.map (·.1))→o≤todo.length→(todo.drop o).length≤V.length+1 →
 ∃ (todo' : List Int) (W : Vs) (o' : Nat),AaV.L2 k A f u kb n o (i : Int) (Adc N (rb V)) (Adc N (sn V)) todo=kb o' (Adc N (rb (W++V))) (Adc N (sn (W++V))) todo'∧Mf.Disc (ar A) f (W++V)∧o'≤todo'.length∧todo'.drop o'=todo.drop o++(W.map (·.1)).reverse ∧
  (∀ t : Mf.Step,i≤t.1→t.1<A.length→Mf.stFr (ar A) t=u→0<Mf.room (ar A) f t→Mf.stTo (ar A) t=0∨Mf.stTo (ar A) t ∈ (W++V).map (·.1))
 | 0,i,n+1,o,V,todo,e,_,hd,hu,ho,hq=>by
  rw [AaV.L2,if_neg (by omega)]
  exact ⟨todo,[],o,by simp,hd,ho,by simp,fun t h1 h2=>by omega⟩
 | m+1,i,n+1,o,V,todo,e,hn,hd,hu,ho,hq=>by
  have hi : i<A.length:=by omega
  have ok:=h.ok _ (List.getElem_mem hi)
  have hl:=h.len; have hN:=h.n130
  have hif : i<f.length:=by rw [hf.len]; exact hi
  have f0:=hf.lo i hif; have f1:=hf.hi i hif hi
  have eg:=Mf.getD_getElem f 0 i hif
  have ea:=AeF hi
  have fin : ∀ (o1 : Nat) (W1 : Vs) (todo1 : List Int),Mf.Disc (ar A) f (W1++V)→o1≤todo1.length→todo1.drop o1=todo.drop o++(W1.map (·.1)).reverse →
   (∀ t : Mf.Step,t.1=i→Mf.stFr (ar A) t=u→0<Mf.room (ar A) f t→Mf.stTo (ar A) t=0∨Mf.stTo (ar A) t ∈ (W1++V).map (·.1)) →
   ∃ (todo' : List Int) (W : Vs) (o' : Nat),AaV.J3 k (i : Int) (fun v9_ v10_ v11_ v12_ v13_=>AaV.L2 k A f u kb n v9_ v10_ v11_ v12_ v13_) (Adc N (rb (W1++V))) (Adc N (sn (W1++V))) todo1 o1=kb o' (Adc N (rb (W++V))) (Adc N (sn (W++V))) todo'∧Mf.Disc (ar A) f (W++V)∧o'≤todo'.length∧todo'.drop o'=todo.drop o++(W.map (·.1)).reverse ∧
    (∀ t : Mf.Step,i≤t.1→t.1<A.length→Mf.stFr (ar A) t=u→0<Mf.room (ar A) f t→Mf.stTo (ar A) t=0∨Mf.stTo (ar A) t ∈ (W++V).map (·.1)):=by
   intro o1 W1 todo1 hd1 ho1 hq1 hr1
   unfold AaV.J3
   rw [AdA i (by omega)]
   obtain ⟨todo',W,o',g1,g2,g3,g4,g5⟩:=Apc k N A f h hf u kb m (i+1) n o1 (W1++V) todo1 (by omega) (by omega) hd1 (by
    rcases hu with q | q
    ·exact .inl q
    ·right; rw [List.map_append,List.mem_append]; exact .inr q) ho1 (by
    rw [hq1,List.length_append,List.length_reverse,List.length_map,List.length_append]; omega)
   refine ⟨todo',W++W1,o',by rw [List.append_assoc]; exact g1,by rw [List.append_assoc]; exact g2,g3,by rw [g4,hq1,List.map_append,List.reverse_append,List.append_assoc],fun t t1 t2 t3 t4=>?_⟩
   rw [List.append_assoc]
   by_cases z : t.1=i
   ·rcases hr1 t z t3 t4 with q | q
    ·exact .inl q
    ·right; rw [List.map_append,List.mem_append]; exact .inr q
   ·exact g5 t (by omega) t2 t3 t4
  have snd : ∀ (o1 : Nat) (W1 : Vs) (todo1 : List Int),Mf.Disc (ar A) f (W1++V)→o1≤todo1.length→todo1.drop o1=todo.drop o++(W1.map (·.1)).reverse →
   (Mf.stFr (ar A) (i,false)=u→0<Mf.room (ar A) f (i,false)→Mf.stTo (ar A) (i,false)=0∨Mf.stTo (ar A) (i,false) ∈ (W1++V).map (·.1)) →
   ∃ (todo' : List Int) (W : Vs) (o' : Nat),AaV.J4 k f u (i : Int) A[i] (fun v9_ v10_ v11_ v12_ v13_=>AaV.L2 k A f u kb n v9_ v10_ v11_ v12_ v13_) (Adc N (rb (W1++V))) (Adc N (sn (W1++V))) todo1 o1=kb o' (Adc N (rb (W++V))) (Adc N (sn (W++V))) todo'∧Mf.Disc (ar A) f (W++V)∧o'≤todo'.length∧todo'.drop o'=todo.drop o++(W.map (·.1)).reverse ∧
    (∀ t : Mf.Step,i≤t.1→t.1<A.length→Mf.stFr (ar A) t=u→0<Mf.room (ar A) f t→Mf.stTo (ar A) t=0∨Mf.stTo (ar A) t ∈ (W++V).map (·.1)):=by
   intro o1 W1 todo1 hd1 ho1 hq1 hr1
   unfold AaV.J4
   have Aq1 : (Mf.stFr (ar A) (i,true)=u→0<Mf.room (ar A) f (i,true)→Mf.stTo (ar A) (i,true)=0∨Mf.stTo (ar A) (i,true) ∈ (W1++V).map (·.1))→∀ t : Mf.Step,t.1=i→Mf.stFr (ar A) t=u→0<Mf.room (ar A) f t→Mf.stTo (ar A) t=0∨Mf.stTo (ar A) t ∈ (W1++V).map (·.1):=by
    rintro hb ⟨j,b⟩ rfl t3 t4
    cases b with
    | true=>exact hb t3 t4
    | false=>exact hr1 t3 t4
   have d1:=Aer h hd1
   by_cases c1 : A[i].To=u
   ·rw [if_pos c1,Aae hif]
    by_cases c2 : 0<f[i]
    ·rw [if_pos c2,AaT (by rw [Abr]; omega),Aco ok.1 ok.2.1]
     by_cases c3 : sn (W1++V) A[i].From=true
     ·rw [if_neg (by simp [c3])]
      refine fin o1 W1 todo1 hd1 ho1 hq1 (Aq1 fun _ _=>?_)
      unfold sn at c3; rw [decide_eq_true_eq] at c3
      simpa [Mf.stTo,ea] using c3
     ·rw [if_pos (by simpa using c3)]
      simp only [Bool.not_eq_true] at c3
      have c4 : A[i].From≠0∧A[i].From ∉ (W1++V).map (·.1):=by unfold sn at c3; rw [decide_eq_false_iff_not] at c3; exact ⟨fun q=>c3 (.inl q),fun q=>c3 (.inr q)⟩
      have ql : (todo1.drop o1).length≤1000000000:=by rw [hq1,List.length_append,List.length_reverse,List.length_map]; rw [List.length_append] at d1; omega
      rw [AaT (by rw [Abr]; omega),AaT (by rw [Abr]; omega),AaT (by simp only [List.length_cons,List.length_nil]; omega),w64 (n:=(i : Int)+1) (by omega) (by omega),w64 (by omega) (by omega),AdZ ok.1,AdZ ok.1]
      have e1 : (fun v=>if v=A[i].From then -((i : Int)+1) else rb (W1++V) v)=rb (((A[i].From,(i,true))::W1)++V):=by funext v; rw [List.cons_append,Am9]; simp
      have e2 : (fun v=>if v=A[i].From then true else sn (W1++V) v)=sn (((A[i].From,(i,true))::W1)++V):=by funext v; rw [List.cons_append,Am1]
      rw [e1,e2]
      refine fin 0 ((A[i].From,(i,true))::W1) _ ⟨c4.1,c4.2,by rw [Ab5]; exact hi,by simp [Mf.stTo,ea],?_,by simp [Mf.room,List.getElem?_eq_getElem hif]; exact c2,hd1⟩ (by omega) (by rw [List.drop_zero,hq1,List.map_cons,List.reverse_cons,List.append_assoc]) ?_
      ·have : Mf.stFr (ar A) (i,true)=u:=by simp [Mf.stFr,ea,c1]
       show Mf.stFr (ar A) (i,true)=0∨Mf.stFr (ar A) (i,true) ∈ (W1++V).map (·.1)
       rw [this]
       rcases hu with q | q
       ·exact .inl q
       ·right; rw [List.map_append,List.mem_append]; exact .inr q
      ·rintro ⟨j,b⟩ rfl t3 t4
       cases b with
       | true=>right; simp [Mf.stTo,ea]
       | false =>
        rcases hr1 t3 t4 with q | q
        ·exact .inl q
        ·right; rw [List.cons_append,List.map_cons]; exact List.mem_cons_of_mem _ q
    ·rw [if_neg c2]
     exact fin o1 W1 todo1 hd1 ho1 hq1 (Aq1 fun _ q=>absurd (by simpa [Mf.room,List.getElem?_eq_getElem hif] using q) c2)
   ·rw [if_neg c1]
    exact fin o1 W1 todo1 hd1 ho1 hq1 (Aq1 fun q=>absurd (by simpa [Mf.stFr,ea] using q) c1)
  rw [AaV.L2,if_pos (by omega),Aae hi]
  have d1:=Aer h hd
  by_cases c1 : A[i].From=u
  ·rw [if_pos c1,Aae hif]
   by_cases c2 : f[i]<A[i].Cap
   ·rw [if_pos c2,AaT (by rw [Abr]; omega),Aco ok.2.2.1 ok.2.2.2.1]
    by_cases c3 : sn V A[i].To=true
    ·rw [if_neg (by simp [c3])]
     refine snd o [] todo hd ho (by simp) fun _ _=>?_
     unfold sn at c3; rw [decide_eq_true_eq] at c3
     simpa [Mf.stTo,ea] using c3
    ·rw [if_pos (by simpa using c3)]
     simp only [Bool.not_eq_true] at c3
     have c4 : A[i].To≠0∧A[i].To ∉ V.map (·.1):=by unfold sn at c3; rw [decide_eq_false_iff_not] at c3; exact ⟨fun q=>c3 (.inl q),fun q=>c3 (.inr q)⟩
     rw [AaT (by rw [Abr]; omega),AaT (by rw [Abr]; omega),AaT (by simp only [List.length_cons,List.length_nil]; omega),w64 (n:=(i : Int)+1) (by omega) (by omega),AdZ ok.2.2.1,AdZ ok.2.2.1]
     have e1 : (fun v=>if v=A[i].To then ((i : Int)+1) else rb V v)=rb ([(A[i].To,(i,false))]++V):=by funext v; rw [List.singleton_append,Am9]; simp
     have e2 : (fun v=>if v=A[i].To then true else sn V v)=sn ([(A[i].To,(i,false))]++V):=by funext v; rw [List.singleton_append,Am1]
     rw [e1,e2]
     refine snd 0 [(A[i].To,(i,false))] _ ⟨c4.1,c4.2,by rw [Ab5]; exact hi,by simp [Mf.stTo,ea],?_,by simp [Mf.room,List.getElem?_eq_getElem hif,ea]; omega,hd⟩ (by omega) (by rw [List.drop_zero]; rfl) (fun _ _ => .inr (by simp [Mf.stTo,ea]))
     have : Mf.stFr (ar A) (i,false)=u:=by simp [Mf.stFr,ea,c1]
     show Mf.stFr (ar A) (i,false)=0∨Mf.stFr (ar A) (i,false) ∈ V.map (·.1)
     rw [this]; exact hu
   ·rw [if_neg c2]
    refine snd o [] todo hd ho (by simp) fun _ q=>absurd ?_ c2
    have q' : 0<A[i].Cap-f[i]:=by simpa [Mf.room,List.getElem?_eq_getElem hif,ea] using q
    omega
  ·rw [if_neg c1]
   exact snd o [] todo hd ho (by simp) fun q=>absurd (by simpa [Mf.stFr,ea] using q) c1
theorem Apd (k N : Nat) (A : List AaE) (f : List Int) (h : NV N A) (hf : FB A f) (hk : A.length<k) : ∀ (m n o : Nat) (todo : List Int) (V : Vs) (p : List Int),m+p.length=N→m<n→Mf.Disc (ar A) f V→o≤todo.length→(p++todo.drop o).Nodup→(∀ x,x ∈ p++todo.drop o↔x=0∨x ∈ V.map (·.1)) →
 (∀ u ∈ p,∀ t : Mf.Step,t.1<A.length→Mf.stFr (ar A) t=u→0<Mf.room (ar A) f t→Mf.stTo (ar A) t=0∨Mf.stTo (ar A) t ∈ V.map (·.1)) →
 ∃ V' : Vs,AaV.L1 k A f n o (Adc N (rb V)) (Adc N (sn V)) todo=some (Adc N (rb V'))∧Mf.Disc (ar A) f V'∧Cpl (ar A) f V'
 | m,n+1,o,todo,V,p,e,hn,hd,ho,hnd,hm,hp=>by
  have hN:=h.n130
  have rng : ∀ x ∈ p++todo.drop o,0≤x∧x<N:=by
   intro x hx
   rcases (hm x).1 hx with rfl | hx
   ·have:=h.two; omega
   ·exact Aei h hd x hx
  have hle:=nodup_range N _ hnd rng
  rw [List.length_append,List.length_drop] at hle
  rw [AaV.L1]
  by_cases hq : o<todo.length
  ·have hu : todo[o] ∈ p++todo.drop o:=by rw [List.mem_append]; right; rw [List.drop_eq_getElem_cons hq]; exact List.mem_cons_self ..
   have hall:=(hm _).1 hu
   cases m with
   | zero=>omega
   | succ m =>
    have e0 : ((o+(0 : Int).toNat : Nat) : Int)=(o : Int):=by simp
    rw [if_pos (by omega),AaT (by simp; omega),e0,Aae hq,AaT (by omega)]
    have hdv:=Aer h hd
    have hqv : (todo.drop o).length≤V.length+1:=by
     have s1 : ∀ x ∈ todo.drop o,x ∈ 0::V.map (·.1):=fun x hx=>by
      have:=(hm x).1 (by rw [List.mem_append]; exact .inr hx)
      simpa using this
     have:=List.Nodup.length_le_of_subset (List.nodup_append.1 hnd).2.1 s1
     simpa using this
    rw [List.length_drop] at hqv
    obtain ⟨todo',W,o',g1,g2,g3,g4,g5⟩:=Apc k N A f h hf todo[o] (fun v4_ v5_ v6_ v7_=>AaV.L1 k A f n v4_ v5_ v6_ v7_) A.length 0 k (o+1) V todo (by omega) hk hd hall (by omega) (by rw [List.length_drop]; omega)
    rw [show (0 : Int)=((0 : Nat) : Int) from rfl,show o+(1 : Int).toNat=o+1 from rfl,g1]
    have hwd:=(Mf.disc_nodup g2).1
    rw [List.map_append] at hwd
    have perm : (p++[todo[o]])++todo'.drop o'=(p++todo.drop o)++(W.map (·.1)).reverse:=by
     rw [g4,List.drop_eq_getElem_cons hq]; simp [-List.getElem_cons_drop]
    refine Apd k N A f h hf hk m n o' todo' (W++V) (p++[todo[o]]) (by simp; omega) (by omega) g2 g3 ?_ ?_ ?_
    ·rw [perm,List.nodup_append]
     refine ⟨hnd,List.pairwise_reverse.2 ((List.nodup_append.1 hwd).1.imp fun q=>q.symm),fun a ha b hb=>?_⟩
     rw [List.mem_reverse] at hb
     rintro rfl
     rcases (hm a).1 ha with rfl | ha'
     ·obtain ⟨q,hq1,hq2⟩:=List.mem_map.1 hb
      exact (Mf.disc_mem g2 q (List.mem_append_left _ hq1)).1 hq2
     ·exact (List.nodup_append.1 hwd).2.2 a hb a ha' rfl
    ·intro x
     rw [perm,List.mem_append,hm x,List.mem_reverse,List.map_append,List.mem_append]
     constructor
     ·rintro ((z | z) | z)
      ·exact .inl z
      ·exact .inr (.inr z)
      ·exact .inr (.inl z)
     ·rintro (z | z | z)
      ·exact .inl (.inl z)
      ·exact .inr z
      ·exact .inl (.inr z)
    ·intro u hu' t t1 t2 t3
     rw [List.mem_append,List.mem_singleton] at hu'
     rcases hu' with hu' | rfl
     ·rcases hp u hu' t t1 t2 t3 with z | z
      ·exact .inl z
      ·right; rw [List.map_append,List.mem_append]; exact .inr z
     ·exact g5 t (by omega) t1 t2 t3
  ·have hdn : todo.drop o = []:=List.drop_eq_nil_of_le (by omega)
   rw [if_neg (by omega)]
   refine ⟨V,rfl,hd,fun s h1 h2 h3=>?_⟩
   rw [Ab5] at h1
   have hx:=(hm (Mf.stFr (ar A) s)).2 h2
   rw [hdn,List.append_nil] at hx
   exact hp _ hx s h1 rfl h3
theorem Arz (k N : Nat) (A : List AaE) (f : List Int) (h : NV N A) (hf : FB A f) (hk : A.length<k) (hk2 : N<k) :
 ∃ V : Vs,AaV k (N : Int) A f=some (Adc N (rb V))∧Mf.Disc (ar A) f V∧Cpl (ar A) f V:=by
 have:=h.n130; have:=h.two
 unfold AaV
 rw [AaT (by omega),Af4,AaT (by omega),Af4,show ((N : Int)).toNat=N by omega,AaT (by simp; omega),AgG,AgG,AdZ (by omega)]
 have e1 : Adc N (fun _=>(0 : Int))=Adc N (rb []):=rfl
 have e2 : (fun v : Int=>if v=0 then true else false)=sn []:=by funext v; unfold sn; by_cases e : v=0 <;> simp [e]
 rw [e1,e2]
 exact Apd k N A f h hf hk N k 0 [0] [] [] (by simp) hk2 trivial (by simp) (by simp) (by simp) (by simp)
end Go.TF
set_option linter.unusedVariables false
set_option linter.unusedSimpArgs false
namespace Go.TF
open Go Go.Abs
theorem Ar3 {V W : Vs} {t : Int} {s : Mf.Step} (h : t ∉ W.map (·.1)) : rb (W++(t,s)::V) t=if s.2 then -((s.1 : Int)+1) else (s.1 : Int)+1:=by
 unfold rb; rw [AsU h]
theorem AlL (k N : Nat) (A : List AaE) (f : List Int) (h : NV N A) (hf : FB A f) (V : Vs) (kb : List Int→Option (List Int×Int)) (hd : Mf.Disc (ar A) f V) : ∀ (V' W : Vs) (n : Nat) (t most : Int),V=W++V'→V'.length<n→(t=0∨t ∈ V'.map (·.1))→1≤most →
 ∃ most',Aav.L2 k A f (Adc N (rb V)) kb n most t=Aav.L3 k A (Adc N (rb V)) most' kb k 1 f∧most'≤most∧1≤most'∧∀ s ∈ Mf.pathOf (ar A) V' t,most'≤Mf.room (ar A) f s
 | [],W,n+1,t,most,e,hn,ht,hm=>by
  rcases ht with rfl | ht
  ·rw [Aav.L2,if_neg (by simp)]
   exact ⟨most,rfl,by omega,hm,by simp [Mf.pathOf]⟩
  ·simp at ht
 | (v,s)::V',W,n,t,most,e,hn,ht,hm=>by
  have hd' : Mf.Disc (ar A) f ((v,s)::V'):=Agb (e ▸ hd)
  by_cases t0 : t=0
  ·subst t0
   cases n with
   | zero=>omega
   | succ n =>
    rw [Aav.L2,if_neg (by simp),Mf.pathOf_zero hd']
    exact ⟨most,rfl,by omega,hm,by simp⟩
  ·by_cases tv : t=v
   ·subst tv
    cases n with
    | zero=>omega
    | succ n =>
     have hnd:=(Mf.disc_nodup hd).1
     have htm : t ∈ V.map (·.1):=by rw [e,List.map_append,List.mem_append]; right; simp
     have rng:=Aei h hd t htm
     rw [e,List.map_append,List.map_cons] at hnd
     have hw : t ∉ W.map (·.1):=fun q=>(List.nodup_append.1 hnd).2.2 t q t (by simp) rfl
     have hg : rb V t=if s.2 then -((s.1 : Int)+1) else (s.1 : Int)+1:=by rw [e]; exact Ar3 hw
     obtain ⟨h1,h2,h3,h4,h5,h6,h7⟩:=hd'
     rw [Ab5] at h3
     have ok:=h.ok _ (List.getElem_mem h3)
     have hA:=h.len
     have hsf : s.1<f.length:=by rw [hf.len]; exact h3
     have b1:=hf.lo _ hsf; have b2:=hf.hi _ hsf h3
     have er : Mf.room (ar A) f s=if s.2 then f[s.1] else A[s.1].Cap-f[s.1]:=by
      unfold Mf.room; rw [AeF h3,← Mf.getD_getElem f 0 _ hsf]
     have hp : Mf.pathOf (ar A) ((t,s)::V') t=s::Mf.pathOf (ar A) V' (Mf.stFr (ar A) s):=by rw [Mf.pathOf,if_pos rfl]
     have go : ∀ mm : Int,mm≤most→mm≤Mf.room (ar A) f s→1≤mm→∃ most',Aav.L2 k A f (Adc N (rb V)) kb n mm (Mf.stFr (ar A) s)=Aav.L3 k A (Adc N (rb V)) most' kb k 1 f∧most'≤most∧1≤most'∧∀ s' ∈ Mf.pathOf (ar A) ((t,s)::V') t,most'≤Mf.room (ar A) f s':=by
      intro mm m1 m2 m3
      obtain ⟨most',g1,g2,g3,g4⟩:=AlL k N A f h hf V kb hd V' (W++[(t,s)]) n (Mf.stFr (ar A) s) mm (by rw [e]; simp) (by simp only [List.length_cons] at hn; omega) h5 m3
      refine ⟨most',g1,by omega,g3,fun x hx=>?_⟩
      rw [hp] at hx
      rcases List.mem_cons.1 hx with rfl | hx
      ·omega
      ·exact g4 x hx
     rw [Aav.L2,if_pos t0,Aco rng.1 rng.2,hg]
     cases hb : s.2 with
     | false =>
      rw [hb] at er
      have hfr : Mf.stFr (ar A) s=A[s.1].From:=by unfold Mf.stFr; rw [hb,AeF h3]; rfl
      rw [hfr] at go
      simp only [Bool.false_eq_true,if_false] at er ⊢
      have e1 : IntKind.wrap .i64 ((s.1 : Int)+1-1)=(s.1 : Int):=by rw [w64 (by omega) (by omega)]; omega
      have m1:=mn (A[s.1].Cap-f[s.1]) most
      rw [if_pos (by omega),e1,Aae h3,AaT (by omega),Aae hsf,Af4,w64 (n:=A[s.1].Cap-f[s.1]) (by omega) (by omega)]
      exact go _ m1.2 (by rw [er]; exact m1.1) (by split <;> omega)
     | true =>
      rw [hb] at er
      have hfr : Mf.stFr (ar A) s=A[s.1].To:=by unfold Mf.stFr; rw [hb,AeF h3]; rfl
      rw [hfr] at go
      simp only [if_true] at er ⊢
      have e1 : IntKind.wrap .i64 (IntKind.wrap .i64 (-(-((s.1 : Int)+1)))-1)=(s.1 : Int):=by rw [w64 (n := -(-((s.1 : Int)+1))) (by omega) (by omega),w64 (by omega) (by omega)]; omega
      have m1:=mn f[s.1] most
      rw [if_neg (by omega),e1,AaT (by omega),Aae hsf,Af4,Aae h3]
      exact go _ m1.2 (by rw [er]; exact m1.1) (by split <;> omega)
   ·have hp : Mf.pathOf (ar A) ((v,s)::V') t=Mf.pathOf (ar A) V' t:=by rw [Mf.pathOf,if_neg tv]
    rw [hp]
    exact AlL k N A f h hf V kb hd V' (W++[(v,s)]) n t most (by rw [e]; simp) (by simp only [List.length_cons] at hn; omega) (by
     rcases ht with ht | ht
     ·exact .inl ht
     ·simp only [List.map_cons,List.mem_cons] at ht
      rcases ht with ht | ht
      ·exact absurd ht tv
      ·exact .inr ht) hm
theorem AlK (k N : Nat) (A : List AaE) (f : List Int) (h : NV N A) (hf : FB A f) (V : Vs) (kb : List Int→Option (List Int×Int)) (hd : Mf.Disc (ar A) f V) (most : Int) (hm : 1≤most) : ∀ (V' W : Vs) (n : Nat) (t : Int) (g : List Int),V=W++V'→V'.length<n→(t=0∨t ∈ V'.map (·.1))→g.length=A.length→(∀ s ∈ Mf.pathOf (ar A) V' t,g.getD s.1 0=f.getD s.1 0∧most≤Mf.room (ar A) f s) →
 Aav.L3 k A (Adc N (rb V)) most kb n t g=kb (Mf.push g most (Mf.pathOf (ar A) V' t))
 | [],W,n+1,t,g,e,hn,ht,hg,hr=>by
  rcases ht with rfl | ht
  ·rw [Aav.L3,if_neg (by simp)]; rfl
  ·simp at ht
 | (v,s)::V',W,n,t,g,e,hn,ht,hg,hr=>by
  have hd' : Mf.Disc (ar A) f ((v,s)::V'):=Agb (e ▸ hd)
  by_cases t0 : t=0
  ·subst t0
   cases n with
   | zero=>omega
   | succ n =>
    rw [Aav.L3,if_neg (by simp),Mf.pathOf_zero hd']; rfl
  ·by_cases tv : t=v
   ·subst tv
    cases n with
    | zero=>omega
    | succ n =>
     have hnd:=(Mf.disc_nodup hd).1
     have htm : t ∈ V.map (·.1):=by rw [e,List.map_append,List.mem_append]; right; simp
     have rng:=Aei h hd t htm
     rw [e,List.map_append,List.map_cons] at hnd
     have hw : t ∉ W.map (·.1):=fun q=>(List.nodup_append.1 hnd).2.2 t q t (by simp) rfl
     have hb0 : rb V t=if s.2 then -((s.1 : Int)+1) else (s.1 : Int)+1:=by rw [e]; exact Ar3 hw
     have hp : Mf.pathOf (ar A) ((t,s)::V') t=s::Mf.pathOf (ar A) V' (Mf.stFr (ar A) s):=by rw [Mf.pathOf,if_pos rfl]
     have hns:=(Mf.disc_nodup hd').2
     obtain ⟨h1,h2,h3,h4,h5,h6,h7⟩:=hd'
     rw [Ab5] at h3
     have ok:=h.ok _ (List.getElem_mem h3)
     have hA:=h.len
     have hsf : s.1<f.length:=by rw [hf.len]; exact h3
     have hsg : s.1<g.length:=by rw [hg]; exact h3
     have b1:=hf.lo _ hsf; have b2:=hf.hi _ hsf h3
     obtain ⟨r1,r2⟩:=hr s (by rw [hp]; simp)
     have er : Mf.room (ar A) f s=if s.2 then f[s.1] else A[s.1].Cap-f[s.1]:=by
      unfold Mf.room; rw [AeF h3,← Mf.getD_getElem f 0 _ hsf]
     rw [er] at r2
     have egf : g[s.1]=f[s.1]:=by rw [Mf.getD_getElem g 0 _ hsg,Mf.getD_getElem f 0 _ hsf]; exact r1
     have hne : ∀ s' ∈ Mf.pathOf (ar A) V' (Mf.stFr (ar A) s),s'.1≠s.1:=by
      intro s' hs' q
      have:=(Mf.pathOf_sub (ar A) V' (Mf.stFr (ar A) s)).subset hs'
      rw [List.map_cons,List.nodup_cons] at hns
      obtain ⟨p,p1,p2⟩:=List.mem_map.1 this
      exact hns.1 (List.mem_map.2 ⟨p,p1,by rw [p2]; exact q⟩)
     have go:=AlK k N A f h hf V kb hd most hm V' (W++[(t,s)]) n (Mf.stFr (ar A) s) (Mf.push1 g most s) (by rw [e]; simp) (by simp only [List.length_cons] at hn; omega) h5 (by rw [Mf.push1_len]; exact hg) (fun s' hs'=>by
      have:=hr s' (by rw [hp]; exact List.mem_cons_of_mem _ hs')
      rw [Mf.push1_get g most s s'.1 hsg,if_neg (hne s' hs')]; exact this)
     have fin : Mf.push g most (Mf.pathOf (ar A) ((t,s)::V') t)=Mf.push (Mf.push1 g most s) most (Mf.pathOf (ar A) V' (Mf.stFr (ar A) s)):=by rw [hp]; rfl
     rw [fin,← go,Aav.L3,if_pos t0,Aco rng.1 rng.2,hb0]
     unfold Mf.push1
     rw [← Mf.getD_getElem g 0 _ hsg,egf]
     cases hb : s.2 with
     | false =>
      have hfr : Mf.stFr (ar A) s=A[s.1].From:=by unfold Mf.stFr; rw [hb,AeF h3]; rfl
      rw [hfr]
      simp only [hb,Bool.false_eq_true,if_false] at r2 ⊢
      have e1 : IntKind.wrap .i64 ((s.1 : Int)+1-1)=(s.1 : Int):=by rw [w64 (by omega) (by omega)]; omega
      rw [if_pos (by omega),e1,AaT (by omega),Aae hsg,egf,AaT (by omega),Aae h3,w64 (by omega) (by omega),show ((s.1 : Int)).toNat=s.1 by omega]
     | true =>
      have hfr : Mf.stFr (ar A) s=A[s.1].To:=by unfold Mf.stFr; rw [hb,AeF h3]; rfl
      rw [hfr]
      simp only [hb,if_true] at r2 ⊢
      have e1 : IntKind.wrap .i64 (IntKind.wrap .i64 (-(-((s.1 : Int)+1)))-1)=(s.1 : Int):=by rw [w64 (n := -(-((s.1 : Int)+1))) (by omega) (by omega),w64 (by omega) (by omega)]; omega
      rw [if_neg (by omega),e1,AaT (by omega),Aae hsg,egf,AaT (by omega),Aae h3,w64 (by omega) (by omega),show ((s.1 : Int)).toNat=s.1 by omega,Int.sub_eq_add_neg]
   ·have hp : Mf.pathOf (ar A) ((v,s)::V') t=Mf.pathOf (ar A) V' t:=by rw [Mf.pathOf,if_neg tv]
    rw [hp] at hr ⊢
    exact AlK k N A f h hf V kb hd most hm V' (W++[(v,s)]) n t g (by rw [e]; simp) (by simp only [List.length_cons] at hn; omega) (by
     rcases ht with ht | ht
     ·exact .inl ht
     ·simp only [List.map_cons,List.mem_cons] at ht
      rcases ht with ht | ht
      ·exact absurd ht tv
      ·exact .inr ht) hg hr
theorem AnE (k N : Nat) (A : List AaE) (h : NV N A) (hk : A.length<k) (hk2 : N<k) (C : Int) (hC : ∀ g,Mf.Flow N (ar A) g→Mf.val (ar A) g≤C) : ∀ (m n : Nat) (f : List Int),Mf.Flow N (ar A) f→C-Mf.val (ar A) f≤m→m<n→∃ g,Aav.L1 k (N : Int) A n f=some (g,0)∧Amq N A g
 | m,n+1,f,hf,hm,hn=>by
  have fb:=FB.of hf
  have h2:=h.two; have hN:=h.n130
  obtain ⟨V,e,hd,hcp⟩:=Arz k N A f h fb hk hk2
  have hvl:=Aer h hd
  rw [Aav.L1,e,AaP,Aco (by omega) (by omega)]
  by_cases hv : (1 : Int) ∈ V.map (·.1)
  ·have hz : rb V 1≠0:=by
    unfold rb
    cases hl : lk V 1 with
    | none=>exact absurd hv (Agy.1 hl)
    | some s=>simp only []; split <;> omega
   rw [if_neg hz]
   obtain ⟨most,g1,g2,g3,g4⟩:=AlL k N A f h fb V (fun v5_=>Aav.L1 k (N : Int) A n v5_) hd V [] k 1 1048576 rfl (by omega) (.inr hv) (by omega)
   have g5:=AlK k N A f h fb V (fun v5_=>Aav.L1 k (N : Int) A n v5_) hd most g3 V [] k 1 f rfl (by omega) (.inr hv) fb.len (fun s hs=>⟨rfl,g4 s hs⟩)
   rw [g1,g5]
   have:=Mf.disc_push hf hd hv most (by omega) g4
   have hc:=hC _ this.1
   cases m with
   | zero=>omega
   | succ m=>exact AnE k N A h hk hk2 C hC m n _ this.1 (by omega) (by omega)
  ·have hz : rb V 1=0:=by unfold rb; rw [Agy.2 hv]
   rw [if_pos hz]
   exact ⟨f,rfl,hf,V,hd,hcp,hv⟩
theorem AgN (k : Nat) (N : Int) (A : List AaE) (h9 : A.length≤1000000) : ∀ (m i n : Nat),i+m=A.length→m<n→Abn.L1 k N A n (i : Int)=some (if (A.drop i).all (okA N) then 0 else 16)
 | 0,i,n+1,h,_=>by rw [Abn.L1,if_neg (by omega),List.drop_eq_nil_of_le (by omega)]; rfl
 | m+1,i,n+1,h,hn=>by
  have hi : i<A.length:=by omega
  have ih:=AgN k N A h9 m (i+1) n (by omega) (by omega)
  rw [Abn.L1,if_pos (by omega),Aae hi,List.drop_eq_getElem_cons hi,List.all_cons,AdA i (by omega),ih]
  have bad : okA N A[i]=false→(some 16 : Option Int)=some (if (okA N A[i]&&(A.drop (i+1)).all (okA N))=true then 0 else 16):=fun z=>by rw [z]; rfl
  by_cases a1 : A[i].From<0
  ·rw [if_pos a1]; exact bad (by unfold okA; rw [decide_eq_false_iff_not]; omega)
  rw [if_neg a1]
  by_cases a2 : N≤A[i].From
  ·rw [if_pos a2]; exact bad (by unfold okA; rw [decide_eq_false_iff_not]; omega)
  rw [if_neg a2]
  by_cases a3 : A[i].To<0
  ·rw [if_pos a3]; exact bad (by unfold okA; rw [decide_eq_false_iff_not]; omega)
  rw [if_neg a3]
  by_cases a4 : N≤A[i].To
  ·rw [if_pos a4]; exact bad (by unfold okA; rw [decide_eq_false_iff_not]; omega)
  rw [if_neg a4]
  by_cases a5 : A[i].From=A[i].To
  ·rw [if_pos a5]; exact bad (by unfold okA; rw [decide_eq_false_iff_not]; omega)
  rw [if_neg a5]
  by_cases a6 : A[i].To=0
  ·rw [if_pos a6]; exact bad (by unfold okA; rw [decide_eq_false_iff_not]; omega)
  rw [if_neg a6]
  by_cases a7 : A[i].From=1
  ·rw [if_pos a7]; exact bad (by unfold okA; rw [decide_eq_false_iff_not]; omega)
  rw [if_neg a7]
  by_cases a8 : A[i].Cap<0
  ·rw [if_pos a8]; exact bad (by unfold okA; rw [decide_eq_false_iff_not]; omega)
  rw [if_neg a8]
  by_cases a9 : 1048576<A[i].Cap
  ·rw [if_pos a9]; exact bad (by unfold okA; rw [decide_eq_false_iff_not]; omega)
  rw [if_neg a9]
  have : okA N A[i]=true:=by unfold okA; rw [decide_eq_true_eq]; omega
  rw [this,Bool.true_and]
theorem Ahq (k : Nat) (N : Int) (A : List AaE) (hk : 1200<k) : Abn k N A=some (if AoW N A then 0 else 16):=by
 unfold Abn AoW
 by_cases h1 : N<2
 ·rw [if_pos h1,decide_eq_false (by omega)]; rfl
 rw [if_neg h1]
 by_cases h2 : 130<N
 ·rw [if_pos h2,decide_eq_false (by omega)]; rfl
 rw [if_neg h2]
 by_cases h3 : 1200<(A.length : Int)
 ·rw [if_pos h3,decide_eq_false (by omega)]; rfl
 rw [if_neg h3,decide_eq_true (by omega),Bool.true_and]
 exact AgN k N A (by omega) A.length 0 k (by omega) (by omega)
theorem AqK (k N : Nat) (A : List AaE) (h : NV N A) (hk2 : 1200<k) (C : Nat) (hC : ∀ g,Mf.Flow N (ar A) g→Mf.val (ar A) g≤C) (hk3 : C<k) : ∃ g,Aav k (N : Int) A=some (g,0)∧Amq N A g:=by
 have h2:=h.n130; have h3:=h.len
 unfold Aav
 rw [Ahq k N A hk2,AaP,if_pos ((Afg _ _).2 ⟨N,rfl,h⟩),if_neg (by simp),AaT (by omega),show ((A.length : Int)).toNat=A.length by omega]
 exact AnE k N A h (by omega) (by omega) C hC C k _ (Ajx h) (by rw [Alu]; omega) hk3
end Go.TF
set_option linter.unusedVariables false
set_option linter.unusedSimpArgs false
set_option maxRecDepth 100000
namespace Go.TF
open Go Go.Abs
def vS (N : Int) (A : List AaE) (side : List Int) : Bool:=AoW N A&&(setF N none side&&(decide ((0 : Int) ∈ side) && !decide ((1 : Int) ∈ side)))
def inS (side : List Int) (v : Int) : Bool:=decide (v ∈ side)
def cpS (A : List AaE) (side : List Int) : Int:=Mf.capS (ar A) (inS side)
structure NM (N : Nat) (A : List AaE) : Prop where
 nv : NV N A
 n8 : N≤8
 l15 : A.length≤15
 c5 : ∀ a ∈ A,a.Cap≤5
end Go.TF
set_option linter.unusedVariables false
set_option linter.unusedSimpArgs false
set_option maxRecDepth 100000
namespace Go.TF
open Go Go.Abs
theorem Aj8 (w : Mf.Arc→Int) : ∀ (A B : List Mf.Arc) (f g : List Int),A.length=f.length→Mf.sm (A++B) (f++g) w=Mf.sm A f w+Mf.sm B g w
 | [],B,[],g,_=>by simp [Mf.sm_nil]
 | a::A,B,x::f,g,h=>by
  rw [List.cons_append,List.cons_append,Mf.sm_cons,Mf.sm_cons,Aj8 w A B f g (by simpa using h)]; omega
 | [],B,x::f,g,h=>by simp at h
 | a::A,B,[],g,h=>by simp at h
theorem AhM (A : List AaE) (f : List Int) (i : Nat) (h1 : i<A.length) (h2 : i<f.length) (v : Int) :
 Mf.sur (ar (A.take (i+1))) (f.take (i+1)) v=Mf.sur (ar (A.take i)) (f.take i) v+(Mf.b2 (A[i].From=v)-Mf.b2 (A[i].To=v))*f[i]:=by
 have e1 : ar (A.take (i+1))=ar (A.take i)++[⟨A[i].From,A[i].To,A[i].Cap⟩]:=by
  unfold ar; rw [List.take_succ_eq_append_getElem h1,List.map_append]; rfl
 rw [e1,List.take_succ_eq_append_getElem h2]
 unfold Mf.sur
 rw [Aj8 _ _ _ _ _ (by rw [Ab5,List.length_take,List.length_take]; omega),Mf.sm_cons,Mf.sm_nil,Int.add_zero]
def inB (A : List AaE) (f : List Int) : Bool:=(A.zip f).all fun p=>decide (0≤p.2∧p.2≤p.1.Cap)
def Ajy (N : Nat) (A : List AaE) (f : List Int) : Bool:=(List.range N).all fun (v : Nat)=>decide (v<2∨Mf.sur (ar A) f (v : Int)=0)
def flB (N : Int) (A : List AaE) (f : List Int) : Bool:=AoW N A&&(decide (f.length=A.length)&&(inB A f&&Ajy N.toNat A f))
theorem Ag0 {A : List AaE} {f : List Int} (hl : f.length=A.length) : inB A f=true↔∀ (i : Nat) (h1 : i<A.length) (h2 : i<f.length),0≤f[i]∧f[i]≤A[i].Cap:=by
 unfold inB
 rw [List.all_eq_true]
 constructor
 ·intro h i h1 h2
  have:=h (A[i],f[i]) (List.mem_iff_getElem.2 ⟨i,by simp; omega,by simp⟩)
  simpa using this
 ·intro h p hp
  obtain ⟨i,hi,rfl⟩:=List.mem_iff_getElem.1 hp
  simp only [List.length_zip] at hi
  have:=h i (by omega) (by omega)
  simpa using this
theorem Ap6 {A : List AaE} {N : Nat} (h : NV N A) (v : Int) (hv : v<0∨(N : Int)≤v) : ∀ f,Mf.sur (ar A) f v=0:=by
 intro f
 unfold Mf.sur
 rw [Mf.sm_congr (w':=fun _=>0) (fun a ha=>?_) f,Mf.sm_zero]
 have:=h.net.rng a ha
 unfold Mf.b2
 rw [if_neg (by omega),if_neg (by omega)]; rfl
theorem AiA (N : Int) (A : List AaE) (f : List Int) : flB N A f=true↔∃ n : Nat,N=n∧NV n A∧Mf.Flow n (ar A) f:=by
 unfold flB
 rw [Bool.and_eq_true,Afg,Bool.and_eq_true,decide_eq_true_eq,Bool.and_eq_true]
 constructor
 ·rintro ⟨⟨n,rfl,nv⟩,hl,h1,h2⟩
  rw [Ag0 hl] at h1
  unfold Ajy at h2
  rw [List.all_eq_true] at h2
  refine ⟨n,rfl,nv,by rw [Ab5,hl],fun i hi=>(h1 i (by omega) hi).1,fun i hi h'=>?_,fun v v0 v1=>?_⟩
  ·have:=(h1 i (by omega) hi).2; simpa [ar] using this
  ·by_cases hv : 0≤v∧v<n
   ·have:=h2 v.toNat (by rw [List.mem_range]; omega)
    rw [decide_eq_true_eq] at this
    rcases this with q | q
    ·omega
    ·rw [show ((v.toNat : Nat) : Int)=v by omega] at q; exact q
   ·exact Ap6 nv v (by omega) f
 ·rintro ⟨n,rfl,nv,fl⟩
  have hl:=fl.len
  rw [Ab5] at hl
  refine ⟨⟨n,rfl,nv⟩,hl,(Ag0 hl).2 fun i h1 h2=>⟨fl.lo i h2,by have:=fl.hi i h2 (by rw [Ab5]; exact h1); simpa [ar] using this⟩,?_⟩
  unfold Ajy
  rw [List.all_eq_true]
  intro v hv
  rw [decide_eq_true_eq]
  by_cases z : v<2
  ·exact .inl z
  ·right; exact fl.zero _ (by omega) (by omega)
theorem Ahf {A : List AaE} {f : List Int} (hA : ∀ a ∈ A,a.Cap≤1048576) (v : Int) : ∀ i : Nat,i≤A.length→i≤f.length→(∀ (j : Nat) (h1 : j<A.length) (h2 : j<f.length),j<i→0≤f[j]∧f[j]≤A[j].Cap) → -((i : Int)*1048576)≤Mf.sur (ar (A.take i)) (f.take i) v∧Mf.sur (ar (A.take i)) (f.take i) v≤(i : Int)*1048576:=by
 intro i
 induction i with
 | zero=>intro _ _ _; simp [Mf.sur,ar,Mf.sm_nil]
 | succ i ih =>
  intro h1 h2 hr
  have:=ih (by omega) (by omega) fun j j1 j2 j3=>hr j j1 j2 (by omega)
  have r:=hr i (by omega) (by omega) (by omega)
  have c:=hA _ (List.getElem_mem (show i<A.length by omega))
  rw [AhM A f i (by omega) (by omega)]
  unfold Mf.b2
  split <;> split <;> simp <;> omega
theorem Ar4 (k N : Nat) (g : Int→Int) (hN : N≤1000000000) : ∀ (m i n : Nat),i+m=N→m<n→AbD.L2 k (N : Int) (Adc N g) n (i : Int)=some ((List.range N).all fun (v : Nat)=>decide (v<i∨g (v : Int)=0))
 | 0,i,n+1,e,_=>by
  rw [AbD.L2,if_neg (by omega)]
  congr 1; symm
  rw [List.all_eq_true]; intro v hv
  rw [List.mem_range] at hv
  rw [decide_eq_true_eq]; left; omega
 | m+1,i,n+1,e,hn=>by
  rw [AbD.L2,if_pos (by omega),Aco (by omega) (by omega)]
  by_cases z : g (i : Int)=0
  ·rw [if_neg (by simpa using z),AdA i (by omega),Ar4 k N g hN m (i+1) n (by omega) (by omega)]
   congr 2
   funext v
   refine decide_eq_decide.2 ⟨fun h=>?_,fun h=>by rcases h with h | h; exact .inl (by omega); exact .inr h⟩
   rcases h with h | h
   ·by_cases q : v=i
    ·subst q; exact .inr z
    ·exact .inl (by omega)
   ·exact .inr h
  ·rw [if_pos z]
   congr 1; symm
   rw [List.all_eq_false]
   exact ⟨i,by rw [List.mem_range]; omega,by rw [decide_eq_true_eq]; rintro (h | h); omega; exact z h⟩
theorem Ar5 (k N : Nat) (A : List AaE) (f : List Int) (h : NV N A) (hl : f.length=A.length) (hk : N<k) : ∀ (m i n : Nat),i+m=f.length→m<n→(∀ (j : Nat) (h1 : j<A.length) (h2 : j<f.length),j<i→0≤f[j]∧f[j]≤A[j].Cap) →
 AbD.L1 k (N : Int) A f n (i : Int) (Adc N fun v => -Mf.sur (ar (A.take i)) (f.take i) v)=some (inB A f&&Ajy N A f)
 | 0,i,n+1,e,_,hr=>by
  have hN:=h.n130; have h2:=h.two
  have : i=f.length:=by omega
  subst this
  rw [AbD.L1,if_neg (by omega),List.take_of_length_le (Nat.le_refl _),List.take_of_length_le (by omega)]
  have:=Ar4 k N (fun v => -Mf.sur (ar A) f v) (by omega) (N-2) 2 k (by omega) (by omega)
  rw [show (2 : Int)=((2 : Nat) : Int) from rfl,this,(Ag0 hl).2 fun j h1 h2=>hr j h1 h2 h2,Bool.true_and]
  unfold Ajy
  congr 2
  funext v
  exact decide_eq_decide.2 ⟨fun h=>by rcases h with h | h; exact .inl h; exact .inr (by omega),fun h=>by rcases h with h | h; exact .inl h; exact .inr (by omega)⟩
 | m+1,i,n+1,e,hn,hr=>by
  have hi : i<f.length:=by omega
  have hiA : i<A.length:=by omega
  have ok:=h.ok _ (List.getElem_mem hiA)
  have hA:=h.len
  have bad : (¬ (0≤f[i]∧f[i]≤A[i].Cap))→inB A f=false:=by
   intro z
   cases q : inB A f with
   | false=>rfl
   | true=>exact absurd ((Ag0 hl).1 q i hiA hi) z
  rw [AbD.L1,if_pos (by omega),Aae hi]
  by_cases c1 : f[i]<0
  ·rw [if_pos c1,bad (by omega)]; rfl
  rw [if_neg c1,Aae hiA]
  by_cases c2 : A[i].Cap<f[i]
  ·rw [if_pos c2,bad (by omega)]; rfl
  rw [if_neg c2]
  have B:=fun v=>Ahf (A:=A) (f:=f) (fun a ha=>(h.ok a ha).2.2.2.2.2.2.2.2) v i (by omega) (by omega) hr
  have b1:=B A[i].From; have b2:=B A[i].To
  rw [AaT (by rw [Abr]; omega),Aco ok.1 ok.2.1,AaT (by rw [Abr]; omega),w64 (by omega) (by omega),AdZ ok.1,AaT (by rw [Abr]; omega),Aco ok.2.2.1 ok.2.2.2.1,AaT (by rw [Abr]; omega),if_neg (fun z=>ok.2.2.2.2.1 z.symm),AdA i (by omega),AdZ ok.2.2.1,w64 (n := -Mf.sur (ar (A.take i)) (f.take i) A[i].To+f[i]) (by omega) (by omega)]
  have ih:=Ar5 k N A f h hl hk m (i+1) n (by omega) (by omega) (fun j h1 h2 h3=>by
   by_cases z : j=i
   ·subst z; omega
   ·exact hr j h1 h2 (by omega))
  rw [← ih]
  congr 2
  funext v
  rw [AhM A f i hiA hi]
  unfold Mf.b2
  by_cases e1 : v=A[i].To
  ·subst e1
   rw [if_pos rfl,if_neg (fun z=>ok.2.2.2.2.1 z),if_pos rfl]; omega
  ·rw [if_neg e1]
   by_cases e2 : v=A[i].From
   ·subst e2
    rw [if_pos rfl,if_pos rfl,if_neg (fun z=>e1 z.symm)]; omega
   ·rw [if_neg e2,if_neg (fun z=>e2 z.symm),if_neg (fun z=>e1 z.symm)]; omega
theorem AnB (k : Nat) (N : Int) (A : List AaE) (f : List Int) (hk : 1300<k) : AbD k N A f=some (flB N A f):=by
 unfold AbD flB
 rw [Ahq k N A (by omega),AaP]
 cases h : AoW N A with
 | false=>rw [if_pos (by simp)]; rfl
 | true =>
  obtain ⟨n,rfl,nv⟩:=(Afg _ _).1 h
  have:=nv.n130; have:=nv.len
  rw [if_neg (by simp)]
  by_cases hl : f.length=A.length
  ·rw [if_neg (by omega),decide_eq_true hl,AaT (by omega),show ((n : Int)).toNat=n by omega,AgG]
   exact Ar5 k n A f nv hl (by omega) f.length 0 k (by omega) (by omega) (fun j _ _ h=>by omega)
  ·rw [if_pos (by omega),decide_eq_false hl]; rfl
theorem AnC (k N : Nat) (A : List AaE) (f : List Int) (h : NV N A) (hf : Mf.Flow N (ar A) f) : ∀ (m i n : Nat),i+m=f.length→m<n→Aa6.L1 k A f n (Mf.sur (ar (A.take i)) (f.take i) 0) (i : Int)=some (Mf.val (ar A) f)
 | 0,i,n+1,e,_=>by
  have hl:=hf.len
  rw [Ab5] at hl
  have : i=f.length:=by omega
  subst this
  rw [Aa6.L1,if_neg (by omega),List.take_of_length_le (Nat.le_refl _),List.take_of_length_le (by omega)]; rfl
 | m+1,i,n+1,e,hn=>by
  have hl:=hf.len
  rw [Ab5] at hl
  have hA:=h.len
  have hi : i<f.length:=by omega
  have hiA : i<A.length:=by omega
  have fb:=FB.of hf
  have ok:=h.ok _ (List.getElem_mem hiA)
  have r1:=fb.lo i hi; have r2:=fb.hi i hi hiA
  have B:=Ahf (A:=A) (f:=f) (fun a ha=>(h.ok a ha).2.2.2.2.2.2.2.2) 0 i (by omega) (by omega) (fun j h1 h2 _=>⟨fb.lo j h2,fb.hi j h2 h1⟩)
  have ih:=AnC k N A f h hf m (i+1) n (by omega) (by omega)
  rw [AhM A f i hiA hi] at ih
  rw [Aa6.L1,if_pos (by omega),Aae hiA]
  unfold Aa6.J2
  unfold Mf.b2 at ih
  rw [if_neg (show ¬ A[i].To=0 from ok.2.2.2.2.2.1)] at ih
  by_cases c : A[i].From=0
  ·rw [if_pos c] at ih
   rw [if_pos c,Aae hi,w64 (by omega) (by omega),AdA i (by omega),← ih]
   congr 1; omega
  ·rw [if_neg c] at ih
   rw [if_neg c,AdA i (by omega),← ih]
   congr 1; omega
theorem AnA (k : Nat) (N : Int) (A : List AaE) (f : List Int) (hk : 1300<k) : Aa6 k N A f=some (if flB N A f then Mf.val (ar A) f else 0):=by
 unfold Aa6
 rw [AnB k N A f hk,AaP]
 cases h : flB N A f with
 | false=>rfl
 | true =>
  obtain ⟨n,rfl,nv,fl⟩:=(AiA _ _ _).1 h
  have hl:=fl.len
  rw [Ab5] at hl
  have:=nv.len
  rw [if_neg (by simp)]
  have:=AnC k n A f nv fl f.length 0 k (by omega) (by omega)
  rw [List.take_zero,List.take_zero] at this
  exact this
end Go.TF
set_option linter.unusedVariables false
set_option linter.unusedSimpArgs false
set_option maxRecDepth 100000
namespace Go.TF
open Go Go.Abs
theorem Ans (k N : Nat) (A : List AaE) (f : List Int) (h : NV N A) (hl : f.length=A.length) (hr : ∀ (j : Nat) (h1 : j<A.length) (h2 : j<f.length),0≤f[j]∧f[j]≤A[j].Cap) : ∀ (m i n : Nat),i+m=A.length→m<n →
 Abf.L1 k A f n (i : Int) (Adc N fun v=>Mf.sur (ar (A.take i)) (f.take i) v)=some (Adc N fun v=>Mf.sur (ar A) f v)
 | 0,i,n+1,e,_=>by
  have : i=A.length:=by omega
  subst this
  rw [Abf.L1,if_neg (by omega),List.take_of_length_le (Nat.le_refl _),List.take_of_length_le (by omega)]
 | m+1,i,n+1,e,hn=>by
  have hiA : i<A.length:=by omega
  have hi : i<f.length:=by omega
  have ok:=h.ok _ (List.getElem_mem hiA)
  have hA:=h.len
  have rr:=hr i hiA hi
  have B:=fun v=>Ahf (A:=A) (f:=f) (fun a ha=>(h.ok a ha).2.2.2.2.2.2.2.2) v i (by omega) (by omega) (fun j h1 h2 _=>hr j h1 h2)
  have b1:=B A[i].From; have b2:=B A[i].To
  rw [Abf.L1,if_pos (by omega),Aae hiA,AaT (by rw [Abr]; omega),Aco ok.1 ok.2.1,Aae hi,AaT (by rw [Abr]; omega),w64 (by omega) (by omega),AdZ ok.1,AaT (by rw [Abr]; omega),Aco ok.2.2.1 ok.2.2.2.1,AaT (by rw [Abr]; omega),if_neg (fun z=>ok.2.2.2.2.1 z.symm),AdA i (by omega),AdZ ok.2.2.1,w64 (n:=Mf.sur (ar (A.take i)) (f.take i) A[i].To-f[i]) (by omega) (by omega)]
  have ih:=Ans k N A f h hl hr m (i+1) n (by omega) (by omega)
  rw [← ih]
  congr 2
  funext v
  rw [AhM A f i hiA hi]
  unfold Mf.b2
  by_cases e1 : v=A[i].To
  ·subst e1
   rw [if_pos rfl,if_neg (fun z=>ok.2.2.2.2.1 z),if_pos rfl]; omega
  ·rw [if_neg e1]
   by_cases e2 : v=A[i].From
   ·subst e2
    rw [if_pos rfl,if_pos rfl,if_neg (fun z=>e1 z.symm)]; omega
   ·rw [if_neg e2,if_neg (fun z=>e2 z.symm),if_neg (fun z=>e1 z.symm)]; omega
theorem Anr (k N : Nat) (A : List AaE) (f : List Int) (h : NV N A) (hl : f.length=A.length) (hr : ∀ (j : Nat) (h1 : j<A.length) (h2 : j<f.length),0≤f[j]∧f[j]≤A[j].Cap) (hk : 1200<k) : Abf k (N : Int) A f=some (Adc N fun v=>Mf.sur (ar A) f v):=by
 have:=h.n130; have:=h.len
 unfold Abf
 rw [AaT (by omega),show ((N : Int)).toNat=N by omega,AgG]
 exact Ans k N A f h hl hr A.length 0 k (by omega) (by omega)
theorem AnY (k : Nat) (l : List Int) (h9 : l.length≤1000000) : ∀ (m i n : Nat),i+m=l.length→m<n→∃ r,Aad.L1 k l n (i : Int)=some r∧(0≤r↔(l.drop i).all (fun x=>decide (x=0))=false)
 | 0,i,n+1,e,_=>⟨-1,by rw [Aad.L1,if_neg (by omega)],by
  rw [List.drop_of_length_le (by omega)]
  constructor
  ·intro h; omega
  ·intro h; cases h⟩
 | m+1,i,n+1,e,hn=>by
  have hi : i<l.length:=by omega
  obtain ⟨r,e1,e2⟩:=AnY k l h9 m (i+1) n (by omega) (by omega)
  rw [Aad.L1,if_pos (by omega),Aae hi,AeL,AaP,List.drop_eq_getElem_cons hi,List.all_cons]
  by_cases c : l[i]=0
  ·rw [if_neg (by simp [c]),AdA i (by omega)]
   exact ⟨r,e1,by rw [e2,decide_eq_true c,Bool.true_and]⟩
  ·rw [if_pos (by simpa using c)]
   exact ⟨i,rfl,by rw [decide_eq_false c]; simp⟩
theorem Ask (k N : Nat) (A : List AaE) (f : List Int) (h : NV N A) (hl : f.length=A.length) (hk : 1300<k) : ∀ (m i n : Nat),i+m=A.length→m<n→(∀ (j : Nat) (h1 : j<A.length) (h2 : j<f.length),j<i→0≤f[j]∧f[j]≤A[j].Cap) →
 Abz.L1 k (N : Int) A f n (i : Int)=some (inB A f&&Ajy N A f)
 | 0,i,n+1,e,_,hr=>by
  have hN:=h.n130; have h2:=h.two
  have : i=A.length:=by omega
  subst this
  have hr' : ∀ (j : Nat) (h1 : j<A.length) (h2 : j<f.length),0≤f[j]∧f[j]≤A[j].Cap:=fun j h1 h2=>hr j h1 h2 h1
  rw [Abz.L1,if_neg (by omega),Anr k N A f h hl hr' (by omega),AaP,AaT (by rw [Abr]; omega),AbL,Aad]
  obtain ⟨r,e1,e2⟩:=AnY k ((Adc N fun v=>Mf.sur (ar A) f v).drop ((2 : Int).toNat)) (by rw [List.length_drop,Abr]; omega) _ 0 k (Nat.zero_add _) (by rw [List.length_drop,Abr]; omega)
  have e1 : Aad.L1 k ((Adc N fun v=>Mf.sur (ar A) f v).drop ((2 : Int).toNat)) k 0=some r:=e1
  rw [e1,AaP,AaP,(Ag0 hl).2 hr',Bool.true_and]
  congr 1
  rw [List.drop_zero] at e2
  have q : Ajy N A f=((Adc N fun v=>Mf.sur (ar A) f v).drop ((2 : Int).toNat)).all (fun x=>decide (x=0)):=by
   rw [Bool.eq_iff_iff]
   unfold Ajy
   rw [List.all_eq_true,List.all_eq_true]
   constructor
   ·intro z x hx
    obtain ⟨j,hj,rfl⟩:=List.mem_iff_getElem.1 hx
    rw [List.length_drop,Abr] at hj
    rw [List.getElem_drop,Alz]
    have:=z ((2 : Int).toNat+j) (by rw [List.mem_range]; omega)
    rw [decide_eq_true_eq] at this ⊢
    rcases this with w | w
    ·have : (2 : Int).toNat=2:=rfl
     omega
    ·exact w
   ·intro z v hv
    rw [List.mem_range] at hv
    rw [decide_eq_true_eq]
    by_cases c : v<2
    ·exact .inl c
    ·right
     have:=z (Mf.sur (ar A) f (v : Int)) (by
      rw [List.mem_iff_getElem]
      refine ⟨v-2,by rw [List.length_drop,Abr]; exact Nat.sub_lt_sub_right (by omega) hv,?_⟩
      rw [List.getElem_drop,Alz]
      congr 1
      have : (2 : Int).toNat=2:=rfl
      omega)
     simpa using this
  rw [q]
  cases c : ((Adc N fun v=>Mf.sur (ar A) f v).drop ((2 : Int).toNat)).all (fun x=>decide (x=0)) with
  | true =>
   have : ¬ 0≤r:=fun h=>by rw [e2.1 h] at c; cases c
   rw [decide_eq_false this]; rfl
  | false=>rw [decide_eq_true (e2.2 c)]; rfl
 | m+1,i,n+1,e,hn,hr=>by
  have hi : i<f.length:=by omega
  have hiA : i<A.length:=by omega
  have hA:=h.len
  have ih:=Ask k N A f h hl hk m (i+1) n (by omega) (by omega)
  rw [Abz.L1,if_pos (by omega),Aae hiA,Aae hi,Aik,AaP]
  by_cases c : 0≤f[i]∧f[i]≤A[i].Cap
  ·rw [decide_eq_true c,if_neg (by simp),AdA i (by omega)]
   exact ih fun j h1 h2 h3=>by
    by_cases z : j=i
    ·subst z; exact c
    ·exact hr j h1 h2 (by omega)
  ·rw [decide_eq_false c,if_pos (by rfl)]
   cases q : inB A f with
   | false=>rfl
   | true=>exact absurd ((Ag0 hl).1 q i hiA hi) c
theorem Aku (k : Nat) (N : Int) (A : List AaE) (f : List Int) (hk : 1300<k) : Abz k N A f=some (flB N A f):=by
 unfold Abz flB
 rw [AiD k N A (by omega),AaP]
 cases h : AoW N A with
 | false=>rw [if_pos (by simp)]; rfl
 | true =>
  obtain ⟨n,rfl,nv⟩:=(Afg _ _).1 h
  have:=nv.n130; have:=nv.len
  rw [if_neg (by simp)]
  by_cases hl : f.length=A.length
  ·rw [if_neg (by omega),decide_eq_true hl]
   exact Ask k n A f nv hl (by omega) A.length 0 k (by omega) (by omega) (fun j _ _ h=>by omega)
  ·rw [if_pos (by omega),decide_eq_false hl]; rfl
theorem Anq (k : Nat) (N : Int) (A : List AaE) (f : List Int) (hk : 1300<k) : AdS k N A f=some (if flB N A f then Mf.val (ar A) f else 0):=by
 unfold AdS
 rw [Aku k N A f hk,AaP]
 cases h : flB N A f with
 | false=>rfl
 | true =>
  obtain ⟨n,rfl,nv,fl⟩:=(AiA _ _ _).1 h
  have hl:=fl.len
  rw [Ab5] at hl
  have fb:=FB.of fl
  have:=nv.two
  rw [if_neg (by simp),Anr k n A f nv hl (fun j h1 h2=>⟨fb.lo j h2,fb.hi j h2 h1⟩) (by omega),AaP,AaT (by rw [Abr]; exact ⟨by omega,by simpa using (by omega : 0<n)⟩),Aco (by omega) (by omega)]
  rfl
theorem AiC (k N : Nat) (A : List AaE) (f : List Int) (h : NV N A) (hf : Mf.Flow N (ar A) f) (hk : 1300<k) : AdS k (N : Int) A f=some (Mf.val (ar A) f):=by
 rw [Anq k N A f hk,if_pos ((AiA _ _ _).2 ⟨N,rfl,h,hf⟩)]
end Go.TF
set_option linter.unusedVariables false
set_option linter.unusedSimpArgs false
set_option maxRecDepth 100000
namespace Go.TF
open Go Go.Abs
theorem Amq.least {N : Nat} {A : List AaE} {f : List Int} (h : NV N A) (d : Amq N A f) : Mf.Least (ar A) (Mf.val (ar A) f):=by
 obtain ⟨S,s0,s1,sc⟩:=d.side h
 exact Mf.least_of h.net d.fl S s0 s1 sc
theorem Amq.rng {N : Nat} {A : List AaE} {f : List Int} (h : NV N A) (d : Amq N A f) : 0≤Mf.val (ar A) f∧Mf.val (ar A) f≤((A.length*1048576 : Nat) : Int):=by
 refine ⟨?_,Aj5 h f d.fl⟩
 obtain ⟨S,s0,s1,e⟩:=(d.least h).is
 rw [← e]
 exact Mf.capS_nonneg h.net.cap S
def AvH : List AaE→List AaE
 | []=>[]
 | a::l=>AvH l++[a,⟨0,1,0⟩]
def twF (A : List AaE) : List AaE:=A.map fun a=>⟨a.From,a.To,2*a.Cap⟩
def btF (s : Int) (i : Nat) : Bool:=decide (Ajo .and .i64 (Int.fdiv s (2 ^ (min ((IntKind.wrap .u64 (i : Int)).toNat) 64))) 1=1)
def ofB (S : Nat→Bool) : Nat→Nat
 | 0=>0
 | n+1=>ofB S n+if S n then 2 ^ n else 0
structure Sx (s : Int) (i : Nat) (a : List Int) : Prop where
 rng : ∀ x ∈ a,0≤x∧x<i
 mem : ∀ j : Nat,j<i→((j : Int) ∈ a↔btF s j=true)
 len : a.length≤i
def ldB (s v : Int) : Bool:=btF s v.toNat
end Go.TF
set_option linter.unusedVariables false
set_option linter.unusedSimpArgs false
set_option maxRecDepth 100000
namespace Go.TF
open Go Go.Abs
theorem AjX {β : Type} (a b : Int) (v : β) (m : List (Int×β)) : mgI ((a,v)::m) b=if b=a then some 0 else (mgI m b).map (· + 1):=by
 unfold mgI
 rw [List.findIdx?_cons]
 by_cases e : b=a
 ·rw [if_pos e,if_pos (by simpa using e)]
 ·rw [if_neg e,if_neg (by simpa using e)]
theorem AgU {β : Type} (a b : Int) (v : β) (m : List (Int×β)) : AcI ((a,v)::m) b=if b=a then some v else AcI m b:=by
 unfold AcI
 rw [AjX]
 by_cases e : b=a
 ·rw [if_pos e,if_pos e]; rfl
 ·rw [if_neg e,if_neg e]
  cases mgI m b with
  | none=>rfl
  | some j=>simp
theorem Ah2 {β : Type} (a b : Int) (v : β) (m : List (Int×β)) : Ale ((a,v)::m) b=if b=a then m else (a,v)::Ale m b:=by
 unfold Ale
 rw [AjX]
 by_cases e : b=a
 ·rw [if_pos e,if_pos e]; rfl
 ·rw [if_neg e,if_neg e]
  cases mgI m b with
  | none=>rfl
  | some j=>rfl
theorem AkY {β : Type} (a b : Int) (v w : β) (m : List (Int×β)) : AbE ((a,v)::m) b w=if b=a then (b,w)::m else (a,v)::AbE m b w:=by
 unfold AbE
 rw [AjX]
 by_cases e : b=a
 ·rw [if_pos e,if_pos e]; rfl
 ·rw [if_neg e,if_neg e]
  cases mgI m b with
  | none=>rfl
  | some j=>rfl
def KN {β : Type} (m : List (Int×β)) : Prop:=(m.map (·.1)).Nodup
theorem AmB {β : Type} (b : Int) : ∀ (m : List (Int×β)) (x : Int),x ∈ (Ale m b).map (·.1)→x ∈ m.map (·.1)
 | [],x,h=>h
 | (a,v)::m,x,h=>by
  rw [Ah2] at h
  split at h
  ·exact List.mem_cons_of_mem _ h
  ·rw [List.map_cons,List.mem_cons] at h
   rcases h with h | h
   ·rw [h]; exact List.mem_cons_self
   ·exact List.mem_cons_of_mem _ (AmB b m x h)
theorem AhU {β : Type} (b : Int) (w : β) : ∀ (m : List (Int×β)) (x : Int),x ∈ (AbE m b w).map (·.1)→x ∈ m.map (·.1)∨x=b
 | [],x,h=>by
  have : AbE ([] : List (Int×β)) b w = [(b,w)]:=rfl
  rw [this] at h
  simp at h; exact .inr h
 | (a,v)::m,x,h=>by
  rw [AkY] at h
  split at h
  ·rename_i e; subst e; exact .inl h
  ·rw [List.map_cons,List.mem_cons] at h
   rcases h with h | h
   ·rw [h]; exact .inl List.mem_cons_self
   ·rcases AhU b w m x h with z | z
    ·exact .inl (List.mem_cons_of_mem _ z)
    ·exact .inr z
theorem KN.del {β : Type} (b : Int) : ∀ {m : List (Int×β)},KN m→KN (Ale m b)
 | [],h=>h
 | (a,v)::m,h=>by
  unfold KN at h
  rw [List.map_cons,List.nodup_cons] at h
  rw [Ah2]
  split
  ·exact h.2
  ·unfold KN
   rw [List.map_cons,List.nodup_cons]
   exact ⟨fun z=>h.1 (AmB b m _ z),KN.del b h.2⟩
theorem KN.put {β : Type} (b : Int) (w : β) : ∀ {m : List (Int×β)},KN m→KN (AbE m b w)
 | [],h=>by
  have : AbE ([] : List (Int×β)) b w = [(b,w)]:=rfl
  rw [this]; simp [KN]
 | (a,v)::m,h=>by
  have h':=h
  unfold KN at h
  rw [List.map_cons,List.nodup_cons] at h
  rw [AkY]
  split
  ·rename_i e; subst e; exact h'
  ·rename_i e
   unfold KN
   rw [List.map_cons,List.nodup_cons]
   refine ⟨fun z=>?_,KN.put b w h.2⟩
   rcases AhU b w m _ z with q | q
   ·exact h.1 q
   ·exact e q.symm
theorem Aka {β : Type} : ∀ {m : List (Int×β)} {b : Int},b ∉ m.map (·.1)→AcI m b=none
 | [],b,_=>rfl
 | (a,v)::m,b,h=>by
  rw [List.map_cons,List.mem_cons] at h
  rw [AgU,if_neg (fun e=>h (.inl e)),Aka fun e=>h (.inr e)]
theorem AmA {β : Type} : ∀ {m : List (Int×β)} (_ : KN m) (a b : Int),AcI (Ale m a) b=if b=a then none else AcI m b
 | [],_,a,b=>by split <;> rfl
 | (c,v)::m,h,a,b=>by
  unfold KN at h
  rw [List.map_cons,List.nodup_cons] at h
  rw [Ah2]
  by_cases e : a=c
  ·subst e
   rw [if_pos rfl,AgU]
   by_cases e2 : b=a
   ·subst e2
    rw [if_pos rfl]; exact Aka h.1
   ·rw [if_neg e2,if_neg e2]
  ·rw [if_neg e,AgU,AgU,AmA h.2 a b]
   by_cases e2 : b=c
   ·subst e2
    rw [if_pos rfl,if_neg (fun z=>e z.symm),if_pos rfl]
   ·rw [if_neg e2,if_neg e2]
theorem Akb {β : Type} : ∀ (L : List Int) {m : List (Int×β)} (_ : KN m) (b : Int),KN (L.foldl Ale m)∧AcI (L.foldl Ale m) b=if b ∈ L then none else AcI m b
 | [],m,h,b=>⟨h,by simp⟩
 | a::L,m,h,b=>by
  have ih:=Akb L (KN.del a h) b
  rw [List.foldl_cons]
  refine ⟨ih.1,?_⟩
  rw [ih.2,AmA h]
  by_cases e : b ∈ L
  ·rw [if_pos e,if_pos (List.mem_cons_of_mem _ e)]
  ·rw [if_neg e]
   by_cases e2 : b=a
   ·rw [if_pos e2,if_pos (e2 ▸ List.mem_cons_self)]
   ·rw [if_neg e2,if_neg (by rw [List.mem_cons]; rintro (z | z); exact e2 z; exact e z)]
def gA (A : List AaE) (a : Int) : AaE:=A.getD a.toNat ⟨0,0,0⟩
theorem AfK {A : List AaE} {i : Nat} (h : i<A.length) : gA A (i : Int)=A[i]:=by
 unfold gA
 rw [show ((i : Int)).toNat=i by omega,List.getD_eq_getElem?_getD,List.getElem?_eq_getElem h]; rfl
def nds (A : List AaE) (W : List Int) : List Int:=0::W.map fun a=>(gA A a).To
theorem Af1 (A : List AaE) (W : List Int) : (nds A W).length=W.length+1:=by simp [nds]
theorem AhT (A : List AaE) (W : List Int) (a : Int) : nds A (W++[a])=nds A W++[(gA A a).To]:=by simp [nds]
theorem AhS (A : List AaE) (W : List Int) (k : Nat) : nds A (W.take k)=(nds A W).take (k+1):=by simp [nds,List.map_take]
structure Wy (A : List AaE) (W : List Int) (t : Int) : Prop where
 rng : ∀ a ∈ W,0≤a∧a<A.length
 nd : (nds A W).Nodup
 fr : ∀ j : Nat,j<W.length→(gA A (W.getD j 0)).From=(nds A W).getD j 0
 last : (nds A W).getD W.length 0=t
theorem Wy.nil (A : List AaE) : Wy A [] 0:=⟨by simp,by simp [nds],fun j h=>absurd h (Nat.not_lt_zero _),rfl⟩
theorem Ag1 {l l' : List Int} {a : Int} (h : a ∈ l) : (l++l').idxOf a=l.idxOf a:=by
 induction l with
 | nil=>cases h
 | cons b l ih =>
  rw [List.cons_append,List.idxOf_cons,List.idxOf_cons]
  by_cases e : b=a
  ·simp [e]
  ·rw [List.mem_cons] at h
   have e' : (b==a)=false:=by simpa using e
   rw [e',ih (h.resolve_left (fun z=>e z.symm))]
theorem Aim {l l' : List Int} {a : Int} (h : a ∉ l) : (l++l').idxOf a=l.length+l'.idxOf a:=by
 induction l with
 | nil=>simp
 | cons b l ih =>
  rw [List.mem_cons] at h
  have e' : (b==a)=false:=by simpa using fun z=>h (.inl z.symm)
  rw [List.cons_append,List.idxOf_cons,e',ih (fun z=>h (.inr z)),List.length_cons]
  simp; omega
theorem Akn {l l' : List Int} {j : Nat} (h : j<l.length) : (l++l').getD j 0=l.getD j 0:=by
 rw [List.getD_eq_getElem?_getD,List.getD_eq_getElem?_getD,List.getElem?_append_left h]
theorem Akm {l : List Int} {x : Int} : (l++[x]).getD l.length 0=x:=by
 rw [List.getD_eq_getElem?_getD,List.getElem?_append_right (Nat.le_refl _)]; simp
theorem Ah8 {l : List Int} {k j : Nat} (h : j<k) : (l.take k).getD j 0=l.getD j 0:=by
 rw [List.getD_eq_getElem?_getD,List.getD_eq_getElem?_getD,List.getElem?_take,if_pos h]
theorem Wy.snoc {A : List AaE} {W : List Int} {t : Int} (hw : Wy A W t) {q : Nat} (hq : q<A.length) (hf : A[q].From=t) (hn : A[q].To ∉ nds A W) : Wy A (W++[(q : Int)]) A[q].To:=by
 refine ⟨fun a ha=>?_,?_,fun j hj=>?_,?_⟩
 ·rcases List.mem_append.1 ha with ha | ha
  ·exact hw.rng a ha
  ·rw [List.mem_singleton] at ha; omega
 ·rw [AhT,AfK hq,List.nodup_append]
  exact ⟨hw.nd,by simp,fun a ha b hb=>by rw [List.mem_singleton] at hb; subst hb; intro e; exact hn (e ▸ ha)⟩
 ·rw [AhT]
  have hj' : j<W.length+1:=by simpa using hj
  rw [Akn (l:=nds A W) (by rw [Af1]; omega)]
  by_cases e : j=W.length
  ·subst e
   rw [Akm,AfK hq,hf,hw.last]
  ·rw [Akn (l:=W) (by omega)]
   exact hw.fr j (by omega)
 ·rw [AhT,AfK hq,show (W++[(q : Int)]).length=(nds A W).length by rw [Af1]; simp,Akm]
theorem Wy.take {A : List AaE} {W : List Int} {t : Int} (hw : Wy A W t) {k : Nat} (hk : k≤W.length) : Wy A (W.take k) ((nds A W).getD k 0):=by
 have hl : (W.take k).length=k:=by rw [List.length_take]; omega
 refine ⟨fun a ha=>hw.rng a (List.mem_of_mem_take ha),?_,fun j hj=>?_,?_⟩
 ·rw [AhS]; exact hw.nd.sublist (List.take_sublist _ _)
 ·rw [hl] at hj
  rw [AhS,Ah8 hj,Ah8 (by omega)]
  exact hw.fr j (by omega)
 ·rw [hl,AhS,Ah8 (by omega)]
theorem Wy.len {N : Nat} {A : List AaE} (nv : NV N A) {W : List Int} {t : Int} (hw : Wy A W t) : W.length+1≤N:=by
 have:=nodup_range N (nds A W) hw.nd fun x hx=>by
  have n2:=nv.two
  unfold nds at hx
  rw [List.mem_cons] at hx
  rcases hx with hx | hx
  ·omega
  ·obtain ⟨a,ha,rfl⟩:=List.mem_map.1 hx
   have r:=hw.rng a ha
   have e : a=((a.toNat : Nat) : Int):=by omega
   have ok:=nv.ok _ (List.getElem_mem (show a.toNat<A.length by omega))
   rw [e,AfK (by omega)]; exact ⟨ok.2.2.1,ok.2.2.2.1⟩
 rw [Af1] at this; exact this
def Mt (m : List (Int×Int)) (L : List Int) : Prop:=KN m∧∀ v,AcI m v=if v ∈ L then some ((L.idxOf v : Nat) : Int) else none
theorem Mt.snoc {m : List (Int×Int)} {L : List Int} (h : Mt m L) {t : Int} (ht : t ∉ L) {n : Int} (hn : n=L.length) : Mt (AbE m t n) (L++[t]):=by
 refine ⟨KN.put t n h.1,fun v=>?_⟩
 rw [AcC]
 by_cases e : v=t
 ·subst e
  rw [if_pos rfl,if_pos (by simp),Aim ht,hn]; simp
 ·rw [if_neg e,h.2 v]
  by_cases e2 : v ∈ L
  ·rw [if_pos e2,if_pos (List.mem_append_left _ e2),Ag1 e2]
  ·rw [if_neg e2,if_neg (by rw [List.mem_append,List.mem_singleton]; rintro (z | z); exact e2 z; exact e z)]
theorem Mt.cut {m : List (Int×Int)} {L : List Int} (h : Mt m L) (hn : L.Nodup) {k : Nat} (hk : k<L.length) : Mt (AbE ((L.drop (k+1)++[L.getD k 0]).foldl Ale m) (L.getD k 0) (k : Int)) (L.take (k+1)):=by
 have d:=fun v=>Akb (L.drop (k+1)++[L.getD k 0]) h.1 v
 have gk : L.getD k 0=L[k]:=by rw [List.getD_eq_getElem?_getD,List.getElem?_eq_getElem hk]; rfl
 have et : L.take (k+1)=L.take k++[L[k]]:=List.take_succ_eq_append_getElem hk
 have sp : L=L.take (k+1)++L.drop (k+1):=(List.take_append_drop _ _).symm
 have nt : L[k] ∉ L.take k:=by
  have q:=hn
  rw [sp,et] at q
  rw [List.nodup_append] at q
  have q:=q.1
  rw [List.nodup_append] at q
  intro z
  exact q.2.2 _ z _ (List.mem_singleton.2 rfl) rfl
 refine ⟨KN.put _ _ (d 0).1,fun v=>?_⟩
 rw [AcC,(d v).2,h.2 v,gk,et]
 by_cases e : v=L[k]
 ·subst e
  rw [if_pos rfl,if_pos (List.mem_append_right _ (List.mem_singleton.2 rfl)),Aim nt]
  simp; omega
 ·rw [if_neg e]
  by_cases e1 : v ∈ L.take k
  ·have n1 : v ∉ L.drop (k+1):=by
    have q:=hn
    rw [sp,et,List.nodup_append] at q
    intro z
    exact q.2.2 v (List.mem_append_left _ e1) v z rfl
   rw [if_neg (by rw [List.mem_append,List.mem_singleton]; rintro (z | z); exact n1 z; exact e z),if_pos (List.mem_of_mem_take e1),if_pos (List.mem_append_left _ e1),Ag1 e1]
   congr 2
   conv=>lhs; rw [sp,et,List.append_assoc]
   rw [Ag1 e1]
  ·rw [if_neg (show ¬ v ∈ L.take k++[L[k]] by rw [List.mem_append,List.mem_singleton]; rintro (z | z); exact e1 z; exact e z)]
   by_cases e2 : v ∈ L.drop (k+1)
   ·rw [if_pos (List.mem_append_left _ e2)]
   ·rw [if_neg (by rw [List.mem_append,List.mem_singleton]; rintro (z | z); exact e2 z; exact e z),if_neg]
    intro z
    rw [sp,et,List.mem_append,List.mem_append,List.mem_singleton] at z
    rcases z with (z | z) | z
    ·exact e1 z
    ·exact e z
    ·exact e2 z
theorem Aur (k : Nat) (A : List AaE) (t : Int) (h9 : A.length≤100000) (j : Nat) (hj : j<A.length) (ej : A[j].From=t) : ∀ (m i n : Nat),i+m=j→m<n→∃ p : Nat,p≤j∧Aaa.L1 k A t n (i : Int)=some (p : Int)
 | 0,i,n+1,e,_=>by
  have : i=j:=by omega
  subst this
  refine ⟨i,Nat.le_refl _,?_⟩
  rw [Aaa.L1,if_pos (by omega),Aae hj,Adk,AaP,if_pos (by simpa using ej)]
 | m+1,i,n+1,e,hn=>by
  have hi : i<A.length:=by omega
  rw [Aaa.L1,if_pos (by omega),Aae hi,Adk,AaP]
  by_cases c : A[i].From=t
  ·rw [if_pos (by simpa using c)]
   exact ⟨i,by omega,rfl⟩
  ·rw [if_neg (by simpa using c),AdA i (by omega)]
   exact Aur k A t h9 j hj ej m (i+1) n (by omega) (by omega)
theorem pL7 (k : Nat) (A : List AaE) (left W : List Int) (met : List (Int×Int)) (t : Int) (kb : List Int→List Int→List (Int×Int)→Int→Option ((List (List Int))×Int)) (h9 : A.length≤100000) (hl : left.length=A.length) (j : Nat) (hj : j<A.length) (hj' : j<left.length) (ej : A[j].From=t) (pj : 1≤left[j]) : ∀ (m i n : Nat),i+m=j→m<n →
 ∃ (q : Nat) (hq : q<A.length) (hq' : q<left.length),A[q].From=t∧left[q]≠0∧AaS.L7 k A left W met t kb n (i : Int)=AaS.J3 k A left W met kb (q : Int)
 | 0,i,n+1,e,_=>by
  have : i=j:=by omega
  subst this
  refine ⟨i,hj,hj',ej,by omega,?_⟩
  rw [AaS.L7,if_pos (by omega),Aae hj,if_neg (by simpa using ej),AaT ⟨by omega,by omega⟩,Aae hj',if_neg (by omega)]
 | m+1,i,n+1,e,hn=>by
  have hi : i<A.length:=by omega
  have hi' : i<left.length:=by omega
  have ih:=pL7 k A left W met t kb h9 hl j hj hj' ej pj m (i+1) n (by omega) (by omega)
  rw [AaS.L7,if_pos (by omega),Aae hi]
  unfold AaS.J8
  rw [AdA i (by omega)]
  by_cases c : A[i].From=t
  ·rw [if_neg (by simpa using c),AaT ⟨by omega,by omega⟩,Aae hi']
   by_cases z : left[i]=0
   ·rw [if_pos z]; exact ih
   ·rw [if_neg z]; exact ⟨i,hi,hi',c,z,rfl⟩
  ·rw [if_pos (by simpa using c)]; exact ih
theorem pL6 (k : Nat) (A : List AaE) (left W : List Int) (q x : Int) (ar_ : AaE) (c : Nat) (kb : List Int→List Int→List (Int×Int)→Int→Option ((List (List Int))×Int)) (h9 : A.length≤100000) (hc : c≤(W++[q]).length) (c1 : 1≤c) (hW : (W++[q]).length≤100000) (hr : ∀ a ∈ W++[q],0≤a∧a<A.length) : ∀ (m i n : Nat) (met : List (Int×Int)),c+i+m=(W++[q]).length→m<n →
 AaS.L6 k A left W q x ar_ (c : Int) kb n (i : Int) met=AaS.J4 k left q x ar_ kb ((W++[q]).take c) ((((W++[q]).drop (c+i)).map fun a=>(gA A a).To).foldl Ale met)
 | 0,i,n+1,met,e,_=>by
  rw [AaS.L6,if_neg (by omega),AaT ⟨by omega,by omega,by omega,by omega⟩,List.drop_of_length_le (by omega),show ((c : Int)).toNat=c by omega]; rfl
 | m+1,i,n+1,met,e,hn=>by
  have hi : c+i<(W++[q]).length:=by omega
  have r:=hr _ (List.getElem_mem hi)
  have ih:=pL6 k A left W q x ar_ c kb h9 hc c1 hW hr m (i+1) n (Ale met (gA A (W++[q])[c+i]).To) (by omega) (by omega)
  have e1 : (W++[q])[c+i]=(((W++[q])[c+i].toNat : Nat) : Int):=by omega
  rw [AaS.L6,if_pos (by omega),AaT ⟨by omega,by omega,by omega⟩,show ((((c : Int)).toNat+((i : Int)).toNat : Nat) : Int)=((c+i : Nat) : Int) by omega,Aae hi]
  generalize ha : (W++[q])[c+i]=a at *
  obtain ⟨b,rfl⟩:=Int.eq_ofNat_of_zero_le r.1
  have hb : b<A.length:=by omega
  rw [Aae hb,AdA i (by omega),List.drop_eq_getElem_cons hi,ha,List.map_cons,List.foldl_cons]
  rw [AfK hb] at ih ⊢
  exact ih
structure Lf (N : Nat) (A : List AaE) (f left W : List Int) (met : List (Int×Int)) (t r : Int) : Prop where
 len : left.length=A.length
 nn : ∀ (i : Nat) (h : i<left.length),0≤left[i]
 sur : ∀ v,Mf.sur (ar A) left v=r*(Mf.b2 (0=v)-Mf.b2 (1=v))-(Mf.b2 (0=v)-Mf.b2 (t=v))
 wy : Wy A W t
 mt : Mt met (nds A W)
 use : ∀ i : Nat,i<A.length→((W.count (i : Int) : Nat) : Int)+left.getD i 0≤f.getD i 0
theorem AjF (A : List Mf.Arc) : ∀ (f : List Int),(∀ (i : Nat) (h : i<f.length),0≤f[i])→0≤Mf.sm A f fun _=>1:=by
 induction A with
 | nil=>intro f _; simp [Mf.sm_nil]
 | cons a A ih =>
  intro f h
  cases f with
  | nil=>simp [Mf.sm]
  | cons x f =>
   rw [Mf.sm_cons]
   have:=h 0 (by simp)
   have:=ih f fun i hi=>by have:=h (i+1) (by simpa using hi); simpa using this
   simp at *; omega
theorem Ajl (a : Int) (l : List Int) (k : Nat) : (l.take k).count a≤l.count a:=(List.take_sublist k l).count_le a
theorem pL2 (k N : Nat) (A : List AaE) (nv : NV N A) (f : List Int) (hf : ∀ i : Nat,f.getD i 0≤1048576) (r : Int) (hr : 1≤r) (v9 : Int) (out : List (List Int)) (ho : out.length≤5000000000) (hk : 1200<k) (kb : Int→List Int→List (List Int)→Option ((List (List Int))×Int)) : ∀ (m n : Nat) (left W : List Int) (met : List (Int×Int)) (t : Int),Lf N A f left W met t r→Mf.sm (ar A) left (fun _=>1)≤m→m<n →
 ∃ left' W',AaS.L2 k A v9 out kb n left W met t=kb (IntKind.wrap .i64 (v9+1)) left' (out++[W'])∧left'.length=A.length∧(∀ (i : Nat) (h : i<left'.length),0≤left'[i])∧(∀ v,Mf.sur (ar A) left' v=(r-1)*(Mf.b2 (0=v)-Mf.b2 (1=v)))∧Wy A W' 1∧(∀ i : Nat,i<A.length→((W'.count (i : Int) : Nat) : Int)+left'.getD i 0≤f.getD i 0):=by
 intro m
 induction m with
 | zero =>
  intro n left W met t L hm hn
  obtain ⟨n,rfl⟩ : ∃ j,n=j+1:=⟨n-1,by omega⟩
  have hA:=nv.len
  have wl:=L.wy.len nv
  have n130:=nv.n130
  rw [AaS.L2]
  by_cases c : t=1
  ·subst c
   refine ⟨left,W,?_,L.len,L.nn,fun v=>?_,L.wy,L.use⟩
   ·rw [if_neg (by omega),Abt,AaT (by omega),AaP,AaT (by simp only [List.length_cons,List.length_nil]; omega)]
   ·rw [L.sur v,Int.sub_mul]; omega
  ·exfalso
   have s1 : 1≤Mf.sur (ar A) left t:=by
    rw [L.sur t]
    unfold Mf.b2
    by_cases z : t=0
    ·subst z; simp; omega
    ·rw [if_neg (fun e=>z e.symm),if_neg (fun e=>c e.symm),if_pos rfl]; omega
   obtain ⟨j,j1,j2,j3⟩:=Mf.out_arc t (by rw [Ab5]; exact L.len) L.nn s1
   rw [Ab5] at j1
   have hj : j<left.length:=by rw [L.len]; exact j1
   have q:=Mf.sm_set (ar A) (fun _=>1) (-1) left j (by rw [Ab5]; exact j1) hj
   have q2:=AjF (ar A) (left.set j (left[j] + -1)) (fun i hi=>by
    rw [List.getElem_set]
    split
    ·rw [List.getD_eq_getElem?_getD,List.getElem?_eq_getElem hj] at j3; simp only [Option.getD_some] at j3; omega
    ·exact L.nn i (by simpa using hi))
   rw [q] at q2; omega
 | succ m ih =>
  intro n left W met t L hm hn
  obtain ⟨n,rfl⟩ : ∃ j,n=j+1:=⟨n-1,by omega⟩
  have hA:=nv.len
  have wl:=L.wy.len nv
  have n130:=nv.n130
  rw [AaS.L2]
  by_cases c : t=1
  ·subst c
   refine ⟨left,W,?_,L.len,L.nn,fun v=>?_,L.wy,L.use⟩
   ·rw [if_neg (by omega),Abt,AaT (by omega),AaP,AaT (by simp only [List.length_cons,List.length_nil]; omega)]
   ·rw [L.sur v,Int.sub_mul]; omega
  ·have s1 : 1≤Mf.sur (ar A) left t:=by
    rw [L.sur t]
    unfold Mf.b2
    by_cases z : t=0
    ·subst z; simp; omega
    ·rw [if_neg (fun e=>z e.symm),if_neg (fun e=>c e.symm),if_pos rfl]; omega
   obtain ⟨j,j1,j2,j3⟩:=Mf.out_arc t (by rw [Ab5]; exact L.len) L.nn s1
   rw [Ab5] at j1
   rw [AeF j1] at j2
   have hj : j<left.length:=by rw [L.len]; exact j1
   have j4 : 1≤left[j]:=by rw [List.getD_eq_getElem?_getD,List.getElem?_eq_getElem hj] at j3; simpa using j3
   obtain ⟨p,p1,p2⟩:=Aur k A t (by omega) j j1 j2 j 0 k (by omega) (by omega)
   have p2 : Aaa k A t=some (p : Int):=p2
   obtain ⟨q,hq,hq',q1,q2,q3⟩:=pL7 k A left W met t (fun v12_ v13_ v14_ v15_=>AaS.L2 k A v9 out kb n v12_ v13_ v14_ v15_) (by omega) L.len j j1 hj j2 j4 (j-p) p k (by omega) (by omega)
   have ok:=nv.ok _ (List.getElem_mem hq)
   have lq:=L.nn q hq'
   have ub : left[q]≤1048576:=by
    have u:=L.use q hq
    have u2:=hf q
    rw [List.getD_eq_getElem?_getD,List.getElem?_eq_getElem hq',Option.getD_some] at u
    omega
   rw [if_pos c,p2,AaP,q3]
   unfold AaS.J3
   rw [AaT ⟨by omega,by omega⟩,Aae hq',AaT ⟨by omega,by omega⟩,AaT (by simp only [List.length_cons,List.length_nil]; omega),Aae hq]
   have setlen : (left.set q (left[q] + -1)).length=A.length:=by rw [List.length_set]; exact L.len
   have nn' : ∀ (i : Nat) (h : i<(left.set q (left[q] + -1)).length),0≤(left.set q (left[q] + -1))[i]:=by
    intro i hi
    rw [List.getElem_set]
    split
    ·omega
    ·exact L.nn i (by simpa using hi)
   have sur' : ∀ v,Mf.sur (ar A) (left.set q (left[q] + -1)) v=r*(Mf.b2 (0=v)-Mf.b2 (1=v))-(Mf.b2 (0=v)-Mf.b2 (A[q].To=v)):=by
    intro v
    have a:=Mf.sur_set (ar A) left v (-1) q (by rw [Ab5]; exact hq) hq'
    rw [a,L.sur v]
    have : (ar A)[q]'(by rw [Ab5]; exact hq)=⟨A[q].From,A[q].To,A[q].Cap⟩:=by simp [ar]
    rw [this,← q1]; simp only []; omega
   have less : Mf.sm (ar A) (left.set q (left[q] + -1)) (fun _=>1)≤m:=by
    rw [Mf.sm_set (ar A) (fun _=>1) (-1) left q (by rw [Ab5]; exact hq) hq']; omega
   have get' : ∀ i : Nat,i<A.length→(left.set q (left[q] + -1)).getD i 0=left.getD i 0-if i=q then 1 else 0:=by
    intro i hi
    rw [List.getD_eq_getElem?_getD,List.getD_eq_getElem?_getD,List.getElem?_set]
    by_cases e : q=i
    ·subst e
     rw [if_pos rfl,if_pos hq',if_pos rfl,List.getElem?_eq_getElem hq']; simp only [Option.getD_some]; omega
    ·rw [if_neg e,if_neg (fun z=>e z.symm),Int.sub_zero]
   have w1 : IntKind.wrap .i64 (left[q]-1)=left[q] + -1:=by rw [w64 (by omega) (by omega)]; omega
   have done : ∀ (W'' : List Int) (met'' : List (Int×Int)),Wy A W'' A[q].To→Mt (AbE met'' A[q].To (W''.length : Int)) (nds A W'')→(∀ i : Nat,i<A.length→((W''.count (i : Int) : Nat) : Int)+(left.set q (left[q] + -1)).getD i 0≤f.getD i 0) →
    ∃ left' W',AaS.J4 k left (q : Int) left[q] A[q] (fun v12_ v13_ v14_ v15_=>AaS.L2 k A v9 out kb n v12_ v13_ v14_ v15_) W'' met''=kb (IntKind.wrap .i64 (v9+1)) left' (out++[W'])∧left'.length=A.length∧(∀ (i : Nat) (h : i<left'.length),0≤left'[i])∧(∀ v,Mf.sur (ar A) left' v=(r-1)*(Mf.b2 (0=v)-Mf.b2 (1=v)))∧Wy A W' 1∧(∀ i : Nat,i<A.length→((W'.count (i : Int) : Nat) : Int)+left'.getD i 0≤f.getD i 0):=by
    intro W'' met'' h1 h2 h3
    unfold AaS.J4
    rw [w1,show ((q : Int)).toNat=q by omega]
    exact ih n _ W'' _ _ ⟨setlen,nn',sur',h1,h2,h3⟩ less (by omega)
   have Arf : ∀ i : Nat,i<A.length→(((W++[(q : Int)]).count (i : Int) : Nat) : Int)+(left.set q (left[q] + -1)).getD i 0≤f.getD i 0:=by
    intro i hi
    have u:=L.use i hi
    rw [get' i hi,List.count_append]
    by_cases e : i=q
    ·subst e
     have : [(i : Int)].count (i : Int)=1:=by simp
     rw [if_pos rfl,this]; omega
    ·rw [if_neg e]
     have : [(q : Int)].count (i : Int)=0:=by rw [List.count_eq_zero]; simp; omega
     rw [this]; omega
   rw [L.mt.2 A[q].To]
   by_cases seen : A[q].To ∈ nds A W
   ·rw [if_pos seen]
    have il : (nds A W).idxOf A[q].To<(nds A W).length:=List.idxOf_lt_length_of_mem seen
    have ig : (nds A W).getD ((nds A W).idxOf A[q].To) 0=A[q].To:=by
     rw [List.getD_eq_getElem?_getD,List.getElem?_eq_getElem il]; simp
    have i0 : (nds A W).idxOf A[q].To≠0:=by
     intro z
     have z2:=ig
     rw [z] at z2
     have : (nds A W).getD 0 0=0:=rfl
     exact ok.2.2.2.2.2.1 (by omega)
    generalize hc : (nds A W).idxOf A[q].To=ci at *
    rw [Af1] at il
    simp only [AgR]
    unfold AaS.J5
    rw [if_pos rfl,AaT ⟨by simp,by omega,by simp; omega⟩]
    have l6:=pL6 k A left W (q : Int) left[q] A[q] ci (fun v12_ v13_ v14_ v15_=>AaS.L2 k A v9 out kb n v12_ v13_ v14_ v15_) (by omega) (by simp; omega) (by omega) (by simp; omega) (fun a ha=>by
     rcases List.mem_append.1 ha with ha | ha
     ·exact L.wy.rng a ha
     ·rw [List.mem_singleton] at ha; omega) ((W++[(q : Int)]).length-ci) 0 k met (by simp; omega) (by simp; omega)
    rw [show (0 : Int)=((0 : Nat) : Int) from rfl,l6]
    have t1 : (W++[(q : Int)]).take ci=W.take ci:=List.take_append_of_le_length (by omega)
    have t2 : ((W++[(q : Int)]).drop (ci+0)).map (fun a=>(gA A a).To)=(nds A W).drop (ci+1)++[(nds A W).getD ci 0]:=by
     rw [Nat.add_zero,List.drop_append_of_le_length (by omega),List.map_append,ig]
     simp [nds,AfK hq]
    rw [t1,t2]
    have wt:=L.wy.take (k:=ci) (by omega)
    rw [ig] at wt
    refine done _ _ wt ?_ fun i hi=>?_
    ·have:=L.mt.cut L.wy.nd (k:=ci) (by rw [Af1]; omega)
     rw [AhS,show ((W.take ci).length : Int)=(ci : Int) by rw [List.length_take]; omega]
     rw [ig] at this ⊢; exact this
    ·have:=Arf i hi
     have c1:=Ajl (i : Int) W ci
     have c2 : W.count (i : Int)≤(W++[(q : Int)]).count (i : Int):=by rw [List.count_append]; omega
     omega
   ·rw [if_neg seen]
    simp only [AgR]
    unfold AaS.J5
    rw [if_neg (by simp)]
    refine done _ _ (L.wy.snoc hq q1 seen) ?_ Arf
    rw [AhT,AfK hq]
    exact L.mt.snoc seen (by rw [Af1]; simp)
def Ajv (out : List (List Int)) (a : Int) : Nat:=out.flatten.count a
theorem pL1 (k N : Nat) (A : List AaE) (nv : NV N A) (f : List Int) (hf : ∀ i : Nat,f.getD i 0≤1048576) (hk : 1200<k) (hk3 : A.length*1048576<k) (V : Nat) (hV : V≤4000000000) : ∀ (m i n : Nat) (left : List Int) (out : List (List Int)),i+m=V→m<n→out.length=i→(∀ W ∈ out,Wy A W 1)→left.length=A.length→(∀ (i : Nat) (h : i<left.length),0≤left[i]) →
 (∀ v,Mf.sur (ar A) left v=(m : Int)*(Mf.b2 (0=v)-Mf.b2 (1=v)))→(∀ j : Nat,j<A.length→((Ajv out (j : Int) : Nat) : Int)+left.getD j 0≤f.getD j 0) →
 ∃ out',AaS.L1 k A (V : Int) n (i : Int) left out=some (out',0)∧out'.length=V∧(∀ W ∈ out',Wy A W 1)∧(∀ j : Nat,j<A.length→((Ajv out' (j : Int) : Nat) : Int)≤f.getD j 0)
 | 0,i,n+1,left,out,e,_,ho,hw,hl,nn,hs,hu=>by
  refine ⟨out,?_,by omega,hw,fun j hj=>?_⟩
  ·rw [AaS.L1,if_neg (by omega)]
  ·have u:=hu j hj
   have:=nn j (by omega)
   rw [List.getD_eq_getElem?_getD,List.getElem?_eq_getElem (show j<left.length by omega),Option.getD_some] at u
   omega
 | m+1,i,n+1,left,out,e,hn,ho,hw,hl,nn,hs,hu=>by
  have hA:=nv.len
  have tot : Mf.sm (ar A) left (fun _=>1)≤((A.length*1048576 : Nat) : Int):=by
   have : ∀ (A : List Mf.Arc) (l : List Int),(∀ x ∈ l,x≤1048576)→Mf.sm A l (fun _=>1)≤A.length*1048576:=by
    intro A
    induction A with
    | nil=>intro l _; simp [Mf.sm_nil]
    | cons a A ih =>
     intro l h
     cases l with
     | nil=>rw [Mf.sm_nil']; omega
     | cons x l =>
      rw [Mf.sm_cons]
      have:=h x List.mem_cons_self
      have:=ih l fun y hy=>h y (List.mem_cons_of_mem _ hy)
      simp only [List.length_cons]; omega
   have:=this (ar A) left fun x hx=>by
    obtain ⟨j,hj,rfl⟩:=List.mem_iff_getElem.1 hx
    have u:=hu j (by omega)
    have:=hf j
    rw [List.getD_eq_getElem?_getD,List.getElem?_eq_getElem hj,Option.getD_some] at u
    omega
   rw [Ab5] at this; omega
  have L : Lf N A left left [] (AbE ([] : List (Int×Int)) 0 0) 0 ((m : Int)+1):=by
   refine ⟨hl,nn,fun v=>?_,Wy.nil A,⟨by simp [KN,AbE,mgI],fun v=>?_⟩,fun j hj=>by simp⟩
   ·rw [hs v]; simp only [Int.sub_self,Int.sub_zero]; congr 1
   ·rw [AcC]
    have e0 : nds A [] = [0]:=rfl
    rw [e0]
    by_cases z : v=0
    ·subst z; simp
    ·rw [if_neg z,if_neg (by simpa using z)]; rfl
  have hf' : ∀ i : Nat,left.getD i 0≤1048576:=by
   intro j
   by_cases hj : j<A.length
   ·have:=hu j hj; have:=hf j; omega
   ·rw [List.getD_eq_getElem?_getD,List.getElem?_eq_none (by omega)]; simp
  obtain ⟨left',W',e1,e2,e3,e4,e5,e6⟩:=pL2 k N A nv left hf' ((m : Int)+1) (by omega) (i : Int) out (by omega) hk (fun v9_ v10_ v11_=>AaS.L1 k A (V : Int) n v9_ v10_ v11_) (A.length*1048576) k left [] _ 0 L tot hk3
  rw [AaS.L1,if_pos (by omega),e1,AdA i (by omega)]
  refine pL1 k N A nv f hf hk hk3 V hV m (i+1) n left' (out++[W']) (by omega) (by omega) (by simp; exact ho) (fun W hW=>?_) e2 e3 (fun v=>?_) (fun j hj=>?_)
  ·rcases List.mem_append.1 hW with hW | hW
   ·exact hw W hW
   ·rw [List.mem_singleton] at hW; subst hW; exact e5
  ·rw [e4 v,show (m : Int)+1-1=(m : Int) by omega]
  ·have a:=e6 j hj
   have b:=hu j hj
   have c : Ajv (out++[W']) (j : Int)=Ajv out (j : Int)+W'.count (j : Int):=by unfold Ajv; rw [List.flatten_append,List.count_append]; simp
   rw [c]; omega
structure PW (A : List AaE) (f : List Int) (out : List (List Int)) (V : Int) : Prop where
 len : (out.length : Int)=V
 wy : ∀ W ∈ out,Wy A W 1
 use : ∀ j : Nat,j<A.length→((Ajv out (j : Int) : Nat) : Int)≤f.getD j 0
theorem Ant (k N : Nat) (A : List AaE) (f : List Int) (nv : NV N A) (fl : Mf.Flow N (ar A) f) (h0 : 0≤Mf.val (ar A) f) (hk : 1300<k) (hk3 : A.length*1048576<k) : ∃ out,AaS k (N : Int) A f=some (out,0)∧PW A f out (Mf.val (ar A) f):=by
 have hA:=nv.len
 have vb:=Aj5 nv f fl
 have hl:=fl.len
 rw [Ab5] at hl
 have fb:=FB.of fl
 obtain ⟨V,hV⟩:=Int.eq_ofNat_of_zero_le h0
 unfold AaS
 rw [AiD k N A (by omega),AaP,(Afg _ _).2 ⟨N,rfl,nv⟩,if_neg (by simp),Aku k N A f hk,AaP,(AiA _ _ _).2 ⟨N,rfl,nv,fl⟩,if_neg (by simp),AkE k f (by omega),AaP,AiC k N A f nv fl hk,AaP,hV]
 have hf : ∀ i : Nat,f.getD i 0≤1048576:=by
  intro j
  by_cases hj : j<f.length
  ·rw [List.getD_eq_getElem?_getD,List.getElem?_eq_getElem hj,Option.getD_some]
   have:=fb.hi j hj (by omega)
   have:=(nv.ok _ (List.getElem_mem (show j<A.length by omega))).2.2.2.2.2.2.2.2
   omega
  ·rw [List.getD_eq_getElem?_getD,List.getElem?_eq_none (by omega)]; simp
 have sur : ∀ v,Mf.sur (ar A) f v=(V : Int)*(Mf.b2 (0=v)-Mf.b2 (1=v)):=by
  intro v
  unfold Mf.b2
  by_cases z0 : 0=v
  ·subst z0
   have : Mf.sur (ar A) f 0=(V : Int):=hV
   rw [this,if_pos rfl,if_neg (by omega)]; omega
  ·rw [if_neg z0]
   by_cases z1 : 1=v
   ·subst z1
    rw [if_pos rfl]
    have a:=Mf.val_side nv.net fl (fun v=>decide (v≠1)) (by simp) (by simp)
    rw [Mf.sm_congr (w':=fun a => -1*(Mf.b2 (a.fr=1)-Mf.b2 (a.to=1))) (fun a _=>by
     unfold Mf.b2
     by_cases z : a.fr=1 <;> by_cases z' : a.to=1 <;> simp [z,z']) f,Mf.sm_mul] at a
    have a : Mf.val (ar A) f = -1*Mf.sur (ar A) f 1:=a
    omega
   ·rw [if_neg z1,fl.zero v (fun e=>z0 e.symm) (fun e=>z1 e.symm)]; omega
 obtain ⟨out,o1,o2,o3,o4⟩:=pL1 k N A nv f hf (by omega) hk3 V (by omega) V 0 k f [] (by omega) (by omega) rfl (by simp) hl fb.lo sur (fun j hj=>by simp [Ajv])
 exact ⟨out,o1,⟨by omega,o3,o4⟩⟩
theorem AiI (out : List (List Int)) (i : Nat) (a : Int) : Ajv (out.take i) a≤Ajv out a:=by
 unfold Ajv
 conv=>rhs; rw [← List.take_append_drop i out,List.flatten_append,List.count_append]
 omega
end Go.TF
set_option linter.unusedVariables false
set_option linter.unusedSimpArgs false
set_option maxRecDepth 100000
namespace Go.TF
open Go Go.Abs
def Av1 (A : List AaE) (w : AaE→Int) : Int:=(A.map fun a=>w a*a.Cap).sum
end Go.TF
set_option linter.unusedVariables false
set_option linter.unusedSimpArgs false
namespace Go.TF
open Go Go.Abs
def Afh (N lv a b : Int) : Bool:=decide (1≤lv∧lv≤3∧0≤a∧a<N∧0≤b∧b<N∧a≠b)
theorem Ajs (k : Nat) (N : Int) (E : List AaA) (g : List Int) (lv a b : Int) (hN : -1000001≤N∧N≤1000001) : Acj k N E g lv a b=some (Afh N lv a b):=by
 unfold Acj Afh
 rw [Aik,AaP]
 by_cases h1 : 1≤lv∧lv≤3
 ·rw [if_pos (decide_eq_true h1),Aik,AaP,w64 (by omega) (by omega)]
  by_cases h2 : 0≤a∧a≤N-1
  ·rw [if_pos (decide_eq_true h2),Aik,AaP]
   by_cases h3 : 0≤b∧b≤N-1
   ·rw [if_pos (decide_eq_true h3)]
    congr 1
    by_cases h4 : a=b
    ·subst h4; simp
    ·rw [decide_eq_true (by omega)]; simpa using h4
   ·rw [if_neg (by simpa using h3),decide_eq_false (by omega)]
  ·rw [if_neg (by simpa using h2),decide_eq_false (by omega)]
 ·rw [if_neg (by simpa using h1),decide_eq_false (by omega)]
def ndA (a b : Int) (i : Nat) : List AaE:=((Ala i).filter fun x=>decide (x≠a∧x≠b)).map fun x=>⟨2+2*x,3+2*x,1⟩
def egP (lv a b : Int) (e : AaA) : Bool:=decide (lv≤e.Level∧e.To≠a∧e.From≠b)
def egM (a b : Int) (e : AaA) : AaE:=⟨if e.From=a then 0 else 3+2*e.From,if e.To=b then 1 else 2+2*e.To,1⟩
def egA (lv a b : Int) (E : List AaA) : List AaE:=(E.filter (egP lv a b)).map (egM a b)
def AcO (N : Nat) (E : List AaA) (lv a b : Int) : List AaE:=ndA a b N++egA lv a b E
theorem AnZ (i : Nat) : Ala (i+1)=Ala i++[(i : Int)]:=by simp [Ala,List.range_succ]
theorem Al9 (a b : Int) (i : Nat) : ndA a b (i+1)=ndA a b i++if (i : Int)≠a∧(i : Int)≠b then [⟨2+2*(i : Int),3+2*(i : Int),1⟩] else []:=by
 unfold ndA
 rw [AnZ,List.filter_append,List.map_append]
 congr 1
 rw [List.filter_cons]
 by_cases h : (i : Int)≠a∧(i : Int)≠b
 ·rw [if_pos h,if_pos (by simpa using h)]; rfl
 ·rw [if_neg h,if_neg (by simpa using h)]; rfl
theorem AfJ (a b : Int) (i : Nat) : (ndA a b i).length≤i:=by
 unfold ndA; rw [List.length_map]; exact Nat.le_trans (List.length_filter_le _ _) (by rw [Aoy]; exact Nat.le_refl _)
theorem Ajk (lv a b : Int) (E : List AaA) : (egA lv a b E).length≤E.length:=by
 unfold egA; rw [List.length_map]; exact List.length_filter_le _ _
theorem AmJ (lv a b : Int) (e : AaA) (E : List AaA) : egA lv a b (e::E)=(if egP lv a b e then [egM a b e] else [])++egA lv a b E:=by
 unfold egA; rw [List.filter_cons]; split <;> rfl
theorem AgP (k : Nat) (x : Int) (h : -100001≤x∧x≤100001) : AcU k x=some (2+2*x):=by
 unfold AcU; rw [w64 (n:=2*x) (by omega) (by omega),w64 (by omega) (by omega)]
theorem Ar9 (k : Nat) (E : List AaA) (lv a b M : Int) (h9 : E.length≤100001) (hE : ∀ e ∈ E,0≤e.From∧e.From≤100001∧0≤e.To∧e.To≤100001) : ∀ (m i n : Nat) (acc : List AaE),i+m=E.length→m<n→acc.length≤200002+i→AaR.L3 k E lv a b M n (i : Int) acc=some (M,acc++egA lv a b (E.drop i))
 | 0,i,n+1,acc,e,_,_=>by
  rw [AaR.L3,if_neg (by omega),List.drop_of_length_le (by omega)]; simp [egA]
 | m+1,i,n+1,acc,e,hn,ha=>by
  have hi : i<E.length:=by omega
  have ih:=fun acc'=>Ar9 k E lv a b M h9 hE m (i+1) n acc' (by omega) (by omega)
  have hr:=hE _ (List.getElem_mem hi)
  rw [AaR.L3,if_pos (by omega),Aae hi,List.drop_eq_getElem_cons hi,AmJ]
  unfold AaR.J4
  simp only [AdA i (by omega)]
  by_cases q1 : E[i].Level<lv
  ·rw [if_pos q1,ih _ (by omega),if_neg (by unfold egP; rw [decide_eq_true_eq]; omega)]; rfl
  rw [if_neg q1]
  by_cases q2 : E[i].To=a
  ·rw [if_pos q2,ih _ (by omega),if_neg (by unfold egP; rw [decide_eq_true_eq]; omega)]; rfl
  rw [if_neg q2]
  by_cases q3 : E[i].From=b
  ·rw [if_pos q3,ih _ (by omega),if_neg (by unfold egP; rw [decide_eq_true_eq]; omega)]; rfl
  rw [if_neg q3,AgP k _ (by omega),AaP,AgP k _ (by omega),AaP,w64 (n:=2+2*E[i].From+1) (by omega) (by omega)]
  have key : ∀ u v : Int,egM a b E[i]=⟨u,v,1⟩→AaR.J6 k (i : Int) acc u (fun v14_ v15_=>AaR.L3 k E lv a b M n v14_ v15_) v=some (M,acc++((if egP lv a b E[i] then [egM a b E[i]] else [])++egA lv a b (E.drop (i+1)))):=by
   intro u v q
   unfold AaR.J6 AaR.J4
   rw [AaT (by simp only [List.length_cons,List.length_nil]; omega)]
   simp only [AdA i (by omega)]
   rw [ih _ (by simp; omega),if_pos (by unfold egP; rw [decide_eq_true_eq]; omega),q,List.append_assoc]
  unfold AaR.J5
  by_cases q4 : E[i].From=a <;> by_cases q5 : E[i].To=b
  ·rw [if_pos q4,if_pos q5]; exact key _ _ (by unfold egM; rw [if_pos q4,if_pos q5])
  ·rw [if_pos q4,if_neg q5]; exact key _ _ (by unfold egM; rw [if_pos q4,if_neg q5])
  ·rw [if_neg q4,if_pos q5]; exact key _ _ (by unfold egM; rw [if_neg q4,if_pos q5]; congr 1; omega)
  ·rw [if_neg q4,if_neg q5]; exact key _ _ (by unfold egM; rw [if_neg q4,if_neg q5]; congr 1; omega)
theorem AsA (k N : Nat) (E : List AaA) (lv a b M : Int) (hN : N≤1001) (h9 : E.length≤100001) (hk : E.length<k) (hE : ∀ e ∈ E,0≤e.From∧e.From≤100001∧0≤e.To∧e.To≤100001) : ∀ (m i n : Nat),i+m=N→m<n→AaR.L1 k (N : Int) E lv a b M n (i : Int) (ndA a b i)=some (M,AcO N E lv a b)
 | 0,i,n+1,e,_=>by
  have : i=N:=by omega
  subst this
  have hl:=AfJ a b i
  have:=Ar9 k E lv a b M h9 hE E.length 0 k (ndA a b i) (by omega) hk (by omega)
  rw [AaR.L1,if_neg (by omega)]
  exact this
 | m+1,i,n+1,e,hn=>by
  have ih:=AsA k N E lv a b M hN h9 hk hE m (i+1) n (by omega) (by omega)
  have hl:=AfJ a b i
  rw [AaR.L1,if_pos (by omega)]
  unfold AaR.J2
  simp only [AdA i (by omega)]
  rw [Al9] at ih
  by_cases q1 : (i : Int)≠a
  ·rw [if_pos q1]
   by_cases q2 : (i : Int)≠b
   ·rw [if_pos q2,AgP k _ (by omega),AaP,AaP,w64 (n:=2+2*(i : Int)+1) (by omega) (by omega),AaT (by simp only [List.length_cons,List.length_nil]; omega)]
    rw [if_pos ⟨q1,q2⟩] at ih
    rw [show 2+2*(i : Int)+1=3+2*(i : Int) by omega]; exact ih
   ·rw [if_neg q2]; rw [if_neg (by omega),List.append_nil] at ih; exact ih
  ·rw [if_neg q1]; rw [if_neg (by omega),List.append_nil] at ih; exact ih
theorem Aht (k N : Nat) (E : List AaA) (g : List Int) (lv a b : Int) (hN : N≤1001) (h9 : E.length≤100001) (hk : E.length<k) (hk2 : N<k) (hE : ∀ e ∈ E,0≤e.From∧e.From≤100001∧0≤e.To∧e.To≤100001) : AaR k (N : Int) E g lv a b=some (((2+2*N : Nat) : Int),AcO N E lv a b):=by
 unfold AaR
 rw [AgP k _ (by omega),AaP]
 have:=AsA k N E lv a b (2+2*(N : Int)) hN h9 hk hE N 0 k (by omega) hk2
 rw [show ((2+2*N : Nat) : Int)=2+2*(N : Int) by omega]; exact this
theorem AjZ {a b : Int} {i : Nat} {x : AaE} : x ∈ ndA a b i↔∃ v : Int,0≤v∧v<i∧v≠a∧v≠b∧x=⟨2+2*v,3+2*v,1⟩:=by
 unfold ndA
 simp only [List.mem_map,List.mem_filter,decide_eq_true_eq,Ala,List.mem_range]
 constructor
 ·rintro ⟨v,⟨⟨n,hn,rfl⟩,h1,h2⟩,rfl⟩; exact ⟨n,by omega,by omega,h1,h2,rfl⟩
 ·rintro ⟨v,h0,h1,h2,h3,rfl⟩; exact ⟨v,⟨⟨v.toNat,by omega,by omega⟩,h2,h3⟩,rfl⟩
theorem Aja {lv a b : Int} {E : List AaA} {x : AaE} : x ∈ egA lv a b E↔∃ e ∈ E,lv≤e.Level∧e.To≠a∧e.From≠b∧x=egM a b e:=by
 unfold egA
 simp only [List.mem_map,List.mem_filter,egP,decide_eq_true_eq]
 constructor
 ·rintro ⟨e,⟨h,h1,h2,h3⟩,rfl⟩; exact ⟨e,h,h1,h2,h3,rfl⟩
 ·rintro ⟨e,h,h1,h2,h3,rfl⟩; exact ⟨e,⟨h,h1,h2,h3⟩,rfl⟩
theorem AjQ {N : Nat} {E : List AaA} {lv a b : Int} (hN : N≤64) (hE : inE N E) (h5 : E.length≤500) (hab : 0≤a∧a<N∧0≤b∧b<N∧a≠b) : NV (2+2*N) (AcO N E lv a b):=by
 have l1:=AfJ a b N; have l2:=Ajk lv a b E
 refine ⟨by omega,by omega,by unfold AcO; rw [List.length_append]; omega,fun x hx=>?_⟩
 unfold AcO at hx
 rcases List.mem_append.1 hx with hx | hx
 ·obtain ⟨v,h0,h1,h2,h3,rfl⟩:=AjZ.1 hx
  simp only []; omega
 ·obtain ⟨e,he,h1,h2,h3,rfl⟩:=Aja.1 hx
  have:=hE e he
  unfold egM
  simp only []
  split <;> split <;> omega
structure Agk (N : Nat) (E : List AaA) (lv a b v : Int) : Prop where
 no : Afh N lv a b=false→v=0
 yes : Afh N lv a b=true→Mf.Least (ar (AcO N E lv a b)) v
 r0 : 0≤v
 r1 : v≤1000001
theorem AqM {N : Nat} {E : List AaA} {lv a b : Int} : ∀ x ∈ AcO N E lv a b,x.Cap=1:=by
 intro x hx
 unfold AcO at hx
 rcases List.mem_append.1 hx with hx | hx
 ·obtain ⟨v,_,_,_,_,rfl⟩:=AjZ.1 hx; rfl
 ·obtain ⟨e,_,_,_,_,rfl⟩:=Aja.1 hx; rfl
theorem Aln : ∀ {A : List AaE} (S : Int→Bool),(∀ x ∈ A,x.Cap=1)→Mf.capS (ar A) S≤A.length
 | [],S,_=>by simp [ar,Mf.capS]
 | x::A,S,h=>by
  have ih:=Aln (A:=A) S fun y hy=>h y (by simp [hy])
  have hx:=h x (by simp)
  have e : Mf.capS (ar (x::A)) S=Mf.b2 (S x.From=true∧S x.To=false)*x.Cap+Mf.capS (ar A) S:=by simp [ar,Mf.capS]
  rw [e,hx]
  have : Mf.b2 (S x.From=true∧S x.To=false)≤1:=by unfold Mf.b2; split <;> omega
  simp only [List.length_cons]; omega
theorem Ahr {N : Nat} {E : List AaA} {lv a b : Int} (nv : NV (2+2*N) (AcO N E lv a b)) : ∀ g,Mf.Flow (2+2*N) (ar (AcO N E lv a b)) g→Mf.val (ar (AcO N E lv a b)) g≤((1200 : Nat) : Int):=by
 intro g hg
 have h1:=Mf.val_le nv.net hg (fun v=>decide (v=0)) (by simp) (by simp)
 have h2:=Aln (A:=AcO N E lv a b) (fun v=>decide (v=0)) AqM
 have:=nv.len
 omega
theorem Agk.mk' {N : Nat} {E : List AaA} {lv a b v : Int} (h1 : Afh N lv a b=false→v=0) (h2 : Afh N lv a b=true→Mf.Least (ar (AcO N E lv a b)) v) (h3 : 0≤v) (h4 : v≤1000001) : Agk N E lv a b v:=⟨h1,h2,h3,h4⟩
theorem Ald {N : Nat} {E : List AaA} {lv a b : Int} (nv : NV (2+2*N) (AcO N E lv a b)) (ha : Afh N lv a b=true) {f : List Int} (d : Amq (2+2*N) (AcO N E lv a b) f) : Agk N E lv a b (Mf.val (ar (AcO N E lv a b)) f):=by
 have h1:=d.rng nv
 have h2:=Ahr nv f d.fl
 exact .mk' (fun h=>by rw [ha] at h; cases h) (fun _=>d.least nv) h1.1 (by omega)
theorem Aoq (k N : Nat) (E : List AaA) (g : List Int) (lv a b : Int) (hN : N≤64) (hE : inE N E) (h5 : E.length≤500) (hk : 1300<k) : ∃ v,AdQ k (N : Int) E g lv a b=some v∧Agk N E lv a b v:=by
 unfold AdQ
 rw [Ajs k _ _ _ _ _ _ (by omega),AaP]
 cases ha : Afh N lv a b with
 | false=>exact ⟨0,by simp,.mk' (fun _=>rfl) (fun h=>by rw [ha] at h; cases h) (by omega) (by omega)⟩
 | true =>
  have hq:=ha
  unfold Afh at hq; rw [decide_eq_true_eq] at hq
  have nv:=AjQ (lv:=lv) hN hE h5 ⟨hq.2.2.1,hq.2.2.2.1,hq.2.2.2.2.1,hq.2.2.2.2.2.1,hq.2.2.2.2.2.2⟩
  have l1:=nv.len
  have l2 : (AcO N E lv a b).length≤564:=by
   have:=AfJ a b N; have:=Ajk lv a b E
   unfold AcO; rw [List.length_append]; omega
  obtain ⟨f,f1,f2⟩:=Anu k (2+2*N) (AcO N E lv a b) nv (by omega) (by omega) 1200 (Ahr nv) (by omega)
  rw [if_neg (by simp),Aht k N E g lv a b (by omega) (by omega) (by omega) (by omega) (fun e he=>by have:=hE e he; omega),AbK,f1,AbK,AiC k (2+2*N) _ f nv f2.fl (by omega),AaP]
  exact ⟨_,rfl,Ald nv ha f2⟩
end Go.TF
