import Derived.Test.YtelffnegemdicaaMdtPla37
set_option linter.unusedVariables false
set_option linter.unusedSimpArgs false
namespace Go.TF
open Go Go.Abs
theorem Apn (k N : Nat) (hN : N<k) (h9 : N≤1000000) (l : List Int) (hl : l.length=N) (hs : l.Pairwise (· < ·)) : ∀ (m i n : Nat),1≤i→i+m=N→m<n→AaL.L1 k 0 (N : Int) n (i : Int) l=some l
 | 0,i,n+1,_,h,_=>by rw [AaL.L1,if_neg (by omega)]
 | m+1,i,n+1,h1,h,hn=>by
  rw [AaL.L1,if_pos (by omega)]
  obtain ⟨j,rfl⟩ : ∃ j,i=j+1:=⟨i-1,by omega⟩
  obtain ⟨q,rfl⟩ : ∃ q,k=q+1:=⟨k-1,by omega⟩
  have hj : j<l.length:=by omega
  have hj1 : j+1<l.length:=by omega
  have hlt : l[j]<l[j+1]:=by
   rw [List.pairwise_iff_getElem] at hs; exact hs j (j+1) hj hj1 (by omega)
  rw [AaL.L3,if_pos (by omega),AaT (by omega),Aae hj1,ArN j (by omega),AaT (by omega),Aae hj,Aqi,AaP,if_neg (by simp; omega)]
  unfold AaL.J2
  rw [AdA (j+1) (by omega)]
  exact Apn (q+1) N hN h9 l hl hs m (j+2) n (by omega) (by omega) (by omega)
theorem AqB (k : Nat) (l : List Int) (hl : l.length≤12) (hk : 20<k) (hs : l.Pairwise (· < ·)) : AcB k l=some l:=by
 unfold AcB
 have h0 : Acn k (IntKind.wrap .u64 (l.length : Int))=Acn 0 (IntKind.wrap .u64 (l.length : Int)):=rfl
 have h1:=AuL ⟨l.length,by omega⟩
 obtain ⟨v,hv⟩:=Option.isSome_iff_exists.1 h1
 simp only at hv
 rw [h0,hv,AaP]
 unfold Aa2
 obtain ⟨q,rfl⟩ : ∃ q,k=q+1:=⟨k-1,by omega⟩
 rw [Aa2.L1,w64 (by omega) (by omega),if_pos (by omega)]
 unfold AaL
 by_cases e : l.length=0
 ·rw [w64 (by omega) (by omega),AaL.L1,if_neg (by omega),AaP,AaT rfl,AaP,AaT rfl]
 ·have:=Apn (q+1) l.length (by omega) (by omega) l rfl hs (l.length-1) 1 (q+1) (by omega) (by omega) (by omega)
  rw [show IntKind.wrap .i64 ((0 : Int)+1)=((1 : Nat) : Int) from AdA 0 (by omega),this,AaP,AaT rfl,AaP,AaT rfl]
theorem Ahx (k : Nat) (E : List AaA) (x : Int) (h9 : E.length≤1000000) (ho : (outs E x).length≤12) (hs : (outs E x).Pairwise (· < ·)) (hk : 20<k) : ∀ (m i n : Nat) (acc : List Int),i+m=E.length→m<n→acc=outs (E.take i) x→AbH.L1 k E x n (i : Int) acc=some (outs E x)
 | 0,i,n+1,acc,h,_,ha=>by
  have : acc=outs E x:=by rw [ha,List.take_of_length_le (by omega)]
  subst this
  rw [AbH.L1,if_neg (by omega),AqB k _ ho hk hs,AaP,AaT rfl]
 | m+1,i,n+1,acc,h,hn,ha=>by
  have hi : i<E.length:=by omega
  have e : outs (E.take (i+1)) x=outs (E.take i) x++if E[i].From=x then [E[i].To] else []:=by
   rw [List.take_succ_eq_append_getElem hi]
   unfold outs
   rw [List.filter_append,List.map_append]
   congr 1
   rw [List.filter_cons]
   by_cases q : E[i].From=x
   ·rw [if_pos (by simpa using q),if_pos q]; rfl
   ·rw [if_neg (by simpa using q),if_neg q]; rfl
  have la : acc.length≤i:=by
   rw [ha]; unfold outs; rw [List.length_map]
   exact Nat.le_trans (List.length_filter_le _ _) (by rw [List.length_take]; omega)
  rw [AbH.L1,if_pos (by omega),Aae hi]
  unfold AbH.J2
  simp only [AdA i (by omega)]
  by_cases q : E[i].From=x
  ·rw [if_pos q,AaT (by simp only [List.length_cons,List.length_nil]; omega)]
   exact Ahx k E x h9 ho hs hk m (i+1) n _ (by omega) (by omega) (by rw [e,if_pos q,ha])
  ·rw [if_neg q]
   exact Ahx k E x h9 ho hs hk m (i+1) n _ (by omega) (by omega) (by rw [e,if_neg q,ha,List.append_nil])
theorem AqS (k : Nat) (N : Int) (E : List AaA) (g : List Int) (x : Int) (h9 : E.length≤1000000) (hE : E.length<k) (ho : (outs E x).length≤12) (hs : (outs E x).Pairwise (· < ·)) (hk : 20<k) : AbH k N E g x=some (outs E x) :=
 Ahx k E x h9 ho hs hk E.length 0 k [] (by omega) hE (by simp [outs])
def usB (m : List (Int×Bool)) (y : Int) : Bool:=(AcI m y).getD false
def stB (m : List (Int×Bool)) (a b : Int) (dr : Bool) (u y : Int) : Bool:=usB m y||(decide (u=a∧y=b)&&dr)
theorem Apb (k : Nat) (y N : Int) (E : List AaA) (g : List Int) (lv a b : Int) (m : List (Int×Bool)) (dr : Bool) (u : Int) : Abp k y N E g lv a b m dr u=some (stB m a b dr u y):=by
 unfold Abp stB usB AgR
 have e : (if u=a then if y=b then some dr else some false else some false)=some (decide (u=a∧y=b)&&dr):=by
  by_cases h1 : u=a <;> by_cases h2 : y=b <;> simp [h1,h2]
 rw [e]
 cases AcI m y with
 | none=>simp
 | some v=>cases v <;> simp
theorem Akj (k : Nat) (L : List Int) (N : Int) (E : List AaA) (g : List Int) (lv a b : Int) (mm : List (Int×Bool)) (dr : Bool) (u : Int) (h9 : L.length≤1000000) : ∀ (m i n : Nat),i+m=L.length→m<n→(∀ x ∈ L.take i,(!stB mm a b dr u x)=true)→∃ r,Aab.L1 k L N E g lv a b mm dr u n (i : Int)=some r ∧
 ((r = -1∧∀ x ∈ L,(!stB mm a b dr u x)=true)∨∃ j : Nat,∃ h : j<L.length,r=(j : Int)∧(!stB mm a b dr u L[j])=false∧∀ x ∈ L.take j,(!stB mm a b dr u x)=true)
 | 0,i,n+1,e,_,ha=>by
  rw [Aab.L1,if_neg (by omega)]
  exact ⟨-1,rfl,.inl ⟨rfl,fun x hx=>ha x (by rw [List.take_of_length_le (by omega)]; exact hx)⟩⟩
 | m+1,i,n+1,e,hn,ha=>by
  have hi : i<L.length:=by omega
  rw [Aab.L1,if_pos (by omega),AaT (by omega),Aae hi,Apb,AaP]
  by_cases q : stB mm a b dr u L[i]=true
  ·rw [if_pos q]; exact ⟨i,rfl,.inr ⟨i,hi,rfl,by simp [q],ha⟩⟩
  ·rw [if_neg q,AdA i (by omega)]
   refine Akj k L N E g lv a b mm dr u h9 m (i+1) n (by omega) (by omega) fun x hx=>?_
   rw [List.take_succ_eq_append_getElem hi,List.mem_append,List.mem_singleton] at hx
   rcases hx with hx | rfl
   ·exact ha x hx
   ·simpa using q
theorem AiF (k : Nat) (L : List Int) (N : Int) (E : List AaA) (g : List Int) (lv a b : Int) (mm : List (Int×Bool)) (dr : Bool) (u : Int) (h9 : L.length≤1000000) : ∀ (m j i n : Nat) (l : List Int),j+m=L.length→m<n→Del (fun x => !stB mm a b dr u x) L l i j→AaQ.L1 k N E g lv a b mm dr u n (i : Int) (j : Int) l=some (L.filter fun x => !stB mm a b dr u x)
 | 0,j,i,n+1,l,e,_,D=>by
  have h1:=D.len; have h2:=D.lt; have h3:=D.le
  rw [AaQ.L1,if_neg (by omega),AaT (by omega),AaT (by omega)]
  unfold Anh
  simp only []
  rw [show ((i : Int)).toNat=i by omega,AaT (by simp; omega),Aly (by omega),D.kept,List.take_of_length_le (by omega)]
 | m+1,j,i,n+1,l,e,hn,D=>by
  have h1:=D.len; have h2:=D.lt; have h3:=D.le
  have hj : j<L.length:=by omega
  rw [AaQ.L1,if_pos (by omega),AaT (by omega),Aae (show j<l.length by omega),Apb,AaP,D.at (by omega)]
  unfold AaQ.J2
  simp only [AdA j (by omega),AdA i (by omega)]
  by_cases q : (!stB mm a b dr u L[j])=true
  ·rw [if_pos q,AaT (by omega),show ((i : Int)).toNat=i by omega]
   exact AiF k L N E g lv a b mm dr u h9 m (j+1) (i+1) n _ (by omega) (by omega) (D.keep hj q)
  ·rw [if_neg q]
   exact AiF k L N E g lv a b mm dr u h9 m (j+1) i n _ (by omega) (by omega) (D.pass hj (by simpa using q))
theorem Aqu (k : Nat) (L : List Int) (N : Int) (E : List AaA) (g : List Int) (lv a b : Int) (mm : List (Int×Bool)) (dr : Bool) (u : Int) (hk : L.length<k) (h9 : L.length≤1000000) : AaQ k L N E g lv a b mm dr u=some (L.filter fun x => !stB mm a b dr u x):=by
 unfold AaQ Aab
 obtain ⟨r,e1,h⟩:=Akj k L N E g lv a b mm dr u h9 L.length 0 k (by omega) hk (by simp)
 rw [show Aab.L1 k L N E g lv a b mm dr u k 0=some r from e1,AaP]
 rcases h with ⟨rfl,h⟩ | ⟨j,hj,rfl,h1,h2⟩
 ·rw [if_pos rfl,List.filter_eq_self.2 h]
 ·rw [if_neg (by omega),AdA j (by omega)]
  exact AiF k L N E g lv a b mm dr u h9 (L.length-(j+1)) (j+1) j k L (by omega) (by omega) (Del.first hj h2 h1)
def stp (E : List AaA) (lv a b : Int) (m : List (Int×Bool)) (dr : Bool) (u : Int) : List Int:=(outs (E.filter (lvE lv)) u).filter fun y => !stB m a b dr u y
theorem Aoe (k : Nat) (N : Int) (E : List AaA) (g : List Int) (lv a b : Int) (m : List (Int×Bool)) (dr : Bool) (u : Int) (hE : E.length<k) (h9 : E.length≤1000000) (hg9 : g.length≤1000000) (ho : (outs (E.filter (lvE lv)) u).length≤12) (hs : (outs (E.filter (lvE lv)) u).Pairwise (· < ·)) (hk : 20<k) : AbU k N E g lv a b m dr u=some (stp E lv a b m dr u):=by
 have hl:=List.length_filter_le (lvE lv) E
 unfold AbU
 rw [Ann k N E g lv hE (by omega) hg9,Ado,AqS k N _ g u (by omega) (by omega) ho hs hk,AaP,Aqu k _ N E g lv a b m dr u (by omega) (by omega),AaP]
 rfl
theorem Ap9 {E : List AaA} {lv a b : Int} {m : List (Int×Bool)} {dr : Bool} {u : Int} (hE : E.Pairwise fun a b=>bef a b=true) : (stp E lv a b m dr u).Pairwise (· < ·):=(AhQ _ u (hE.filter _)).filter _
theorem Aqg {E : List AaA} {lv a b : Int} {m : List (Int×Bool)} {dr : Bool} {u y : Int} : y ∈ stp E lv a b m dr u↔(∃ e ∈ E,lv≤e.Level∧e.From=u∧e.To=y)∧usB m y=false∧¬ (u=a∧y=b∧dr=true):=by
 unfold stp stB
 rw [List.mem_filter,AdG]
 simp only [List.mem_filter,lvE,decide_eq_true_eq,Bool.not_or,Bool.and_eq_true,Bool.not_eq_true',Bool.and_eq_false_imp]
 constructor
 ·rintro ⟨⟨e,⟨he,h1⟩,h2,h3⟩,h4,h5⟩
  exact ⟨⟨e,he,h1,h2,h3⟩,h4,fun q=>by have:=h5 ⟨q.1,q.2.1⟩; rw [q.2.2] at this; cases this⟩
 ·rintro ⟨⟨e,he,h1,h2,h3⟩,h4,h5⟩
  refine ⟨⟨e,⟨he,h1⟩,h2,h3⟩,h4,fun q=>?_⟩
  cases dr with
  | false=>rfl
  | true=>exact absurd ⟨q.1,q.2,rfl⟩ h5
end Go.TF
set_option linter.unusedVariables false
set_option linter.unusedSimpArgs false
namespace Go.TF
open Go Go.Abs
structure BI (N a : Int) (Q : Int→Int→Prop) (D : List Int) (f : Int→Int) (fm : List (Int×Int)) (bm : List (Int×List Int)) : Prop where
 nd : D.Nodup
 rg : ∀ v ∈ D,0≤v∧v<N
 fg : ∀ v,AcI fm v=if v ∈ D then some (f v) else none
 a0 : a ∈ D∧f a=0
 pr : ∀ v ∈ D,v≠a→∃ w,Q w v∧f v=f w+1
 cl : ∀ w y,Q w y→w ∈ D∧y ∈ D∧f y≤f w+1
 so : D.Pairwise fun x y=>f x≤f y
 ix : ∀ (i : Nat) (h : i<D.length),0≤f D[i]∧f D[i]≤i
 be : ∀ w y,w ∈ (AcI bm y).getD []↔Q w y∧f y=f w+1
 bk : KN bm∧∀ x ∈ bm.map (·.1),x ∈ D
theorem BI.congr {N a : Int} {Q Q' : Int→Int→Prop} {D : List Int} {f : Int→Int} {fm : List (Int×Int)} {bm : List (Int×List Int)} (h : BI N a Q D f fm bm) (e : ∀ w z,Q w z↔Q' w z) : BI N a Q' D f fm bm:=by
 have : Q=Q':=funext fun w=>funext fun z=>propext (e w z)
 subst this; exact h
theorem BI.len {N : Nat} {a : Int} {Q : Int→Int→Prop} {D : List Int} {f : Int→Int} {fm : List (Int×Int)} {bm : List (Int×List Int)} (h : BI N a Q D f fm bm) : D.length≤N:=nodup_range N D h.nd h.rg
theorem BI.blen {N : Nat} {a : Int} {Q : Int→Int→Prop} {D : List Int} {f : Int→Int} {fm : List (Int×Int)} {bm : List (Int×List Int)} (h : BI N a Q D f fm bm) : bm.length≤N:=by
 have:=nodup_range N (bm.map fun p : Int×List Int=>p.1) (show (bm.map (·.1)).Nodup from h.bk.1) fun x hx=>h.rg x (h.bk.2 x hx)
 simpa using this
theorem BI.f0 {N : Nat} {a : Int} {Q : Int→Int→Prop} {D : List Int} {f : Int→Int} {fm : List (Int×Int)} {bm : List (Int×List Int)} (h : BI N a Q D f fm bm) {v : Int} (hv : v ∈ D) : 0≤f v∧f v<N:=by
 obtain ⟨i,hi,rfl⟩:=List.mem_iff_getElem.1 hv
 have:=h.ix i hi; have:=h.len; omega
theorem BI.add {N : Nat} {a : Int} {Q : Int→Int→Prop} {P W : List Int} {f : Int→Int} {fm : List (Int×Int)} {bm : List (Int×List Int)} {u y : Int} {r : List Int} (h : BI N a Q (P++W) f fm bm) (hW : W=u::r) (hw : ∀ v ∈ W,f v≤f u+1) (hy : y ∉ P++W) (yr : 0≤y∧y<N) :
 BI N a (fun w z=>Q w z∨(w=u∧z=y)) (P++(W++[y])) (fun v=>if v=y then f u+1 else f v) (AbE fm y (f u+1)) (AbE bm y ((AcI bm y).getD []++[u])):=by
 have hu : u ∈ P++W:=by rw [hW]; simp
 have huy : u≠y:=fun e=>hy (e ▸ hu)
 have ne : ∀ v,v ∈ P++W→v≠y:=fun v hv e=>hy (e ▸ hv)
 have hB : (AcI bm y).getD [] = []:=by
  rw [List.eq_nil_iff_forall_not_mem]
  intro w hw'
  exact hy (h.cl w y ((h.be w y).1 hw').1).2.1
 have le : ∀ x ∈ P++W,f x≤f u+1:=by
  intro x hx
  rcases List.mem_append.1 hx with hx | hx
  ·have so:=h.so
   rw [List.pairwise_append] at so
   have:=so.2.2 x hx u (by rw [hW]; simp)
   omega
  ·exact hw x hx
 rw [← List.append_assoc]
 refine ⟨?_,?_,?_,?_,?_,?_,?_,?_,?_,?_⟩
 ·rw [List.nodup_append]
  refine ⟨h.nd,by simp,fun x hx z hz=>?_⟩
  rw [List.mem_singleton] at hz
  subst hz; exact ne x hx
 ·intro v hv
  rcases List.mem_append.1 hv with hv | hv
  ·exact h.rg v hv
  ·rw [List.mem_singleton] at hv; subst hv; exact yr
 ·intro v
  rw [AcC,h.fg v]
  by_cases e : v=y
  ·subst e; simp
  ·rw [if_neg e]
   by_cases q : v ∈ P++W
   ·rw [if_pos q,if_pos (List.mem_append_left _ q),if_neg e]
   ·rw [if_neg q,if_neg (by rw [List.mem_append,List.mem_singleton]; exact fun z=>z.elim q e)]
 ·exact ⟨List.mem_append_left _ h.a0.1,by rw [if_neg (ne a h.a0.1)]; exact h.a0.2⟩
 ·intro v hv hva
  rcases List.mem_append.1 hv with hv | hv
  ·obtain ⟨w,q1,q2⟩:=h.pr v hv hva
   refine ⟨w,.inl q1,?_⟩
   rw [if_neg (ne v hv),if_neg (ne w (h.cl w v q1).1)]; exact q2
  ·rw [List.mem_singleton] at hv
   subst hv
   refine ⟨u,.inr ⟨rfl,rfl⟩,?_⟩
   rw [if_pos rfl,if_neg huy]
 ·rintro w z (q | ⟨rfl,rfl⟩)
  ·obtain ⟨c1,c2,c3⟩:=h.cl w z q
   refine ⟨List.mem_append_left _ c1,List.mem_append_left _ c2,?_⟩
   rw [if_neg (ne z c2),if_neg (ne w c1)]; exact c3
  ·refine ⟨List.mem_append_left _ hu,by simp,?_⟩
   rw [if_pos rfl,if_neg huy]; omega
 ·rw [List.pairwise_append]
  refine ⟨?_,by simp,fun x hx z hz=>?_⟩
  ·refine List.Pairwise.imp_of_mem (fun {x z} hx hz q=>?_) h.so
   rw [if_neg (ne x hx),if_neg (ne z hz)]; exact q
  ·rw [List.mem_singleton] at hz
   subst hz
   rw [if_neg (ne x hx),if_pos rfl]; exact le x hx
 ·intro i hi
  by_cases q : i<(P++W).length
  ·rw [List.getElem_append_left q,if_neg (ne _ (List.getElem_mem q))]
   exact h.ix i q
  ·have e : ((P++W)++[y])[i]=y:=by
    rw [List.getElem_append_right (by omega)]; simp
   rw [e,if_pos rfl]
   have hP : P.length<(P++W).length:=by rw [hW]; simp
   have hup : (P++W)[P.length]=u:=by
    rw [List.getElem_append_right (by omega)]; simp [hW]
   have:=h.ix P.length hP
   rw [hup] at this
   omega
 ·intro w z
  rw [AcC]
  by_cases e : z=y
  ·subst e
   rw [if_pos rfl,hB]
   simp only [Option.getD_some,List.nil_append,List.mem_singleton]
   constructor
   ·rintro rfl
    refine ⟨.inr (by simp),?_⟩
    rw [if_neg huy]; simp
   ·rintro ⟨q | q,_⟩
    ·exact absurd (h.cl w z q).2.1 hy
    ·exact q.1
  ·rw [if_neg e,h.be w z,if_neg e]
   constructor
   ·rintro ⟨q1,q2⟩
    exact ⟨.inl q1,by rw [if_neg (ne w (h.cl w z q1).1)]; exact q2⟩
   ·rintro ⟨q | q,q2⟩
    ·exact ⟨q,by rw [if_neg (ne w (h.cl w z q).1)] at q2; exact q2⟩
    ·exact absurd q.2 e
 ·refine ⟨h.bk.1.put _ _,fun x hx=>?_⟩
  rcases AhU _ _ _ _ hx with q | q
  ·exact List.mem_append_left _ (h.bk.2 x q)
  ·subst q; simp
theorem BI.too {N : Nat} {a : Int} {Q : Int→Int→Prop} {P W : List Int} {f : Int→Int} {fm : List (Int×Int)} {bm : List (Int×List Int)} {u y : Int} {r : List Int} (h : BI N a Q (P++W) f fm bm) (hW : W=u::r) (hw : ∀ v ∈ W,f v≤f u+1) (hy : y ∈ P++W) :
 (f y=f u+1→BI N a (fun w z=>Q w z∨(w=u∧z=y)) (P++W) f fm (AbE bm y ((AcI bm y).getD []++[u])))∧(f y≠f u+1→BI N a (fun w z=>Q w z∨(w=u∧z=y)) (P++W) f fm bm):=by
 have hu : u ∈ P++W:=by rw [hW]; simp
 have le : ∀ x ∈ P++W,f x≤f u+1:=by
  intro x hx
  rcases List.mem_append.1 hx with hx | hx
  ·have so:=h.so
   rw [List.pairwise_append] at so
   have:=so.2.2 x hx u (by rw [hW]; simp)
   omega
  ·exact hw x hx
 have pr : ∀ v ∈ P++W,v≠a→∃ w,(Q w v∨(w=u∧v=y))∧f v=f w+1:=fun v hv hva=>by
  obtain ⟨w,q1,q2⟩:=h.pr v hv hva
  exact ⟨w,.inl q1,q2⟩
 have cl : ∀ w z,(Q w z∨(w=u∧z=y))→w ∈ P++W∧z ∈ P++W∧f z≤f w+1:=by
  rintro w z (q | ⟨rfl,rfl⟩)
  ·exact h.cl w z q
  ·exact ⟨hu,hy,le z hy⟩
 refine ⟨fun e=>⟨h.nd,h.rg,h.fg,h.a0,pr,cl,h.so,h.ix,fun w z=>?_,h.bk.1.put _ _,fun x hx=>?_⟩,fun e=>⟨h.nd,h.rg,h.fg,h.a0,pr,cl,h.so,h.ix,fun w z=>?_,h.bk⟩⟩
 ·rw [AcC]
  by_cases q : z=y
  ·subst q
   rw [if_pos rfl]
   simp only [Option.getD_some,List.mem_append,List.mem_singleton]
   rw [h.be w z]
   constructor
   ·rintro (⟨q1,q2⟩ | rfl)
    ·exact ⟨.inl q1,q2⟩
    ·exact ⟨.inr (by simp),e⟩
   ·rintro ⟨q1 | q1,q2⟩
    ·exact .inl ⟨q1,q2⟩
    ·exact .inr q1.1
  ·rw [if_neg q,h.be w z]
   constructor
   ·rintro ⟨q1,q2⟩; exact ⟨.inl q1,q2⟩
   ·rintro ⟨q1 | q1,q2⟩
    ·exact ⟨q1,q2⟩
    ·exact absurd q1.2 q
 ·rcases AhU _ _ _ _ hx with q | q
  ·exact h.bk.2 x q
  ·exact q ▸ hy
 ·rw [h.be w z]
  constructor
  ·rintro ⟨q1,q2⟩; exact ⟨.inl q1,q2⟩
  ·rintro ⟨q1 | q1,q2⟩
   ·exact ⟨q1,q2⟩
   ·exfalso; apply e; rw [← q1.2,← q1.1]; exact q2
theorem AmM {bm : List (Int×List Int)} {c : Nat} {y u : Int} (hl : ∀ z,((AcI bm z).getD []).length≤c) : ∀ z,((AcI (AbE bm y ((AcI bm y).getD []++[u])) z).getD []).length≤c+1:=by
 intro z
 rw [AcC]
 have h1:=hl z; have h2:=hl y
 split
 ·simp only [Option.getD_some,List.length_append,List.length_cons,List.length_nil]; omega
 ·omega
theorem AsH (k N : Nat) (hN : N≤64) (a u : Int) (S P : List Int) (hS : ∀ y ∈ S,0≤y∧y<N) (hS9 : S.length≤100001) (kb : Nat→(List (Int×Int))→(List (Int×(List Int)))→(List Int)→Option (List Int)) : ∀ (m i n o : Nat) (fm : List (Int×Int)) (bm : List (Int×List Int)) (q : List Int) (Q : Int→Int→Prop) (f : Int→Int) (r : List Int) (c : Nat),
 i+m=S.length→m<n→BI N a Q (P++q.drop o) f fm bm→q.drop o=u::r→(∀ v ∈ q.drop o,f v≤f u+1)→(∀ y,((AcI bm y).getD []).length≤c)→c+m≤1000000 →
 ∃ (o' : Nat) (fm' : List (Int×Int)) (bm' : List (Int×List Int)) (q' : List Int) (f' : Int→Int) (r' : List Int),AaB.L2 k u S kb n o (i : Int) fm bm q=kb (o'+1) fm' bm' q'∧BI N a (fun w z=>Q w z∨(w=u∧z ∈ S.drop i)) (P++q'.drop o') f' fm' bm'∧q'.drop o'=u::r'∧(∀ v ∈ q'.drop o',f' v≤f' u+1)∧(∀ y,((AcI bm' y).getD []).length≤c+m)
 | 0,i,n+1,o,fm,bm,q,Q,f,r,c,e,_,h,hq,hw,hl,hc=>by
  have l1 : o<q.length:=by
   have:=congrArg List.length hq
   rw [List.length_drop,List.length_cons] at this; omega
  rw [AaB.L2,if_neg (by omega),AaT (by omega)]
  refine ⟨o,fm,bm,q,f,r,rfl,h.congr fun w z=>?_,hq,hw,hl⟩
  rw [List.drop_of_length_le (by omega)]; simp
 | m+1,i,n+1,o,fm,bm,q,Q,f,r,c,e,hn,h,hq,hw,hl,hc=>by
  have hi : i<S.length:=by omega
  have yr:=hS _ (List.getElem_mem hi)
  have l1 : o<q.length:=by
   have:=congrArg List.length hq
   rw [List.length_drop,List.length_cons] at this; omega
  have hu : u ∈ P++q.drop o:=by rw [hq]; simp
  have fu:=h.f0 hu
  have lD:=h.len
  have lW : (q.drop o).length≤64:=by rw [List.length_append] at lD; omega
  have bl:=h.blen
  have gu : AcI fm u=some (f u):=by rw [h.fg u,if_pos hu]
  have wu : IntKind.wrap .i64 (f u+1)=f u+1:=w64 (by omega) (by omega)
  have ih:=fun o fm bm q Q f r c=>AsH k N hN a u S P hS hS9 kb m (i+1) n o fm bm q Q f r c (by omega) (by omega)
  rw [AaB.L2,if_pos (by omega),Aae hi]
  obtain ⟨y,hy⟩ : ∃ y,S[i]=y:=⟨_,rfl⟩
  rw [hy] at yr ⊢
  have hd : S.drop i=y::S.drop (i+1):=by rw [List.drop_eq_getElem_cons hi,hy]
  have fin : ∀ (o1 : Nat) (fm1 : List (Int×Int)) (bm1 : List (Int×List Int)) (q1 : List Int) (f1 : Int→Int) (r1 : List Int),BI N a (fun w z=>Q w z∨(w=u∧z=y)) (P++q1.drop o1) f1 fm1 bm1→q1.drop o1=u::r1→(∀ v ∈ q1.drop o1,f1 v≤f1 u+1)→(∀ y,((AcI bm1 y).getD []).length≤c+1) →
   ∃ (o' : Nat) (fm' : List (Int×Int)) (bm' : List (Int×List Int)) (q' : List Int) (f' : Int→Int) (r' : List Int),AaB.L2 k u S kb n o1 ((i+1 : Nat) : Int) fm1 bm1 q1=kb (o'+1) fm' bm' q'∧BI N a (fun w z=>Q w z∨(w=u∧z ∈ S.drop i)) (P++q'.drop o') f' fm' bm'∧q'.drop o'=u::r'∧(∀ v ∈ q'.drop o',f' v≤f' u+1)∧(∀ y,((AcI bm' y).getD []).length≤c+(m+1)):=by
   intro o1 fm1 bm1 q1 f1 r1 k1 k2 k3 k4
   obtain ⟨o',fm',bm',q',f',r',g1,g2,g3,g4,g5⟩:=ih o1 fm1 bm1 q1 _ f1 r1 (c+1) k1 k2 k3 k4 (by omega)
   refine ⟨o',fm',bm',q',f',r',g1,g2.congr fun w z=>?_,g3,g4,fun y=>by have:=g5 y; omega⟩
   rw [hd,List.mem_cons]
   constructor
   ·rintro ((z1 | z1) | z1)
    ·exact .inl z1
    ·exact .inr ⟨z1.1,.inl z1.2⟩
    ·exact .inr ⟨z1.1,.inr z1.2⟩
   ·rintro (z1 | ⟨z1,z2 | z2⟩)
    ·exact .inl (.inl z1)
    ·exact .inl (.inr ⟨z1,z2⟩)
    ·exact .inr ⟨z1,z2⟩
  have put : ∀ (fm1 : List (Int×Int)) (q1 : List Int) (o1 : Nat),AaB.J6 k u (i : Int) bm y fm1 q1 o1 (fun v16_ v17_ v18_ v19_ v20_=>AaB.L2 k u S kb n v16_ v17_ v18_ v19_ v20_) true=AaB.L2 k u S kb n o1 ((i+1 : Nat) : Int) fm1 (AbE bm y ((AcI bm y).getD []++[u])) q1:=by
   intro fm1 q1 o1
   unfold AaB.J6 AaB.J3
   have lb:=hl y
   rw [if_pos rfl,AaT (by omega)]
   simp only [AdA i (by omega)]
   unfold AgR
   cases g : AcI bm y with
   | none=>simp only [Option.getD_none,List.nil_append]; rw [AaT (by simp only [List.length_cons,List.length_nil]; omega)]
   | some l =>
    rw [g] at lb
    simp only [Option.getD_some] at lb ⊢
    rw [AaT (by simp only [List.length_cons,List.length_nil]; omega)]
  by_cases hD : y ∈ P++q.drop o
  ·have gy : AcI fm y=some (f y):=by rw [h.fg y,if_pos hD]
   have T:=h.too hq hw hD
   rw [gy]
   show (∃ o' fm' bm' q' f' r',AaB.J4 k u o (i : Int) fm bm q y _ (f y) true=_∧_)
   unfold AaB.J4
   rw [if_neg (by simp)]
   unfold AaB.J5
   rw [gu]
   show (∃ o' fm' bm' q' f' r',AaB.J6 k u (i : Int) bm y fm q o _ (f y==IntKind.wrap .i64 (f u+1))=_∧_)
   rw [wu]
   by_cases z : f y=f u+1
   ·rw [show (f y==f u+1)=true by simpa using z,put]
    exact fin o fm _ q f r (T.1 z) hq hw (AmM hl)
   ·rw [show (f y==f u+1)=false by simpa using z]
    unfold AaB.J6 AaB.J3
    rw [if_neg (by simp),AdA i (by omega)]
    exact fin o fm bm q f r (T.2 z) hq hw (fun y=>by have:=hl y; omega)
  ·have gy : AcI fm y=none:=by rw [h.fg y,if_neg hD]
   have huy : u≠y:=fun e=>hD (e ▸ hu)
   rw [gy]
   show (∃ o' fm' bm' q' f' r',AaB.J4 k u o (i : Int) fm bm q y _ 0 false=_∧_)
   unfold AaB.J4
   rw [if_pos (by simp),gu]
   show (∃ o' fm' bm' q' f' r',AaB.J7 k u o (i : Int) bm q y _ (AbE fm y (IntKind.wrap .i64 (f u+1))) (IntKind.wrap .i64 (f u+1))=_∧_)
   rw [wu]
   unfold AaB.J7
   rw [AaT ⟨by simp only [List.length_cons,List.length_nil]; omega,by omega⟩]
   unfold AaB.J5
   rw [AcC,if_neg huy,gu]
   show (∃ o' fm' bm' q' f' r',AaB.J6 k u (i : Int) bm y (AbE fm y (f u+1)) (q.drop o++[y]) 0 _ (f u+1==IntKind.wrap .i64 (f u+1))=_∧_)
   rw [wu,show (f u+1==f u+1)=true by simp,put]
   have A:=h.add hq hw hD yr
   refine fin 0 _ _ _ (fun v=>if v=y then f u+1 else f v) (r++[y]) (by rw [List.drop_zero]; exact A) (by rw [List.drop_zero,hq]; rfl) ?_ (AmM hl)
   intro v hv
   rw [List.drop_zero] at hv
   rw [if_neg huy]
   rcases List.mem_append.1 hv with hv | hv
   ·rw [if_neg (show ¬ v=y from fun e=>hD (e ▸ List.mem_append_right _ hv))]; exact hw v hv
   ·rw [List.mem_singleton] at hv; rw [if_pos hv]; omega
theorem AsI (k N : Nat) (hN : N≤64) (E : List AaA) (g : List Int) (lv a b : Int) (mm : List (Int×Bool)) (dr : Bool) (len : Int) (st : Int→List Int) (hst : ∀ u : Int,0≤u→u<(N : Int)→AbU k (N : Int) E g lv a b mm dr u=some (st u)) (hr : ∀ u y : Int,y ∈ st u→0≤y∧y<(N : Int)) (hl : ∀ u,(st u).length≤100) (hk : 101<k) :
 ∀ (m n o : Nat) (fm : List (Int×Int)) (bm : List (Int×List Int)) (q : List Int) (Q : Int→Int→Prop) (f : Int→Int) (P : List Int),P.length+m=N+1→m<n→BI N a Q (P++q.drop o) f fm bm→(∀ u r,q.drop o=u::r→∀ v ∈ q.drop o,f v≤f u+1)→(∀ w z,Q w z↔w ∈ P∧z ∈ st w)→(∀ y,((AcI bm y).getD []).length≤101*P.length)→o≤q.length →
 ∃ (fm' : List (Int×Int)) (bm' : List (Int×List Int)) (D : List Int) (f' : Int→Int),AaB.L1 k (N : Int) E g lv a b mm dr len n o fm bm q=AgR (AcI fm' b) (fun d=>AaB.J8 k (N : Int) E g lv a b mm dr len bm' d true) (AaB.J8 k (N : Int) E g lv a b mm dr len bm' 0 false)∧BI N a (fun w z=>w ∈ D∧z ∈ st w) D f' fm' bm'∧(∀ y,((AcI bm' y).getD []).length≤101*65)
 | m,n+1,o,fm,bm,q,Q,f,P,e,hn,h,hw,hQ,hb,ho=>by
  have lD:=h.len
  have bl:=h.blen
  rw [List.length_append,List.length_drop] at lD
  rw [AaB.L1]
  by_cases z : 0<(((q.length-o : Nat)) : Int)
  ·have l1 : o<q.length:=by omega
   obtain ⟨m',rfl⟩ : ∃ m',m=m'+1:=⟨m-1,by omega⟩
   obtain ⟨u,hu⟩ : ∃ u,q[o]=u:=⟨_,rfl⟩
   have hq : q.drop o=u::q.drop (o+1):=by rw [List.drop_eq_getElem_cons l1,hu]
   have hmem : u ∈ P++q.drop o:=by rw [hq]; simp
   have ur:=h.rg u hmem
   rw [if_pos z,AaT ⟨by omega,by omega,by omega⟩]
   have e0 : idx q (((o+(0 : Int).toNat : Nat)) : Int)=fun (F : Int→Option (List Int))=>F u:=by
    funext F
    rw [show o+(0 : Int).toNat=o by omega,Aae l1,hu]
   rw [e0]
   simp only []
   rw [hst u ur.1 ur.2,AaP]
   obtain ⟨o',fm',bm',q',f',r',g1,g2,g3,g4,g5⟩:=AsH k N hN a u (st u) P (hr u) (by have:=hl u; omega) (fun v10_ v11_ v12_ v13_=>AaB.L1 k (N : Int) E g lv a b mm dr len n v10_ v11_ v12_ v13_) (st u).length 0 k o fm bm q Q f (q.drop (o+1)) (101*P.length) (by omega) (by have:=hl u; omega) h hq (hw u _ hq) hb (by have:=hl u; omega)
   rw [show AaB.L2 k u (st u) (fun v10_ v11_ v12_ v13_=>AaB.L1 k (N : Int) E g lv a b mm dr len n v10_ v11_ v12_ v13_) k o 0 fm bm q=_ from g1]
   have ed : q'.drop (o'+1)=r':=by
    have:=congrArg (List.drop 1) g3
    rw [List.drop_drop] at this
    exact this
   have el : o'<q'.length:=by
    have:=congrArg List.length g3
    rw [List.length_drop,List.length_cons] at this; omega
   have eD : P++q'.drop o'=(P++[u])++q'.drop (o'+1):=by rw [ed,g3,List.append_assoc]; rfl
   rw [eD] at g2
   refine AsI k N hN E g lv a b mm dr len st hst hr hl hk m' n (o'+1) fm' bm' q' _ f' (P++[u]) (by rw [List.length_append,List.length_singleton]; omega) (by omega) g2 ?_ ?_ ?_ (by omega)
   ·intro u2 r2 hu2 v hv
    have so:=g2.so
    rw [List.pairwise_append] at so
    have h1:=so.2.2 u (by simp) u2 (by rw [hu2]; simp)
    have h2:=g4 v (by rw [g3,← ed]; exact List.mem_cons_of_mem _ hv)
    omega
   ·intro w z
    rw [hQ w z,List.drop_zero,List.mem_append,List.mem_singleton]
    constructor
    ·rintro (⟨q1,q2⟩ | ⟨rfl,q2⟩)
     ·exact ⟨.inl q1,q2⟩
     ·exact ⟨.inr rfl,q2⟩
    ·rintro ⟨q1 | q1,q2⟩
     ·exact .inl ⟨q1,q2⟩
     ·subst q1; exact .inr ⟨rfl,q2⟩
   ·intro y
    have:=g5 y; have:=hl u
    rw [List.length_append,List.length_singleton]; omega
  ·have l1 : q.drop o = []:=List.drop_of_length_le (by omega)
   rw [if_neg z,AaT (by omega)]
   rw [l1,List.append_nil] at h
   exact ⟨fm,bm,P,f,rfl,h.congr hQ,fun y=>by have:=hb y; omega⟩
structure Bf (st : Int→List Int) (a : Int) (D : List Int) (f : Int→Int) : Prop where
 a0 : a ∈ D∧f a=0
 f0 : ∀ v ∈ D,0≤f v
 pr : ∀ v ∈ D,v≠a→∃ w ∈ D,v ∈ st w∧f v=f w+1
 cl : ∀ w ∈ D,∀ y ∈ st w,y ∈ D∧f y≤f w+1
theorem Bf.le {st : Int→List Int} {a : Int} {D D' : List Int} {f f' : Int→Int} (h : Bf st a D f) (h' : Bf st a D' f') : ∀ (n : Nat) (v : Int),v ∈ D→f v=n→v ∈ D'∧f' v≤f v
 | 0,v,hv,e=>by
  by_cases q : v=a
  ·subst q; exact ⟨h'.a0.1,by rw [h'.a0.2,h.a0.2]; exact Int.le_refl _⟩
  ·obtain ⟨w,w1,w2,w3⟩:=h.pr v hv q
   have:=h.f0 w w1; omega
 | n+1,v,hv,e=>by
  by_cases q : v=a
  ·subst q; exact ⟨h'.a0.1,by rw [h'.a0.2,h.a0.2]; exact Int.le_refl _⟩
  ·obtain ⟨w,w1,w2,w3⟩:=h.pr v hv q
   obtain ⟨k1,k2⟩:=Bf.le h h' n w w1 (by omega)
   obtain ⟨k3,k4⟩:=h'.cl w k1 v w2
   exact ⟨k3,by omega⟩
theorem Bf.uniq {st : Int→List Int} {a : Int} {D D' : List Int} {f f' : Int→Int} (h : Bf st a D f) (h' : Bf st a D' f') (v : Int) : (v ∈ D↔v ∈ D')∧(v ∈ D→f v=f' v):=by
 have A : ∀ {D D' : List Int} {f f' : Int→Int},Bf st a D f→Bf st a D' f'→∀ v ∈ D,v ∈ D'∧f' v≤f v:=fun h h' v hv=>Bf.le h h' (_) v hv (Int.toNat_of_nonneg (h.f0 v hv)).symm
 refine ⟨⟨fun q=>(A h h' v q).1,fun q=>(A h' h v q).1⟩,fun q=>?_⟩
 have k1:=A h h' v q
 have k2:=A h' h v k1.1
 omega
theorem BI.bf {N : Nat} {a : Int} {st : Int→List Int} {D : List Int} {f : Int→Int} {fm : List (Int×Int)} {bm : List (Int×List Int)} (h : BI N a (fun w z=>w ∈ D∧z ∈ st w) D f fm bm) : Bf st a D f :=
 ⟨h.a0,fun v hv=>(h.f0 hv).1,fun v hv q=>by obtain ⟨w,w1,w2⟩:=h.pr v hv q; exact ⟨w,w1.1,w1.2,w2⟩,fun w hw y hy=>(h.cl w y ⟨hw,hy⟩).2⟩
inductive Sp (st : Int→List Int) (b : Int) (D : List Int) (f : Int→Int) : Int→Prop
 | b : Sp st b D f b
 | s {v w : Int} (hw : Sp st b D f w) (hv : v ∈ D) (h : w ∈ st v) (e : f w=f v+1) : Sp st b D f v
theorem Sp.in {st : Int→List Int} {b : Int} {D : List Int} {f : Int→Int} (hb : b ∈ D) {v : Int} (h : Sp st b D f v) : v ∈ D:=by
 cases h with
 | b=>exact hb
 | s _ hv _ _=>exact hv
theorem Bf.back {st : Int→List Int} {a b : Int} {D : List Int} {f : Int→Int} (h : Bf st a D f) (hb : b ∈ D) : ∀ (n : Nat) (v : Int),Sp st b D f v→f v=n→Sp st b D f a
 | 0,v,s,e=>by
  by_cases q : v=a
  ·exact q ▸ s
  ·obtain ⟨w,w1,w2,w3⟩:=h.pr v (s.in hb) q
   have:=h.f0 w w1; omega
 | n+1,v,s,e=>by
  by_cases q : v=a
  ·exact q ▸ s
  ·obtain ⟨w,w1,w2,w3⟩:=h.pr v (s.in hb) q
   exact Bf.back h hb n w (.s s w1 w2 w3) (by omega)
theorem Bf.start {st : Int→List Int} {a b : Int} {D : List Int} {f : Int→Int} (h : Bf st a D f) (hb : b ∈ D) : Sp st b D f a:=h.back hb _ b .b (Int.toNat_of_nonneg (h.f0 b hb)).symm
def Nx (st : Int→List Int) (b : Int) (D : List Int) (f : Int→Int) (u y : Int) : Prop:=(y ∈ st u∧Sp st b D f y∧f y=f u+1)∧∀ z ∈ st u,Sp st b D f z→f z=f u+1→y≤z
theorem Nx.uniq {st : Int→List Int} {b : Int} {D : List Int} {f : Int→Int} {u y y' : Int} (h : Nx st b D f u y) (h' : Nx st b D f u y') : y=y':=by
 have h1:=h.2 y' h'.1.1 h'.1.2.1 h'.1.2.2
 have h2:=h'.2 y h.1.1 h.1.2.1 h.1.2.2
 omega
inductive IsW (st : Int→List Int) (b : Int) (D : List Int) (f : Int→Int) : Int→List Int→Prop
 | b : IsW st b D f b [b]
 | s {u y : Int} {l : List Int} (hu : u≠b) (hy : Nx st b D f u y) (h : IsW st b D f y l) : IsW st b D f u (u::l)
theorem IsW.uniq {st : Int→List Int} {b : Int} {D : List Int} {f : Int→Int} : ∀ {u : Int} {l l' : List Int},IsW st b D f u l→IsW st b D f u l'→l=l'
 | _,_,_,.b,.b=>rfl
 | _,_,_,.b,.s hu _ _=>absurd rfl hu
 | _,_,_,.s hu _ _,.b=>absurd rfl hu
 | _,_,_,.s _ h1 h2,.s _ h3 h4=>by
  have:=h1.uniq h3
  subst this
  rw [h2.uniq h4]
structure GI (N : Int) (G : List Int) (gm : List (Int×Bool)) : Prop where
 nd : G.Nodup
 rg : ∀ v ∈ G,0≤v∧v<N
 gg : ∀ v,AcI gm v=if v ∈ G then some true else none
theorem GI.add {N : Int} {G : List Int} {gm : List (Int×Bool)} (h : GI N G gm) {y : Int} (hy : y ∉ G) (yr : 0≤y∧y<N) : GI N (G++[y]) (AbE gm y true):=by
 refine ⟨?_,?_,fun v=>?_⟩
 ·rw [List.nodup_append]
  refine ⟨h.nd,by simp,fun x hx z hz=>?_⟩
  rw [List.mem_singleton] at hz
  subst hz; exact fun e=>hy (e ▸ hx)
 ·intro v hv
  rcases List.mem_append.1 hv with hv | hv
  ·exact h.rg v hv
  ·rw [List.mem_singleton] at hv; subst hv; exact yr
 ·rw [AcC,h.gg v]
  by_cases e : v=y
  ·subst e; simp
  ·rw [if_neg e]
   by_cases q : v ∈ G
   ·rw [if_pos q,if_pos (List.mem_append_left _ q)]
   ·rw [if_neg q,if_neg (by rw [List.mem_append,List.mem_singleton]; exact fun z=>z.elim q e)]
theorem Apq (k N : Nat) (hN : N≤64) (x : Int) (S P : List Int) (hS : ∀ y ∈ S,0≤y∧y<(N : Int)) (hS9 : S.length≤1000000) (kb : Nat→(List (Int×Bool))→(List Int)→Option (List Int)) : ∀ (m i n o : Nat) (gm : List (Int×Bool)) (q r : List Int),i+m=S.length→m<n→GI N (P++q.drop o) gm→q.drop o=x::r →
 ∃ (o' : Nat) (gm' : List (Int×Bool)) (q' r' : List Int),AaB.L11 k S (S.length : Int) kb n o (i : Int) gm q=kb (o'+1) gm' q'∧GI N (P++q'.drop o') gm'∧q'.drop o'=x::r'∧∀ v,v ∈ P++q'.drop o'↔v ∈ P++q.drop o∨v ∈ S.drop i
 | 0,i,n+1,o,gm,q,r,e,_,h,hq=>by
  have l1 : o<q.length:=by
   have:=congrArg List.length hq
   rw [List.length_drop,List.length_cons] at this; omega
  rw [AaB.L11,if_neg (by omega),AaT (by omega)]
  refine ⟨o,gm,q,r,rfl,h,hq,fun v=>?_⟩
  rw [List.drop_of_length_le (show S.length≤i by omega)]; simp
 | m+1,i,n+1,o,gm,q,r,e,hn,h,hq=>by
  have hi : i<S.length:=by omega
  have yr:=hS _ (List.getElem_mem hi)
  have l1 : o<q.length:=by
   have:=congrArg List.length hq
   rw [List.length_drop,List.length_cons] at this; omega
  have lW:=nodup_range N _ h.nd h.rg
  rw [List.length_append] at lW
  have ih:=fun o gm q r=>Apq k N hN x S P hS hS9 kb m (i+1) n o gm q r (by omega) (by omega)
  rw [AaB.L11,if_pos (by omega),Aae hi]
  obtain ⟨y,hy⟩ : ∃ y,S[i]=y:=⟨_,rfl⟩
  rw [hy] at yr ⊢
  have hd : S.drop i=y::S.drop (i+1):=by rw [List.drop_eq_getElem_cons hi,hy]
  unfold AaB.J12
  simp only [AdA i (by omega)]
  by_cases hG : y ∈ P++q.drop o
  ·rw [h.gg y,if_pos hG]
   unfold AgR
   simp only [Bool.not_true,Bool.false_eq_true,if_false]
   obtain ⟨o',gm',q',r',g1,g2,g3,g4⟩:=ih o gm q r h hq
   refine ⟨o',gm',q',r',g1,g2,g3,fun v=>?_⟩
   rw [g4 v,hd,List.mem_cons]
   constructor
   ·rintro (z | z)
    ·exact .inl z
    ·exact .inr (.inr z)
   ·rintro (z | z | z)
    ·exact .inl z
    ·exact .inl (z ▸ hG)
    ·exact .inr z
  ·rw [h.gg y,if_neg hG]
   unfold AgR
   simp only []
   rw [AaT ⟨by simp only [List.length_cons,List.length_nil]; omega,by omega⟩]
   have A:=h.add hG yr
   rw [List.append_assoc] at A
   obtain ⟨o',gm',q',r',g1,g2,g3,g4⟩:=ih 0 (AbE gm y true) (q.drop o++[y]) (r++[y]) (by rw [List.drop_zero]; exact A) (by rw [List.drop_zero,hq]; rfl)
   refine ⟨o',gm',q',r',g1,g2,g3,fun v=>?_⟩
   rw [g4 v,hd,List.mem_cons,List.drop_zero,← List.append_assoc,List.mem_append,List.mem_singleton]
   constructor
   ·rintro ((z | z) | z)
    ·exact .inl z
    ·exact .inr (.inl z)
    ·exact .inr (.inr z)
   ·rintro (z | z | z)
    ·exact .inl (.inl z)
    ·exact .inl (.inr z)
    ·exact .inr z
theorem Asb (k N : Nat) (hN : N≤64) (E : List AaA) (g : List Int) (lv a b : Int) (mm : List (Int×Bool)) (dr : Bool) (st : Int→List Int) (D : List Int) (f : Int→Int) (fm : List (Int×Int)) (bm : List (Int×List Int)) (B : BI N a (fun w z=>w ∈ D∧z ∈ st w) D f fm bm) (hb : b ∈ D) (hbl : ∀ y,((AcI bm y).getD []).length≤101*65) (hk : 7001<k) :
 ∀ (m n o : Nat) (gm : List (Int×Bool)) (q P : List Int),P.length+m=N+1→m<n→GI N (P++q.drop o) gm→b ∈ P++q.drop o→(∀ v ∈ P++q.drop o,Sp st b D f v)→(∀ w ∈ P,∀ v ∈ (AcI bm w).getD [],v ∈ P++q.drop o) →
  ∃ gm' : List (Int×Bool),AaB.L9 k (N : Int) E g lv a b mm dr bm n o gm q=AaB.L13 k (N : Int) E g lv a b mm dr bm gm' k [a] a∧(∀ v,Sp st b D f v→AcI gm' v=some true)∧(∀ v,¬ Sp st b D f v→AcI gm' v=none)
 | m,n+1,o,gm,q,P,e,hn,h,b1,hs,hc=>by
  have lD:=nodup_range N _ h.nd h.rg
  rw [List.length_append,List.length_drop] at lD
  rw [AaB.L9]
  by_cases z : 0<(((q.length-o : Nat)) : Int)
  ·have l1 : o<q.length:=by omega
   obtain ⟨m',rfl⟩ : ∃ m',m=m'+1:=⟨m-1,by omega⟩
   obtain ⟨x,hx⟩ : ∃ x,q[o]=x:=⟨_,rfl⟩
   have hq : q.drop o=x::q.drop (o+1):=by rw [List.drop_eq_getElem_cons l1,hx]
   have hmem : x ∈ P++q.drop o:=by rw [hq]; simp
   have sx:=hs x hmem
   rw [if_pos z,AaT ⟨by omega,by omega,by omega⟩]
   have e0 : idx q (((o+(0 : Int).toNat : Nat)) : Int)=fun (F : Int→Option (List Int))=>F x:=by
    funext F
    rw [show o+(0 : Int).toNat=o by omega,Aae l1,hx]
   rw [e0]
   simp only []
   have go : ∀ S : List Int,S=(AcI bm x).getD []→∃ gm' : List (Int×Bool),AaB.J10 k o gm q (fun v41_ v42_ v43_=>AaB.L9 k (N : Int) E g lv a b mm dr bm n v41_ v42_ v43_) S (S.length : Int)=AaB.L13 k (N : Int) E g lv a b mm dr bm gm' k [a] a∧(∀ v,Sp st b D f v→AcI gm' v=some true)∧(∀ v,¬ Sp st b D f v→AcI gm' v=none):=by
    intro S hS
    have sS : ∀ y ∈ S,Sp st b D f y:=fun y hy=>by
     have:=(B.be y x).1 (by rw [← hS]; exact hy)
     exact .s sx this.1.1 this.1.2 this.2
    have rS : ∀ y ∈ S,0≤y∧y<(N : Int):=fun y hy=>B.rg y ((sS y hy).in hb)
    have lS : S.length≤101*65:=by rw [hS]; exact hbl x
    unfold AaB.J10
    obtain ⟨o',gm',q',r',g1,g2,g3,g4⟩:=Apq k N hN x S P rS (by omega) (fun v41_ v42_ v43_=>AaB.L9 k (N : Int) E g lv a b mm dr bm n v41_ v42_ v43_) S.length 0 k o gm q (q.drop (o+1)) (by omega) (by omega) h hq
    rw [show AaB.L11 k S (S.length : Int) (fun v41_ v42_ v43_=>AaB.L9 k (N : Int) E g lv a b mm dr bm n v41_ v42_ v43_) k o 0 gm q=_ from g1]
    have ed : q'.drop (o'+1)=r':=by
     have:=congrArg (List.drop 1) g3
     rw [List.drop_drop] at this
     exact this
    have eD : P++q'.drop o'=(P++[x])++q'.drop (o'+1):=by rw [ed,g3,List.append_assoc]; rfl
    rw [eD] at g2 g4
    rw [List.drop_zero] at g4
    refine Asb k N hN E g lv a b mm dr st D f fm bm B hb hbl hk m' n (o'+1) gm' q' (P++[x]) (by rw [List.length_append,List.length_singleton]; omega) (by omega) g2 ((g4 b).2 (.inl b1)) (fun v hv=>?_) (fun w hw v hv=>?_)
    ·rcases (g4 v).1 hv with z | z
     ·exact hs v z
     ·exact sS v z
    ·rw [List.mem_append,List.mem_singleton] at hw
     rcases hw with hw | rfl
     ·exact (g4 v).2 (.inl (hc w hw v hv))
     ·exact (g4 v).2 (.inr (by rw [hS]; exact hv))
   unfold AgR
   cases gx : AcI bm x with
   | none=>exact go [] (by rw [gx]; rfl)
   | some l=>exact go l (by rw [gx]; rfl)
  ·have l1 : q.drop o = []:=List.drop_of_length_le (by omega)
   rw [if_neg z]
   rw [l1,List.append_nil] at h b1 hs
   have all : ∀ v,Sp st b D f v→v ∈ P:=by
    intro v sv
    induction sv with
    | b=>exact b1
    | s hw hv h1 h2 ih =>
     rename_i v w
     have:=hc w ih v ((B.be v w).2 ⟨⟨hv,h1⟩,h2⟩)
     rw [l1,List.append_nil] at this; exact this
   refine ⟨gm,rfl,fun v sv=>by rw [h.gg v,if_pos (all v sv)],fun v sv=>by rw [h.gg v,if_neg (fun q=>sv (hs v q))]⟩
theorem AsJ (k : Nat) (y : Int) (gm : List (Int×Bool)) (bm : List (Int×List Int)) (u : Int) {p : Prop} [Decidable p] (h1 : p→AcI gm y=some true) (h2 : ¬ p→AcI gm y=none) (hl : ((AcI bm y).getD []).length≤1000000) (hk : ((AcI bm y).getD []).length<k) : Abi k y gm bm u=some (decide (p∧u ∈ (AcI bm y).getD [])):=by
 unfold Abi AgR
 by_cases q : p
 ·rw [h1 q]
  simp only [if_true]
  cases e : AcI bm y with
  | none=>simp only [Option.getD_none]; rw [AhA k [] u (by simp; omega) (by simp),AaP]; simp
  | some l =>
   rw [e] at hl hk
   simp only [Option.getD_some] at hl hk ⊢
   rw [AhA k l u hk hl,AaP]; simp [q]
 ·rw [h2 q]; simp [q]
theorem Al7 (k : Nat) (L : List Int) (gm : List (Int×Bool)) (bm : List (Int×List Int)) (u : Int) (c : Int→Bool) (hc : ∀ y,Abi k y gm bm u=some (c y)) (h9 : L.length≤1000000) : ∀ (m i n : Nat),i+m=L.length→m<n→(∀ (j : Nat) (h : j<L.length),j<i→c L[j]=false)→(∃ y ∈ L,c y=true)→∃ (j : Nat) (h : j<L.length),Aag.L1 k L gm bm u n (i : Int)=some (j : Int)∧c L[j]=true∧∀ (i : Nat) (h : i<L.length),i<j→c L[i]=false
 | 0,i,n+1,e,_,ha,hex=>by
  obtain ⟨y,hy,hcy⟩:=hex
  obtain ⟨j,hj,rfl⟩:=List.mem_iff_getElem.1 hy
  rw [ha j hj (by omega)] at hcy; cases hcy
 | m+1,i,n+1,e,hn,ha,hex=>by
  have hi : i<L.length:=by omega
  rw [Aag.L1,if_pos (by omega),Aae hi,hc,AaP]
  by_cases q : c L[i]=true
  ·rw [if_pos q]; exact ⟨i,hi,rfl,q,ha⟩
  ·rw [if_neg q,AdA i (by omega)]
   refine Al7 k L gm bm u c hc h9 m (i+1) n (by omega) (by omega) (fun j hj hji=>?_) hex
   by_cases e : j=i
   ·subst e; simpa using q
   ·exact ha j hj (by omega)
theorem Aps (k N : Nat) (hN : N≤64) (E : List AaA) (g : List Int) (lv a b : Int) (mm : List (Int×Bool)) (dr : Bool) (st : Int→List Int) (hst : ∀ u : Int,0≤u→u<(N : Int)→AbU k (N : Int) E g lv a b mm dr u=some (st u)) (hasc : ∀ u,(st u).Pairwise (· < ·)) (hl : ∀ u,(st u).length≤100) (D : List Int) (f : Int→Int) (fm : List (Int×Int)) (bm : List (Int×List Int)) (B : BI N a (fun w z=>w ∈ D∧z ∈ st w) D f fm bm) (hb : b ∈ D) (hbl : ∀ y,((AcI bm y).getD []).length≤101*65) (hk : 7001<k) (gm : List (Int×Bool)) (s1 : ∀ v,Sp st b D f v→AcI gm v=some true) (s2 : ∀ v,¬ Sp st b D f v→AcI gm v=none) :
 ∀ (m n : Nat) (out : List Int) (u : Int),N-f u≤m→m<n→Sp st b D f u→out.length+m≤1000000→out≠[]→∃ l,AaB.L13 k (N : Int) E g lv a b mm dr bm gm n out u=some (out++l.tail)∧IsW st b D f u l
 | m,n+1,out,u,hm,hn,su,ho,hne=>by
  rw [AaB.L13]
  by_cases q : u=b
  ·rw [if_neg (by simp [q]),AaT hne]
   subst q
   exact ⟨[u],by simp,.b⟩
  ·have hu:=su.in hb
   have ur:=B.rg u hu
   have fu:=B.f0 hu
   classical
   have hc : ∀ y,Abi k y gm bm u=some (decide (Sp st b D f y∧u ∈ (AcI bm y).getD [])):=fun y=>AsJ k y gm bm u (s1 y) (s2 y) (by have:=hbl y; omega) (by have:=hbl y; omega)
   have hce : ∀ y,(decide (Sp st b D f y∧u ∈ (AcI bm y).getD []))=true↔Sp st b D f y∧y ∈ st u∧f y=f u+1:=fun y=>by
    rw [decide_eq_true_eq,B.be u y]
    exact ⟨fun h=>⟨h.1,h.2.1.2,h.2.2⟩,fun h=>⟨h.1,⟨hu,h.2.1⟩,h.2.2⟩⟩
   have hex : ∃ y ∈ st u,(decide (Sp st b D f y∧u ∈ (AcI bm y).getD []))=true:=by
    cases su with
    | b=>exact absurd rfl q
    | s hw hv h1 h2=>rename_i w; exact ⟨w,h1,(hce w).2 ⟨hw,h1,h2⟩⟩
   obtain ⟨j,hj,g1,g2,g3⟩:=Al7 k (st u) gm bm u _ hc (by have:=hl u; omega) (st u).length 0 k (by omega) (by have:=hl u; omega) (fun _ _ h=>absurd h (Nat.not_lt_zero _)) hex
   have g2':=(hce _).1 g2
   have fy:=B.f0 (g2'.1.in hb)
   have nx : Nx st b D f u (st u)[j]:=by
    refine ⟨⟨List.getElem_mem hj,g2'.1,g2'.2.2⟩,fun z hz sz fz=>?_⟩
    obtain ⟨i,hi,rfl⟩:=List.mem_iff_getElem.1 hz
    have hji : ¬ i<j:=fun h=>by
     have:=g3 i hi h
     rw [(hce _).2 ⟨sz,List.getElem_mem hi,fz⟩] at this; cases this
    by_cases e : i=j
    ·subst e; exact Int.le_refl _
    ·have:=hasc u
     rw [List.pairwise_iff_getElem] at this
     have:=this j i hj hi (by omega)
     omega
   rw [if_pos q,hst u ur.1 ur.2,AaP]
   unfold Aag
   rw [show Aag.L1 k (st u) gm bm u k 0=some (j : Int) from g1,AaP,Aae hj,AaT (by simp only [List.length_cons,List.length_nil]; omega)]
   obtain ⟨m',rfl⟩ : ∃ m',m=m'+1:=⟨m-1,by omega⟩
   obtain ⟨l,e1,e2⟩:=Aps k N hN E g lv a b mm dr st hst hasc hl D f fm bm B hb hbl hk gm s1 s2 m' n (out++[(st u)[j]]) (st u)[j] (by omega) (by omega) g2'.1 (by rw [List.length_append,List.length_singleton]; omega) (by simp)
   refine ⟨u::l,?_,.s q nx e2⟩
   rw [e1,List.append_assoc]
   cases e2 <;> rfl
theorem IsW.ne {st : Int→List Int} {b : Int} {D : List Int} {f : Int→Int} {u : Int} {l : List Int} (h : IsW st b D f u l) : ∃ r,l=u::r:=by cases h <;> exact ⟨_,rfl⟩
theorem AqZ (k N : Nat) (hN : N≤64) (E : List AaA) (g : List Int) (lv a b : Int) (mm : List (Int×Bool)) (dr : Bool) (len : Int) (st : Int→List Int) (hst : ∀ u : Int,0≤u→u<(N : Int)→AbU k (N : Int) E g lv a b mm dr u=some (st u)) (hr : ∀ u y : Int,y ∈ st u→0≤y∧y<(N : Int)) (hasc : ∀ u,(st u).Pairwise (· < ·)) (hl : ∀ u,(st u).length≤100) (hk : 7001<k) (ha : 0≤a∧a<(N : Int)) :
 ∃ (D : List Int) (f : Int→Int),Bf st a D f∧(∀ v ∈ D,0≤v∧v<(N : Int))∧D.Nodup∧((b ∉ D∨len<f b)→AaB k (N : Int) E g lv a b mm dr len=some [])∧(b ∈ D→¬ len<f b→∃ l,AaB k (N : Int) E g lv a b mm dr len=some l∧IsW st b D f a l):=by
 have B0 : BI N a (fun _ _=>False) ([]++[a].drop 0) (fun _=>0) (AbE [] a 0) []:=by
  refine ⟨by simp,by simpa using ha,fun v=>?_,by simp,?_,fun _ _ h=>h.elim,by simp,?_,fun w y=>by simp [AcI,mgI],by simp [KN]⟩
  ·rw [AcC]
   by_cases e : v=a
   ·simp [e]
   ·simp [e,AcI,mgI]
  ·intro v hv hne
   simp at hv; exact absurd hv hne
  ·intro i hi
   simp at hi ⊢
 obtain ⟨fm,bm,D,f,e1,B,hbl⟩:=AsI k N hN E g lv a b mm dr len st hst hr hl (by omega) (N+1) k 0 (AbE [] a 0) [] [a] _ _ [] (by simp) (by omega) B0 (by
  intro u r hu v hv
  simp at hu hv
  omega) (by simp) (by simp [AcI,mgI]) (by simp)
 refine ⟨D,f,B.bf,B.rg,B.nd,?_,?_⟩
 ·intro h
  unfold AaB
  rw [e1]
  unfold AgR
  by_cases q : b ∈ D
  ·rw [B.fg b,if_pos q]
   simp only []
   unfold AaB.J8
   rw [if_neg (by simp),if_pos (h.resolve_left (fun z=>z q))]
  ·rw [B.fg b,if_neg q]
   simp only []
   unfold AaB.J8
   rw [if_pos (by simp)]
 ·intro q h
  have G0 : GI N ([]++[b].drop 0) (AbE [] b true):=by
   refine ⟨by simp,by simpa using B.rg b q,fun v=>?_⟩
   rw [AcC]
   by_cases e : v=b
   ·simp [e]
   ·simp [e,AcI,mgI]
  obtain ⟨gm,e2,s1,s2⟩:=Asb k N hN E g lv a b mm dr st D f fm bm B q hbl hk (N+1) k 0 (AbE [] b true) [b] [] (by simp) (by omega) G0 (by simp) (by
   intro v hv
   simp at hv; subst hv; exact .b) (by simp)
  obtain ⟨l,e3,w⟩:=Aps k N hN E g lv a b mm dr st hst hasc hl D f fm bm B q hbl hk gm s1 s2 N k [a] a (by rw [B.a0.2]; omega) (by omega) (B.bf.start q) (by simp; omega) (by simp)
  refine ⟨l,?_,w⟩
  unfold AaB
  rw [e1]
  unfold AgR
  rw [B.fg b,if_pos q]
  simp only []
  unfold AaB.J8
  rw [if_neg (by simp),if_neg h,e2,e3]
  obtain ⟨r,rfl⟩:=w.ne
  rfl
end Go.TF
set_option linter.unusedVariables false
set_option linter.unusedSimpArgs false
namespace Go.TF
open Go Go.Abs
def inn (w : List Int) : List Int:=(w.drop 1).take (w.length-2)
def eg (E : List AaA) (lv u y : Int) : Prop:=∃ e ∈ E,lv≤e.Level∧e.From=u∧e.To=y
structure PW2 (E : List AaA) (lv a b : Int) (w : List Int) : Prop where
 two : 2≤w.length
 hd : w.head? = some a
 lt : w.getLast? = some b
 nd : w.Nodup
 ed : ∀ (i : Nat) (h : i+1<w.length),eg E lv w[i] w[i+1]
theorem IsW.mem {st : Int→List Int} {b : Int} {D : List Int} {f : Int→Int} : ∀ {u : Int} {l : List Int},IsW st b D f u l→∀ v ∈ l,f u≤f v∧(v=u∨(v≠u∧f u<f v∧∃ w,v ∈ st w))
 | _,_,.b,v,hv=>by
  rw [List.mem_singleton] at hv; subst hv; exact ⟨Int.le_refl _,.inl rfl⟩
 | u,_,.s (y:=y) hu hy h,v,hv=>by
  rcases List.mem_cons.1 hv with rfl | hv
  ·exact ⟨Int.le_refl _,.inl rfl⟩
  ·have ih:=h.mem v hv
   have e:=hy.1.2.2
   refine ⟨by omega,.inr ⟨fun q=>by subst q; omega,by omega,?_⟩⟩
   rcases ih.2 with rfl | ih
   ·exact ⟨u,hy.1.1⟩
   ·exact ih.2.2
theorem IsW.last {st : Int→List Int} {b : Int} {D : List Int} {f : Int→Int} : ∀ {u : Int} {l : List Int},IsW st b D f u l→l.getLast? = some b
 | _,_,.b=>rfl
 | _,_,.s hu hy h=>by
  have:=h.last
  obtain ⟨r,rfl⟩:=h.ne
  rw [List.getLast?_cons_cons]; exact this
theorem IsW.nd {st : Int→List Int} {b : Int} {D : List Int} {f : Int→Int} : ∀ {u : Int} {l : List Int},IsW st b D f u l→l.Nodup
 | _,_,.b=>by simp
 | u,_,.s hu hy h=>by
  rw [List.nodup_cons]
  refine ⟨fun q=>?_,h.nd⟩
  have:=(h.mem u q).1
  have:=hy.1.2.2; omega
theorem IsW.ed {st : Int→List Int} {b : Int} {D : List Int} {f : Int→Int} : ∀ {u : Int} {l : List Int},IsW st b D f u l→∀ (i : Nat) (h : i+1<l.length),l[i+1] ∈ st l[i]
 | _,_,.b,i,h=>by simp at h
 | u,_,.s hu hy h,0,hl=>by
  obtain ⟨r,rfl⟩:=h.ne
  exact hy.1.1
 | u,_,.s hu hy h,i+1,hl=>by
  have:=h.ed i (by simpa using hl)
  simpa using this
theorem IsW.len {st : Int→List Int} {b : Int} {D : List Int} {f : Int→Int} : ∀ {u : Int} {l : List Int},IsW st b D f u l→(l.length : Int)=f b-f u+1
 | _,_,.b=>by simp
 | u,_,.s hu hy h=>by
  have:=h.len
  have:=hy.1.2.2
  simp only [List.length_cons]; omega
theorem Agx {w : List Int} {v : Int} : v ∈ inn w↔∃ i,∃ h : i+2<w.length,w[i+1]=v:=by
 unfold inn
 constructor
 ·intro h
  obtain ⟨i,hi,rfl⟩:=List.mem_iff_getElem.1 h
  simp only [List.length_take,List.length_drop] at hi
  exact ⟨i,by omega,by rw [List.getElem_take,List.getElem_drop]; congr 1; omega⟩
 ·rintro ⟨i,h,rfl⟩
  refine List.mem_iff_getElem.2 ⟨i,by simp only [List.length_take,List.length_drop]; omega,?_⟩
  rw [List.getElem_take,List.getElem_drop]; congr 1; omega
structure Ap (N : Int) (E : List AaA) (lv a b : Int) (out : List (List Int)) (mm : List (Int×Bool)) (dr : Bool) : Prop where
 pw : ∀ w ∈ out,PW2 E lv a b w
 us : ∀ v,usB mm v=true↔∃ w ∈ out,v ∈ inn w
 dj : out.Pairwise fun w w'=>∀ v ∈ inn w,v ∉ inn w'
 dd : dr=true↔∃ w ∈ out,w.length=2
 d1 : out.Pairwise fun w w'=>¬ (w.length=2∧w'.length=2)
 rg : ∀ w ∈ out,∀ v ∈ w,0≤v∧v<N
theorem Aki {E : List AaA} {lv a b : Int} {w : List Int} (h : PW2 E lv a b w) {v : Int} (hv : v ∈ inn w) : v≠a∧v≠b:=by
 obtain ⟨i,hi,rfl⟩:=Agx.1 hv
 have nd:=h.nd
 rw [List.nodup_iff_pairwise_ne,List.pairwise_iff_getElem] at nd
 have h0 : w[0]'(by omega)=a:=by
  have:=h.hd
  rw [List.head?_eq_getElem?,List.getElem?_eq_getElem (by omega)] at this
  exact Option.some.inj this
 have h1 : w[w.length-1]'(by omega)=b:=by
  have:=h.lt
  rw [List.getLast?_eq_getElem?,List.getElem?_eq_getElem (by omega)] at this
  exact Option.some.inj this
 refine ⟨fun e=>?_,fun e=>?_⟩
 ·exact nd 0 (i+1) (by omega) (by omega) (by omega) (by rw [h0,e])
 ·exact nd (i+1) (w.length-1) (by omega) (by omega) (by omega) (by rw [h1,e])
theorem Ap.len {N : Nat} {E : List AaA} {lv a b : Int} {out : List (List Int)} {mm : List (Int×Bool)} {dr : Bool} (h : Ap N E lv a b out mm dr) : out.length≤N:=by
 have key : (out.map fun w=>w.getD 1 0).Nodup:=by
  rw [List.nodup_iff_pairwise_ne,List.pairwise_map]
  have h2:=h.dj.and h.d1
  refine List.Pairwise.imp_of_mem (fun {w w'} hw hw' q e=>?_) h2
  have p:=h.pw w hw; have p':=h.pw w' hw'
  have t:=p.two; have t':=p'.two
  have g : ∀ {x : List Int},2<x.length→x.getD 1 0 ∈ inn x:=fun {x} hx=>Agx.2 ⟨0,by omega,by rw [List.getD_eq_getElem?_getD,List.getElem?_eq_getElem (by omega)]; rfl⟩
  have l : ∀ {x : List Int},PW2 E lv a b x→x.length=2→x.getD 1 0=b:=fun {x} px hx=>by
   have:=px.lt
   rw [List.getLast?_eq_getElem?,hx] at this
   rw [List.getD_eq_getElem?_getD,this]; rfl
  by_cases c : w.length=2 <;> by_cases c' : w'.length=2
  ·exact q.2 ⟨c,c'⟩
  ·have:=(Aki p' (g (x:=w') (by omega))).2
   exact this (by rw [← e,l p c])
  ·have:=(Aki p (g (x:=w) (by omega))).2
   exact this (by rw [e,l p' c'])
  ·exact q.1 _ (g (x:=w) (by omega)) (by rw [e]; exact g (x:=w') (by omega))
 have:=nodup_range N _ key fun x hx=>by
  obtain ⟨w,hw,rfl⟩:=List.mem_map.1 hx
  have p:=h.pw w hw
  have t:=p.two
  rw [List.getD_eq_getElem?_getD,List.getElem?_eq_getElem (by omega)]
  exact h.rg w hw _ (List.getElem_mem _)
 simpa using this
theorem Atq (k : Nat) (N : Int) (E : List AaA) (g : List Int) (lv a b len : Int) (w : List Int) (dr : Bool) (out : List (List Int)) (kb : (List Int)→Bool→(List (Int×Bool))→(List (List Int))→Option (List (List Int))) (h2 : 2≤w.length) (h9 : w.length≤1000000) :
 ∀ (m i n : Nat) (mm : List (Int×Bool)),i+m=(inn w).length→m<n→∃ mm',Aao.L3 k N E g lv a b len w dr out kb n (i : Int) mm=(if dr=true then Aao.J2 k N E g lv a b len w out kb mm' true else Aao.J2 k N E g lv a b len w out kb mm' ((w.length : Int)==2))∧∀ v,usB mm' v=true↔usB mm v=true∨v ∈ (inn w).drop i:=by
 have e : (w.take (IntKind.wrap .i64 ((w.length : Int)-1)).toNat).drop (1 : Int).toNat=inn w:=by
  unfold inn
  rw [w64 (by omega) (by omega),show ((w.length : Int)-1).toNat=w.length-1 by omega,show (1 : Int).toNat=1 from rfl,List.drop_take]
  congr 1
 intro m
 induction m with
 | zero =>
  intro i n mm hi hn
  obtain ⟨n,rfl⟩ : ∃ q,n=q+1:=⟨n-1,by omega⟩
  rw [Aao.L3,e,if_neg (by omega)]
  refine ⟨mm,rfl,fun v=>?_⟩
  rw [List.drop_of_length_le (by omega)]; simp
 | succ m ih =>
  intro i n mm hi hn
  obtain ⟨n,rfl⟩ : ∃ q,n=q+1:=⟨n-1,by omega⟩
  have hl : i<(inn w).length:=by omega
  have l2 : (inn w).length≤w.length:=by unfold inn; simp; omega
  rw [Aao.L3,e,if_pos (by omega),Aae hl,AdA i (by omega)]
  obtain ⟨mm',e1,e2⟩:=ih (i+1) n (AbE mm (inn w)[i] true) (by omega) (by omega)
  refine ⟨mm',e1,fun v=>?_⟩
  rw [e2 v,List.drop_eq_getElem_cons hl,List.mem_cons]
  unfold usB
  rw [AcC]
  by_cases q : v=(inn w)[i]
  ·rw [if_pos q]; simp [q]
  ·rw [if_neg q]; simp [q]
def stF (E : List AaA) (lv a b : Int) (U : Int→Bool) (dr : Bool) (u : Int) : List Int:=(outs (E.filter (lvE lv)) u).filter fun y => !(U y||(decide (u=a∧y=b)&&dr))
def unU (U : Int→Bool) (w : List Int) (v : Int) : Bool:=U v||decide (v ∈ inn w)
inductive SR (E : List AaA) (lv a b len : Int) : (Int→Bool)→Bool→List (List Int)→Prop
 | no {U : Int→Bool} {dr : Bool} {D : List Int} {f : Int→Int} (h : Bf (stF E lv a b U dr) a D f) (q : b ∉ D∨len<f b) : SR E lv a b len U dr []
 | go {U : Int→Bool} {dr : Bool} {D : List Int} {f : Int→Int} {w : List Int} {l : List (List Int)} (h : Bf (stF E lv a b U dr) a D f) (hb : b ∈ D) (q : ¬ len<f b) (hw : IsW (stF E lv a b U dr) b D f a w) (r : SR E lv a b len (unU U w) (dr||(w.length==2)) l) : SR E lv a b len U dr (w::l)
theorem Sp.congr {st : Int→List Int} {b : Int} {D D' : List Int} {f f' : Int→Int} (hb : b ∈ D) (hD : ∀ v,(v ∈ D↔v ∈ D')∧(v ∈ D→f v=f' v)) {v : Int} (h : Sp st b D f v) : Sp st b D' f' v:=by
 induction h with
 | b=>exact .b
 | s hw hv h1 h2 ih =>
  exact .s ih ((hD _).1.1 hv) h1 (by rw [← (hD _).2 hv,← (hD _).2 (hw.in hb)]; exact h2)
theorem IsW.congr {st : Int→List Int} {b : Int} {D D' : List Int} {f f' : Int→Int} (hb : b ∈ D) (hD : ∀ v,(v ∈ D↔v ∈ D')∧(v ∈ D→f v=f' v)) : ∀ {u : Int} {l : List Int},u ∈ D→IsW st b D f u l→IsW st b D' f' u l
 | _,_,_,.b => .b
 | u,_,hu,.s hub hy h=>by
  have hb':=(hD b).1.1 hb
  have hD' : ∀ v,(v ∈ D'↔v ∈ D)∧(v ∈ D'→f' v=f v):=fun v=>⟨(hD v).1.symm,fun q=>((hD v).2 ((hD v).1.2 q)).symm⟩
  have yD:=hy.1.2.1.in hb
  refine .s hub ⟨⟨hy.1.1,hy.1.2.1.congr hb hD,by rw [← (hD _).2 yD,← (hD _).2 hu]; exact hy.1.2.2⟩,fun z hz sz fz=>?_⟩ (IsW.congr hb hD yD h)
  have zD:=sz.in hb'
  refine hy.2 z hz (sz.congr hb' hD') ?_
  rw [(hD _).2 ((hD _).1.2 zD),(hD _).2 hu]; exact fz
theorem SR.uniq {E : List AaA} {lv a b len : Int} : ∀ {U : Int→Bool} {dr : Bool} {l l' : List (List Int)},SR E lv a b len U dr l→SR E lv a b len U dr l'→l=l'
 | _,_,_,_,.no h q,.no h' q'=>rfl
 | _,_,_,_,.no h q,.go h' hb q' _ _=>by
  have:=h.uniq h' b
  rcases q with q | q
  ·exact absurd (this.1.2 hb) q
  ·rw [this.2 (this.1.2 hb)] at q; exact absurd q q'
 | _,_,_,_,.go h hb q _ _,.no h' q'=>by
  have:=h.uniq h' b
  rcases q' with q' | q'
  ·exact absurd (this.1.1 hb) q'
  ·rw [← this.2 hb] at q'; exact absurd q' q
 | _,_,_,_,.go h hb q hw r,.go h' hb' q' hw' r'=>by
  have e:=hw'.uniq (hw.congr hb (h.uniq h') h.a0.1)
  subst e
  rw [r.uniq r']
structure GQ (N : Nat) (E : List AaA) (g : List Int) : Prop where
 le : N≤12
 ok : okG N E g=true
theorem GQ.gv {N : Nat} {E : List AaA} {g : List Int} (h : GQ N E g) {a : Int} (ha : 0≤a∧a<N) : GV N E g:=⟨by omega,h.le,h.ok⟩
theorem GQ.next (k N : Nat) (E : List AaA) (g : List Int) (G : GQ N E g) (lv a b len : Int) (hk : 7001<k) (ha : 0≤a∧a<(N : Int)) (mm : List (Int×Bool)) (dr : Bool) :
 ∃ (D : List Int) (f : Int→Int),Bf (stF E lv a b (usB mm) dr) a D f∧(∀ v ∈ D,0≤v∧v<(N : Int))∧D.Nodup∧((b ∉ D∨len<f b)→AaB k (N : Int) E g lv a b mm dr len=some [])∧(b ∈ D→¬ len<f b→∃ l,AaB k (N : Int) E g lv a b mm dr len=some l∧IsW (stF E lv a b (usB mm) dr) b D f a l):=by
 have V:=G.gv ha
 have h5:=V.len; have hg:=V.glen; have hN:=G.le
 have hs:=((AdR _ _ _).1 G.ok).2.2.2
 have o12 : ∀ u,(outs (E.filter (lvE lv)) u).length≤12:=fun u=>Nat.le_trans (AlN E _ u) (V.outs u)
 refine AqZ k N (by omega) E g lv a b mm dr len (stp E lv a b mm dr) (fun u h0 h1=>Aoe k N E g lv a b mm dr u (by omega) (by omega) (by omega) (o12 u) (AhQ _ u (hs.filter _)) (by omega)) (fun u y hy=>?_) (fun u=>Ap9 hs) (fun u=>?_) hk ha
 ·obtain ⟨⟨e,he,_,_,rfl⟩,_,_⟩:=Aqg.1 hy
  have:=V.inE e he; omega
 ·have:=o12 u
  have:=List.length_filter_le (fun y => !stB mm a b dr u y) (outs (E.filter (lvE lv)) u)
  unfold stp; omega
theorem Af3 {E : List AaA} {lv a b : Int} {U : Int→Bool} {dr : Bool} {u y : Int} : y ∈ stF E lv a b U dr u↔eg E lv u y∧U y=false∧¬ (u=a∧y=b∧dr=true):=by
 unfold stF
 rw [List.mem_filter,AdG]
 simp only [List.mem_filter,lvE,decide_eq_true_eq,Bool.not_or,Bool.and_eq_true,Bool.not_eq_true',Bool.and_eq_false_imp]
 constructor
 ·rintro ⟨⟨e,⟨he,h1⟩,h2,h3⟩,h4,h5⟩
  exact ⟨⟨e,he,h1,h2,h3⟩,h4,fun q=>by have:=h5 ⟨q.1,q.2.1⟩; rw [q.2.2] at this; cases this⟩
 ·rintro ⟨⟨e,he,h1,h2,h3⟩,h4,h5⟩
  refine ⟨⟨e,⟨he,h1⟩,h2,h3⟩,h4,fun q=>?_⟩
  cases dr with
  | false=>rfl
  | true=>exact absurd ⟨q.1,q.2,rfl⟩ h5
theorem Bf.two {st : Int→List Int} {a b : Int} {D : List Int} {f : Int→Int} (h : Bf st a D f) (hb : b ∈ D) (hab : a≠b) : 1≤f b:=by
 obtain ⟨w,w1,w2,w3⟩:=h.pr b hb (fun e=>hab e.symm)
 have:=h.f0 w w1; omega
theorem IsW.pw {E : List AaA} {lv a b : Int} {U : Int→Bool} {dr : Bool} {D : List Int} {f : Int→Int} {w : List Int} (B : Bf (stF E lv a b U dr) a D f) (hb : b ∈ D) (hab : a≠b) (h : IsW (stF E lv a b U dr) b D f a w) : PW2 E lv a b w:=by
 have l:=h.len
 have:=B.two hb hab
 have a0:=B.a0.2
 obtain ⟨r,e⟩:=h.ne
 exact ⟨by omega,by rw [e]; rfl,h.last,h.nd,fun i hi=>(Af3.1 (h.ed i hi)).1⟩
theorem Ap.add {N : Nat} {E : List AaA} {lv a b : Int} {out : List (List Int)} {mm mm' : List (Int×Bool)} {dr : Bool} {D : List Int} {f : Int→Int} {w : List Int} (A : Ap N E lv a b out mm dr) (B : Bf (stF E lv a b (usB mm) dr) a D f) (hb : b ∈ D) (hab : a≠b) (h : IsW (stF E lv a b (usB mm) dr) b D f a w) (hE : inE N E) (ha : 0≤a∧a<(N : Int)) (hm : ∀ v,usB mm' v=true↔usB mm v=true∨v ∈ inn w) : Ap N E lv a b (out++[w]) mm' (dr||(w.length==2)):=by
 have P:=h.pw B hb hab
 have fresh : ∀ v ∈ inn w,usB mm v=false:=by
  intro v hv
  have hvw : v ∈ w:=by
   obtain ⟨i,hi,rfl⟩:=Agx.1 hv
   exact List.getElem_mem _
  rcases (h.mem v hvw).2 with e | ⟨_,_,u,hu⟩
  ·exact absurd e (Aki P hv).1
  ·exact (Af3.1 hu).2.1
 have dir : w.length=2→dr=false:=by
  intro e
  have h1:=h.ed 0 (by omega)
  have e0 : w[0]'(by omega)=a:=by
   have:=P.hd
   rw [List.head?_eq_getElem?,List.getElem?_eq_getElem (by omega)] at this
   exact Option.some.inj this
  have e1 : w[1]'(by omega)=b:=by
   have:=P.lt
   rw [List.getLast?_eq_getElem?,e,List.getElem?_eq_getElem (by omega)] at this
   exact Option.some.inj this
  have:=(Af3.1 h1).2.2
  cases hd : dr with
  | false=>rfl
  | true=>exact absurd ⟨e0,e1,hd⟩ this
 refine ⟨?_,?_,?_,?_,?_,?_⟩
 ·intro x hx
  rcases List.mem_append.1 hx with hx | hx
  ·exact A.pw x hx
  ·rw [List.mem_singleton] at hx; subst hx; exact P
 ·intro v
  rw [hm v,A.us v]
  constructor
  ·rintro (⟨x,hx,hv⟩ | hv)
   ·exact ⟨x,List.mem_append_left _ hx,hv⟩
   ·exact ⟨w,by simp,hv⟩
  ·rintro ⟨x,hx,hv⟩
   rcases List.mem_append.1 hx with hx | hx
   ·exact .inl ⟨x,hx,hv⟩
   ·rw [List.mem_singleton] at hx; subst hx; exact .inr hv
 ·rw [List.pairwise_append]
  refine ⟨A.dj,by simp,fun x hx y hy v hv hv'=>?_⟩
  rw [List.mem_singleton] at hy
  subst hy
  have:=(A.us v).2 ⟨x,hx,hv⟩
  rw [fresh v hv'] at this; cases this
 ·rw [Bool.or_eq_true,beq_iff_eq,A.dd]
  constructor
  ·rintro (⟨x,hx,e⟩ | e)
   ·exact ⟨x,List.mem_append_left _ hx,e⟩
   ·exact ⟨w,by simp,e⟩
  ·rintro ⟨x,hx,e⟩
   rcases List.mem_append.1 hx with hx | hx
   ·exact .inl ⟨x,hx,e⟩
   ·rw [List.mem_singleton] at hx; subst hx; exact .inr e
 ·rw [List.pairwise_append]
  refine ⟨A.d1,by simp,fun x hx y hy q=>?_⟩
  rw [List.mem_singleton] at hy
  subst hy
  have:=A.dd.2 ⟨x,hx,q.1⟩
  rw [dir q.2] at this; cases this
 ·intro x hx v hv
  rcases List.mem_append.1 hx with hx | hx
  ·exact A.rg x hx v hv
  ·rw [List.mem_singleton] at hx
   subst hx
   rcases (h.mem v hv).2 with e | ⟨_,_,u,hu⟩
   ·rw [e]; exact ha
   ·obtain ⟨e,he,_,_,rfl⟩:=(Af3.1 hu).1
    have:=hE e he; omega
theorem Alv (v : Int) : ∀ (L : List Int) (mm : List (Int×Bool)),usB (L.foldl (fun z v=>AbE z v true) mm) v=true↔usB mm v=true∨v ∈ L
 | [],mm=>by simp
 | x::L,mm=>by
  rw [List.foldl_cons,Alv v L (AbE mm x true),List.mem_cons]
  unfold usB
  rw [AcC]
  by_cases z : v=x
  ·rw [if_pos z]; simp [z]
  ·rw [if_neg z]; simp [z]
theorem Ap2 {mm mm' : List (Int×Bool)} {w : List Int} (h : ∀ v,usB mm' v=true↔usB mm v=true∨v ∈ inn w) : usB mm'=unU (usB mm) w:=by
 funext v
 have:=h v
 unfold unU
 cases h1 : usB mm' v <;> cases h2 : usB mm v <;> simp_all
theorem Ar8 (k N : Nat) (E : List AaA) (g : List Int) (G : GQ N E g) (lv a b len : Int) (hk : 7001<k) (ha : 0≤a∧a<(N : Int)) (hab : a≠b) : ∀ (m n : Nat) (w : List Int) (dr : Bool) (mm : List (Int×Bool)) (out : List (List Int)),out.length+m=N+1→m<n→Ap N E lv a b out mm dr→AaB k (N : Int) E g lv a b mm dr len=some w →
 ∃ (l : List (List Int)) (mm' : List (Int×Bool)) (dr' : Bool),Aao.L1 k (N : Int) E g lv a b len n w dr mm out=some (out++l)∧SR E lv a b len (usB mm) dr l∧Ap N E lv a b (out++l) mm' dr'
 | m,n+1,w,dr,mm,out,e,hn,A,hw=>by
  have V:=G.gv ha
  have lo:=A.len
  have hN:=G.le
  obtain ⟨D,f,B,_,Dn,h1,h2⟩:=GQ.next k N E g G lv a b len hk ha mm dr
  by_cases q : b ∈ D∧¬ len<f b
  ·obtain ⟨w',e1,iw⟩:=h2 q.1 q.2
   rw [hw] at e1
   have e1:=Option.some.inj e1
   subst e1
   have P:=iw.pw B q.1 hab
   have two:=P.two
   have wl : w.length≤N:=nodup_range N w P.nd fun v hv=>by
    rcases (iw.mem v hv).2 with e | ⟨_,_,u,hu⟩
    ·rw [e]; exact ha
    ·obtain ⟨x,hx,_,_,rfl⟩:=(Af3.1 hu).1
     have:=V.inE x hx; omega
   obtain ⟨m',rfl⟩ : ∃ m',m=m'+1:=by
    have A2:=A.add (mm':=(inn w).foldl (fun z v=>AbE z v true) mm) B q.1 hab iw V.inE ha (fun v=>Alv v (inn w) mm)
    have:=A2.len
    rw [List.length_append,List.length_singleton] at this
    exact ⟨m-1,by omega⟩
   obtain ⟨r,er⟩:=iw.ne
   rw [Aao.L1,if_pos (by rw [er]; rfl),AaT (by simp only [List.length_cons,List.length_nil]; omega),w64 (by omega) (by omega),AaT (by omega)]
   have li : (inn w).length≤w.length:=by unfold inn; simp; omega
   obtain ⟨mm',e3,hm⟩:=Atq k (N : Int) E g lv a b len w dr out (fun v10_ v11_ v12_ v13_=>Aao.L1 k (N : Int) E g lv a b len n v10_ v11_ v12_ v13_) two (by omega) (inn w).length 0 k mm (by omega) (by omega)
   rw [show Aao.L3 k (N : Int) E g lv a b len w dr out (fun v10_ v11_ v12_ v13_=>Aao.L1 k (N : Int) E g lv a b len n v10_ v11_ v12_ v13_) k 0 mm=_ from e3]
   have hm' : ∀ v,usB mm' v=true↔usB mm v=true∨v ∈ inn w:=fun v=>by rw [hm v,List.drop_zero]
   have A2:=A.add B q.1 hab iw V.inE ha hm'
   obtain ⟨D2,f2,B2,_,_,g1,g2⟩:=GQ.next k N E g G lv a b len hk ha mm' (dr||(w.length==2))
   have ex : ∃ w2,AaB k (N : Int) E g lv a b mm' (dr||(w.length==2)) len=some w2:=by
    by_cases z : b ∈ D2∧¬ len<f2 b
    ·obtain ⟨w2,z2,_⟩:=g2 z.1 z.2; exact ⟨w2,z2⟩
    ·exact ⟨[],g1 (by by_cases z1 : b ∈ D2 <;> by_cases z2 : len<f2 b <;> simp_all)⟩
   obtain ⟨w2,ew2⟩:=ex
   obtain ⟨l,mm3,dr3,k1,k2,k3⟩:=Ar8 k N E g G lv a b len hk ha hab m' n w2 (dr||(w.length==2)) mm' (out++[w]) (by rw [List.length_append,List.length_singleton]; omega) (by omega) A2 ew2
   have go : ∀ d2 : Bool,d2=(dr||(w.length==2))→Aao.J2 k (N : Int) E g lv a b len w out (fun v10_ v11_ v12_ v13_=>Aao.L1 k (N : Int) E g lv a b len n v10_ v11_ v12_ v13_) mm' d2=some (out++(w::l)):=by
    intro d2 hd
    unfold Aao.J2
    rw [hd,ew2,AaP]
    show Aao.L1 k (N : Int) E g lv a b len n w2 (dr||(w.length==2)) mm' (out++[w])=_
    rw [k1,List.append_assoc]; rfl
   refine ⟨w::l,mm3,dr3,?_,.go B q.1 q.2 iw (Ap2 hm' ▸ k2),by rw [List.append_assoc] at k3; exact k3⟩
   cases dr with
   | true=>rw [if_pos rfl]; exact go true rfl
   | false =>
    rw [if_neg (by simp)]
    refine go _ ?_
    rw [Bool.false_or,Bool.eq_iff_iff,beq_iff_eq,beq_iff_eq]; omega
  ·have z : b ∉ D∨len<f b:=by by_cases z1 : b ∈ D <;> by_cases z2 : len<f b <;> simp_all
   have:=h1 z
   rw [hw] at this
   have:=Option.some.inj this
   subst this
   rw [Aao.L1,if_neg (by simp)]
   exact ⟨[],mm,dr,by simp,.no B z,by simpa using A⟩
theorem AnL (k N : Nat) (E : List AaA) (g : List Int) (G : GQ N E g) (lv a b len : Int) (hk : 7001<k) : ∃ l,Aao k (N : Int) E g lv a b len=some l∧(Afh N lv a b=false→l = [])∧(Afh N lv a b=true→SR E lv a b len (fun _=>false) false l∧∃ mm dr,Ap N E lv a b l mm dr):=by
 have hN:=G.le
 unfold Aao
 rw [Ajs _ _ _ _ _ _ _ (by omega),AaP]
 cases hq : Afh N lv a b with
 | false=>exact ⟨[],by simp,by simp,by simp⟩
 | true =>
  have hq':=hq
  unfold Afh at hq'; rw [decide_eq_true_eq] at hq'
  have ha : 0≤a∧a<(N : Int):=⟨hq'.2.2.1,hq'.2.2.2.1⟩
  rw [if_neg (by simp)]
  have A0 : Ap N E lv a b [] [] false:=⟨by simp,fun v=>by simp [usB,AcI,mgI],by simp,by simp,by simp,by simp⟩
  obtain ⟨D2,f2,B2,_,_,g1,g2⟩:=GQ.next k N E g G lv a b len hk ha [] false
  have ex : ∃ w2,AaB k (N : Int) E g lv a b [] false len=some w2:=by
   by_cases z : b ∈ D2∧¬ len<f2 b
   ·obtain ⟨w2,z2,_⟩:=g2 z.1 z.2; exact ⟨w2,z2⟩
   ·exact ⟨[],g1 (by by_cases z1 : b ∈ D2 <;> by_cases z2 : len<f2 b <;> simp_all)⟩
  obtain ⟨w,ew⟩:=ex
  obtain ⟨l,mm,dr,k1,k2,k3⟩:=Ar8 k N E g G lv a b len hk ha hq'.2.2.2.2.2.2 (N+1) k w false [] [] (by simp) (by omega) A0 ew
  have hu : usB []=fun _=>false:=by funext v; simp [usB,AcI,mgI]
  rw [hu] at k2
  exact ⟨l,by rw [ew,AaP,k1]; rfl,by simp,fun _=>⟨k2,mm,dr,by simpa using k3⟩⟩
end Go.TF
set_option linter.unusedVariables false
set_option linter.unusedSimpArgs false
namespace Go.TF
open Go Go.Abs
theorem AoL : AeC 1000000000=some true:=by decide +kernel
end Go.TF
set_option linter.unusedVariables false
set_option linter.unusedSimpArgs false
namespace Go.TF
open Go Go.Abs
inductive Rc (R : List AaA) (a : Int) : Int→Prop
 | z : Rc R a a
 | s {e : AaA} (h : Rc R a e.From) (he : e ∈ R) : Rc R a e.To
def AqF (S : Int→Bool) (a b : Int) (e : AaA) : Bool:=decide (S e.From=false∧S e.To=false∧(e.From=a→e.To≠b))
def Avz (E : List AaA) (a b : Int) : Nat:=if b ∈ outs E a then 1 else 0
def AvW (N : Nat) (S : Int→Bool) : Nat:=((Ala N).filter S).length
structure Sep (E : List AaA) (a b : Int) (S : Int→Bool) : Prop where
 a0 : S a=false
 b0 : S b=false
 no : ¬ Rc (E.filter (AqF S a b)) a b
def crs (T : Int→Bool) (x : AaE) : Bool:=decide (T x.From=true∧T x.To=false)
theorem AqX (N : Nat) : (Ala N).Nodup:=by
 unfold Ala
 rw [List.nodup_iff_pairwise_ne,List.pairwise_map]
 exact List.nodup_range.imp fun {x y} h e=>h (by omega)
theorem AmF {α : Type} (p d : α→Bool) : ∀ l : List α,(l.filter fun x=>p x&&d x).length+(l.filter fun x=>p x && !d x).length=(l.filter p).length
 | []=>rfl
 | x::l=>by
  have ih:=AmF p d l
  rw [List.filter_cons,List.filter_cons,List.filter_cons]
  cases p x <;> cases d x <;> simp <;> omega
def ndX (a b : Int) (T : Int→Bool) (v : Int) : Bool:=decide (v≠a∧v≠b)&&crs T ⟨2+2*v,3+2*v,1⟩
def egX (a b : Int) (T : Int→Bool) (e : AaA) : Bool:=egP 1 a b e&&crs T (egM a b e)
theorem Rc.out {E : List AaA} {a b : Int} {S : Int→Bool} (h0 : S a=false) {v : Int} (h : Rc (E.filter (AqF S a b)) a v) : S v=false:=by
 cases h with
 | z=>exact h0
 | s h he =>
  have:=(List.mem_filter.1 he).2
  unfold AqF at this; rw [decide_eq_true_eq] at this; exact this.2.1
def kyE (b : Int) (e : AaA) : Int:=if e.To=b then e.From else e.To
def rim (N : Nat) (E : List AaA) (a b : Int) (T : Int→Bool) : List Int:=((Ala N).filter (ndX a b T))++((E.filter fun e=>egX a b T e && !(decide (e.From=a∧e.To=b))).map (kyE b))
end Go.TF
set_option linter.unusedVariables false
set_option linter.unusedSimpArgs false
namespace Go.TF
open Go Go.Abs
theorem AvT {α β : Type} {l : List α} {f : α→Option β} (h : 0<l.length) : idx l 0 f=f l[0]:=Aae (i:=0) h
theorem PW2.at0 {E : List AaA} {lv a b : Int} {w : List Int} (P : PW2 E lv a b w) (h : 0<w.length) : w[0]=a:=by
 have:=P.hd
 rw [List.head?_eq_getElem?,List.getElem?_eq_getElem h] at this
 exact Option.some.inj this
theorem PW2.at1 {E : List AaA} {lv a b : Int} {w : List Int} (P : PW2 E lv a b w) (h : w.length-1<w.length) : w[w.length-1]=b:=by
 have:=P.lt
 rw [List.getLast?_eq_getElem?,List.getElem?_eq_getElem h] at this
 exact Option.some.inj this
theorem PW2.ne {E : List AaA} {lv a b : Int} {w : List Int} (P : PW2 E lv a b w) {i j : Nat} (hi : i<w.length) (hj : j<w.length) (h : w[i]=w[j]) : i=j:=by
 have nd:=P.nd
 rw [List.nodup_iff_pairwise_ne,List.pairwise_iff_getElem] at nd
 apply Classical.byContradiction
 intro c
 by_cases z : i<j
 ·exact nd i j hi hj z h
 ·exact nd j i hj hi (by omega) h.symm
def mk (l : List Bool) (v : Int) : Bool:=l.getD v.toNat false
theorem AsR {l : List Bool} {v : Int} (h0 : 0≤v) (h : v.toNat<l.length) : mk l v=l[v.toNat]:=by
 unfold mk; rw [List.getD_eq_getElem?_getD,List.getElem?_eq_getElem h]; rfl
theorem Apl {l : List Bool} {u v : Int} (h0 : 0≤v) (hu : 0≤u∧u.toNat<l.length) : mk (l.set u.toNat true) v=if v=u then true else mk l v:=by
 unfold mk
 rw [List.getD_eq_getElem?_getD,List.getElem?_set,List.getD_eq_getElem?_getD]
 by_cases e : v=u
 ·subst e; rw [if_pos rfl,if_pos hu.2,if_pos rfl]; rfl
 ·rw [if_neg (by omega),if_neg e]
theorem Au6 {α β : Type} {l : List α} {v : Int} {f : α→Option β} (h0 : 0≤v) (h : v.toNat<l.length) : idx l v f=f l[v.toNat]:=by
 obtain ⟨n,rfl⟩:=Int.eq_ofNat_of_zero_le h0
 exact Aae h
def inR (N : Nat) (R : List AaA) : Prop:=∀ e ∈ R,0≤e.From∧e.From<N∧0≤e.To∧e.To<N
def cnM (N : Nat) (c : List Bool) : Nat:=AvW N (mk c)
def bs (s : Nat) (v : Int) : Bool:=decide (s / 2 ^ v.toNat % 2=1)
theorem Ahn (k : Nat) (E : List AaA) (x : Int) (h9 : E.length≤1000000) : ∀ (m i n : Nat) (acc : List Int),i+m=E.length→m<n→acc.length≤i→Abb.L1 k E x n (i : Int) acc=some (acc++outs (E.drop i) x)
 | 0,i,n+1,acc,e,_,_=>by rw [Abb.L1,if_neg (by omega),List.drop_of_length_le (by omega)]; simp [outs]
 | m+1,i,n+1,acc,e,hn,la=>by
  have hi : i<E.length:=by omega
  have ih:=fun acc=>Ahn k E x h9 m (i+1) n acc (by omega) (by omega)
  rw [Abb.L1,if_pos (by omega),Aae hi,List.drop_eq_getElem_cons hi]
  unfold Abb.J2
  simp only [AdA i (by omega)]
  by_cases q : E[i].From=x
  ·rw [if_pos q,AaT (by simp only [List.length_cons,List.length_nil]; omega),ih _ (by simp; omega)]
   unfold outs
   rw [List.filter_cons,if_pos (by simpa using q),List.map_cons,List.append_assoc]; rfl
  ·rw [if_neg q,ih _ (by omega)]
   unfold outs
   rw [List.filter_cons,if_neg (by simpa using q)]
end Go.TF
set_option linter.unusedVariables false
set_option linter.unusedSimpArgs false
namespace Go.TF
open Go Go.Abs
theorem Ahs (k : Nat) (N : Int) (E : List AaA) (g : List Int) (lv a b : Int) : Aci k N E g lv a b=some (Afh N lv a b):=by
 unfold Aci Afh
 by_cases h1 : 1≤lv
 ·rw [if_pos h1]
  by_cases h2 : lv≤3
  ·rw [if_pos h2]
   by_cases h3 : 0≤a
   ·rw [if_pos h3]
    by_cases h4 : a<N
    ·rw [if_pos h4]
     by_cases h5 : 0≤b
     ·rw [if_pos h5]
      by_cases h6 : b<N
      ·rw [if_pos h6]
       by_cases h7 : a=b
       ·subst h7; rw [decide_eq_false (by omega)]; simp
       ·rw [decide_eq_true (by omega)]; simpa using h7
      ·rw [if_neg h6,decide_eq_false (by omega)]
     ·rw [if_neg h5,decide_eq_false (by omega)]
    ·rw [if_neg h4,decide_eq_false (by omega)]
   ·rw [if_neg h3,decide_eq_false (by omega)]
  ·rw [if_neg h2,decide_eq_false (by omega)]
 ·rw [if_neg h1,decide_eq_false (by omega)]
theorem Anw {E : List AaA} {lv u v : Int} : v ∈ outs (E.filter (lvE lv)) u↔eg E lv u v:=by
 rw [AdG]
 unfold eg lvE
 constructor
 ·rintro ⟨e,he,h1,h2⟩
  obtain ⟨he,hl⟩:=List.mem_filter.1 he
  exact ⟨e,he,by simpa using hl,h1,h2⟩
 ·rintro ⟨e,he,hl,h1,h2⟩
  exact ⟨e,List.mem_filter.2 ⟨he,by simpa using hl⟩,h1,h2⟩
structure Stp (E : List AaA) (lv : Int) (w : List Int) (i : Nat) : Prop where
 fr : ∀ (j : Nat) (h : j<w.length),i≤j→w[j] ∉ w.take j
 ed : ∀ (j : Nat) (h : j+1<w.length),i≤j+1→eg E lv w[j] w[j+1]
theorem Al3 (k : Nat) (N : Int) (E : List AaA) (g : List Int) (lv : Int) (w : List Int) (hk : E.length<k) (h9 : E.length≤1000000) (hw : w.length<k) (hw9 : w.length≤1000000) : ∀ (m i n : Nat),i+m=w.length→m<n→∃ r,AbQ.L1 k N (E.filter (lvE lv)) g w n (i : Int)=some r∧(r=true↔Stp E lv w i)
 | 0,i,n+1,e,_=>by
  refine ⟨true,by rw [AbQ.L1,if_neg (by omega)],⟨fun _=>⟨fun j h hi=>by omega,fun j h hi=>by omega⟩,fun _=>rfl⟩⟩
 | m+1,i,n+1,e,hn=>by
  have hi : i<w.length:=by omega
  have lf:=List.length_filter_le (lvE lv) E
  obtain ⟨r,e1,e2⟩:=Al3 k N E g lv w hk h9 hw hw9 m (i+1) n (by omega) (by omega)
  rw [AbQ.L1,if_pos (by omega),AaT (by omega),Aae hi,AeB k (w.take ((i : Int)).toNat) w[i] (by rw [List.length_take]; omega) (by rw [List.length_take]; omega),AaP,show ((i : Int)).toNat=i by omega]
  unfold AbQ.J2
  simp only [AdA i (by omega)]
  by_cases q : w[i] ∈ w.take i
  ·rw [if_pos (by simpa using q)]
   exact ⟨false,rfl,⟨fun h=>(by cases h),fun h=>absurd q (h.fr i hi (by omega))⟩⟩
  ·rw [if_neg (by simpa using q)]
   by_cases q0 : 0<i
   ·obtain ⟨p,rfl⟩ : ∃ p,i=p+1:=⟨i-1,by omega⟩
    have hp : p<w.length:=by omega
    have ro:=Ahn k (E.filter (lvE lv)) w[p] (by omega) (E.filter (lvE lv)).length 0 k [] (by omega) (by omega) (by simp)
    rw [List.nil_append,List.drop_zero] at ro
    have lo : (outs (E.filter (lvE lv)) w[p]).length≤E.length:=by
     unfold outs; rw [List.length_map]; exact Nat.le_trans (List.length_filter_le _ _) lf
    rw [if_pos (by omega),ArN p (by omega),Aae hp,show Abb k N (E.filter (lvE lv)) g w[p]=_ from ro,AaP,AeB k _ _ (by omega) (by omega),AaP]
    by_cases q1 : w[p+1] ∈ outs (E.filter (lvE lv)) w[p]
    ·rw [if_neg (by simpa using q1)]
     refine ⟨r,e1,e2.trans ⟨fun h=>⟨fun j hj z=>?_,fun j hj z=>?_⟩,fun h=>⟨fun j hj z=>h.fr j hj (by omega),fun j hj z=>h.ed j hj (by omega)⟩⟩⟩
     ·by_cases c : j=p+1
      ·subst c; exact q
      ·exact h.fr j hj (by omega)
     ·by_cases c : j=p
      ·subst c; exact Anw.1 q1
      ·exact h.ed j hj (by omega)
    ·rw [if_pos (by simpa using q1)]
     exact ⟨false,rfl,⟨fun h=>(by cases h),fun h=>absurd (Anw.2 (h.ed p hi (by omega))) q1⟩⟩
   ·rw [if_neg (by omega)]
    refine ⟨r,e1,e2.trans ⟨fun h=>⟨fun j hj z=>?_,fun j hj z=>?_⟩,fun h=>⟨fun j hj z=>h.fr j hj (by omega),fun j hj z=>h.ed j hj (by omega)⟩⟩⟩
    ·by_cases c : j=i
     ·subst c; exact q
     ·exact h.fr j hj (by omega)
    ·exact h.ed j hj (by omega)
theorem Ana {w : List Int} : (∀ (j : Nat) (h : j<w.length),w[j] ∉ w.take j)↔w.Nodup:=by
 rw [List.nodup_iff_pairwise_ne,List.pairwise_iff_getElem]
 constructor
 ·intro h i j hi hj z e
  refine h j hj (List.mem_iff_getElem.2 ⟨i,by rw [List.length_take]; omega,?_⟩)
  rw [List.getElem_take]; exact e
 ·intro h j hj hm
  obtain ⟨i,hi,e⟩:=List.mem_iff_getElem.1 hm
  rw [List.length_take] at hi
  rw [List.getElem_take] at e
  exact h i j (by omega) hj (by omega) e
theorem Aol (k : Nat) (N : Int) (E : List AaA) (g : List Int) (lv a b : Int) (w : List Int) (hk : E.length<k) (h9 : E.length≤1000000) (hw : w.length<k) (hw9 : w.length≤1000000) : ∃ r,AbQ k N (E.filter (lvE lv)) g a b w=some r∧(r=true↔PW2 E lv a b w):=by
 unfold AbQ
 by_cases h2 : (w.length : Int)<2
 ·rw [if_pos h2]
  exact ⟨false,rfl,⟨fun h=>(by cases h),fun h=>by have:=h.two; omega⟩⟩
 rw [if_neg h2,AvT (by omega)]
 have hl : w.length-1<w.length:=by omega
 by_cases q : w[0]'(by omega)=a
 ·rw [if_neg (by simpa using q),show IntKind.wrap .i64 ((w.length : Int)-1)=((w.length-1 : Nat) : Int) by rw [w64 (by omega) (by omega)]; omega,Aae hl]
  by_cases q2 : w[w.length-1]=b
  ·rw [if_neg (by simpa using q2)]
   obtain ⟨r,e1,e2⟩:=Al3 k N E g lv w hk h9 hw hw9 w.length 0 k (by omega) hw
   refine ⟨r,e1,e2.trans ⟨fun h=>⟨by omega,?_,?_,Ana.1 fun j hj=>h.fr j hj (by omega),fun j hj=>h.ed j hj (by omega)⟩,fun h=>⟨fun j hj _=>Ana.2 h.nd j hj,fun j hj _=>h.ed j hj⟩⟩⟩
   ·rw [List.head?_eq_getElem?,List.getElem?_eq_getElem (by omega),q]
   ·rw [List.getLast?_eq_getElem?,List.getElem?_eq_getElem hl,q2]
  ·rw [if_pos (by simpa using q2)]
   exact ⟨false,rfl,⟨fun h=>(by cases h),fun h=>absurd (h.at1 hl) q2⟩⟩
 ·rw [if_pos (by simpa using q)]
  exact ⟨false,rfl,⟨fun h=>(by cases h),fun h=>absurd (h.at0 (by omega)) q⟩⟩
structure ApL (E : List AaA) (lv a b : Int) (out : List (List Int)) : Prop where
 pw : ∀ w ∈ out,PW2 E lv a b w
 dj : out.Pairwise fun w w'=>∀ v ∈ inn w,v ∉ inn w'
 d1 : (out.filter fun w=>decide (w.length=2)).length≤1
theorem Am7 (k : Nat) (i c : Int) (w : List Int) (kb : Int→Int→(List Int)→Option Bool) (hw9 : w.length≤1000000) (hk9 : 3000001<k) : ∀ (m j n : Nat) (u : List Int),j+m=(inn w).length→m<n→u.length+m≤1000000 →
 (¬ ((∀ v ∈ (inn w).drop j,v ∉ u)∧((inn w).drop j).Nodup)∧Aaq.L3 k i w c kb n ((j+1 : Nat) : Int) u=some false)∨((∀ v ∈ (inn w).drop j,v ∉ u)∧((inn w).drop j).Nodup∧Aaq.L3 k i w c kb n ((j+1 : Nat) : Int) u=kb c (IntKind.wrap .i64 (i+1)) (u++(inn w).drop j))
 | 0,j,n+1,u,e,_,_=>by
  right
  have li : (inn w).length=w.length-2:=by unfold inn; rw [List.length_take,List.length_drop]; omega
  rw [List.drop_of_length_le (by omega),Aaq.L3,w64 (by omega) (by omega),if_neg (by omega)]
  simp
 | m+1,j,n+1,u,e,hn,hu=>by
  have li : (inn w).length=w.length-2:=by unfold inn; rw [List.length_take,List.length_drop]; omega
  have hj : j<(inn w).length:=by omega
  have hj1 : j+1<w.length:=by omega
  have ej' : ∀ h : j<((w.drop 1).take (w.length-2)).length,((w.drop 1).take (w.length-2))[j]=w[j+1]:=fun h=>by
   rw [List.getElem_take,List.getElem_drop]; congr 1; omega
  have ej : (inn w)[j]=w[j+1]:=ej' hj
  have ih:=Am7 k i c w kb hw9 hk9 m (j+1) n (u++[w[j+1]]) (by omega) (by omega) (by rw [List.length_append,List.length_singleton]; omega)
  rw [Aaq.L3,w64 (n:=((j+1 : Nat) : Int)+1) (by omega) (by omega),if_pos (by omega),Aae hj1,AeB k u _ (by omega) (by omega),AaP,List.drop_eq_getElem_cons hj,ej]
  by_cases q : w[j+1] ∈ u
  ·rw [if_pos (by simpa using q)]
   exact .inl ⟨fun h=>h.1 _ List.mem_cons_self q,rfl⟩
  ·rw [if_neg (by simpa using q),AaT (by simp only [List.length_cons,List.length_nil]; omega)]
   rcases ih with ⟨h1,h2⟩ | ⟨h1,h2,h3⟩
   ·left
    refine ⟨fun h=>h1 ⟨fun v hv hm=>?_,(List.nodup_cons.1 h.2).2⟩,h2⟩
    rcases List.mem_append.1 hm with hm | hm
    ·exact h.1 v (List.mem_cons_of_mem _ hv) hm
    ·rw [List.mem_singleton] at hm
     subst hm
     exact (List.nodup_cons.1 h.2).1 hv
   ·right
    refine ⟨fun v hv=>?_,List.nodup_cons.2 ⟨fun z=>h1 _ z (by simp),h2⟩,?_⟩
    ·rcases List.mem_cons.1 hv with rfl | hv
     ·exact q
     ·exact fun z=>h1 v hv (List.mem_append_left _ z)
    ·rw [show ((j+1+1 : Nat) : Int)=((j+1 : Nat) : Int)+1 by omega] at h3
     rw [h3,List.append_assoc]; rfl
theorem AsY {E : List AaA} {lv a b : Int} {w : List Int} (h : PW2 E lv a b w) : (inn w).Nodup:=by
 unfold inn
 exact (h.nd.sublist (List.drop_sublist _ _)).sublist (List.take_sublist _ _)
theorem Am8 (k : Nat) (N : Int) (E : List AaA) (g : List Int) (lv a b : Int) (out : List (List Int)) (hk : E.length<k) (h9 : E.length≤1000000) (hk9 : 3000001<k) (hw : ∀ w ∈ out,w.length≤601) (ho : out.length≤601) : ∀ (m i n c : Nat) (u : List Int),i+m=out.length→m<n→u.length≤601*i→c≤i →
 ∃ r,Aaq.L1 k a b out N (E.filter (lvE lv)) g n (c : Int) (i : Int) u=some r∧(r=true↔(∀ w ∈ out.drop i,PW2 E lv a b w∧∀ v ∈ inn w,v ∉ u)∧(out.drop i).Pairwise (fun w w'=>∀ v ∈ inn w,v ∉ inn w')∧c+((out.drop i).filter fun w=>decide (w.length=2)).length≤1)
 | 0,i,n+1,c,u,e,_,hu,hc=>by
  rw [Aaq.L1,if_neg (by omega),List.drop_of_length_le (by omega)]
  exact ⟨_,rfl,by simp; omega⟩
 | m+1,i,n+1,c,u,e,hn,hu,hc=>by
  have hi : i<out.length:=by omega
  obtain ⟨w,ew⟩ : ∃ w,out[i]=w:=⟨_,rfl⟩
  have hm : w ∈ out:=ew ▸ List.getElem_mem hi
  have wl:=hw w hm
  obtain ⟨r,r1,r2⟩:=Aol k N E g lv a b w hk h9 (by omega) (by omega)
  rw [Aaq.L1,if_pos (by omega),Aae hi,ew,r1,AaP,List.drop_eq_getElem_cons hi,ew]
  cases r with
  | false =>
   rw [if_pos (show (!false)=true from rfl)]
   refine ⟨false,rfl,⟨fun h=>(by cases h),fun h=>?_⟩⟩
   have:=r2.2 (h.1 w List.mem_cons_self).1
   cases this
  | true =>
   have P:=r2.1 rfl
   have two:=P.two
   have nd:=AsY P
   have li : (inn w).length=w.length-2:=by unfold inn; rw [List.length_take,List.length_drop]; omega
   rw [if_neg (by simp)]
   have go : ∀ c' : Nat,c'≤i+1→c'=c+(if w.length=2 then 1 else 0)→∃ r,Aaq.J2 k (i : Int) u w (fun v12_ v13_ v14_=>Aaq.L1 k a b out N (E.filter (lvE lv)) g n v12_ v13_ v14_) (c' : Int)=some r∧(r=true↔(∀ x ∈ w::out.drop (i+1),PW2 E lv a b x∧∀ v ∈ inn x,v ∉ u)∧(w::out.drop (i+1)).Pairwise (fun w w'=>∀ v ∈ inn w,v ∉ inn w')∧c+((w::out.drop (i+1)).filter fun w=>decide (w.length=2)).length≤1):=by
    intro c' hc' ec
    have cl : c+((w::out.drop (i+1)).filter fun w=>decide (w.length=2)).length=c'+((out.drop (i+1)).filter fun w=>decide (w.length=2)).length:=by
     rw [List.filter_cons,ec]
     by_cases z : w.length=2
     ·rw [if_pos (by simpa using z),if_pos z]; simp only [List.length_cons]; omega
     ·rw [if_neg (by simpa using z),if_neg z]; omega
    unfold Aaq.J2
    rcases Am7 k (i : Int) (c' : Int) w (fun v12_ v13_ v14_=>Aaq.L1 k a b out N (E.filter (lvE lv)) g n v12_ v13_ v14_) (by omega) hk9 (inn w).length 0 k u (by omega) (by omega) (by omega) with ⟨h1,h2⟩ | ⟨h1,h2,h3⟩
    ·refine ⟨false,h2,⟨fun h=>(by cases h),fun h=>?_⟩⟩
     rw [List.drop_zero] at h1
     exact absurd ⟨(h.1 w List.mem_cons_self).2,nd⟩ h1
    ·rw [List.drop_zero] at h1 h3
     obtain ⟨r,q1,q2⟩:=Am8 k N E g lv a b out hk h9 hk9 hw ho m (i+1) n c' (u++inn w) (by omega) (by omega) (by rw [List.length_append]; omega) hc'
     refine ⟨r,?_,q2.trans ?_⟩
     ·rw [show Aaq.L3 k (i : Int) w (c' : Int) (fun v12_ v13_ v14_=>Aaq.L1 k a b out N (E.filter (lvE lv)) g n v12_ v13_ v14_) k 1 u=_ from h3]
      simp only [AdA i (by omega)]
      exact q1
     ·rw [cl,List.pairwise_cons]
      constructor
      ·rintro ⟨g1,g2,g3⟩
       refine ⟨fun x hx=>?_,⟨fun x hx v hv hv'=>?_,g2⟩,g3⟩
       ·rcases List.mem_cons.1 hx with rfl | hx
        ·exact ⟨P,h1⟩
        ·exact ⟨(g1 x hx).1,fun v hv z=>(g1 x hx).2 v hv (List.mem_append_left _ z)⟩
       ·exact (g1 x hx).2 v hv' (List.mem_append_right _ hv)
      ·rintro ⟨g1,⟨g4,g2⟩,g3⟩
       refine ⟨fun x hx=>⟨(g1 x (List.mem_cons_of_mem _ hx)).1,fun v hv z=>?_⟩,g2,g3⟩
       rcases List.mem_append.1 z with z | z
       ·exact (g1 x (List.mem_cons_of_mem _ hx)).2 v hv z
       ·exact g4 x hx v z hv
   by_cases z : w.length=2
   ·rw [if_pos (by omega),AdA c (by omega)]
    exact go (c+1) (by omega) (by rw [if_pos z])
   ·rw [if_neg (by omega)]
    exact go c (by omega) (by rw [if_neg z]; rfl)
theorem Aom (k : Nat) (N : Int) (E : List AaA) (g : List Int) (lv a b : Int) (out : List (List Int)) (hk : E.length<k) (h9 : E.length≤1000000) (hg9 : g.length≤1000000) (hk9 : 3000001<k) (hw : ∀ w ∈ out,w.length≤601) (ho : out.length≤601) :
 ∃ r,Aaq k N E g lv a b out=some r∧(Afh N lv a b=true→(r=true↔ApL E lv a b out))∧(Afh N lv a b=false→(r=true↔out = [])):=by
 unfold Aaq
 rw [Ahs,AaP]
 cases hq : Afh N lv a b with
 | false =>
  refine ⟨_,by rw [if_pos (show (!false)=true from rfl)],fun h=>by simp at h,fun _=>?_⟩
  rw [beq_iff_eq]
  cases out <;> simp <;> omega
 | true =>
  rw [if_neg (by simp),Aho k N E g lv hk h9 hg9,Ado]
  obtain ⟨r,r1,r2⟩:=Am8 k N E g lv a b out hk h9 hk9 hw ho out.length 0 k 0 [] (by omega) (by omega) (by simp) (by omega)
  refine ⟨r,r1,fun _=>r2.trans ?_,fun h=>by simp at h⟩
  rw [List.drop_zero]
  constructor
  ·rintro ⟨h1,h2,h3⟩
   exact ⟨fun w hw=>(h1 w hw).1,h2,by omega⟩
  ·intro h
   exact ⟨fun w hw=>⟨h.pw w hw,by simp⟩,h.dj,by have:=h.d1; omega⟩
end Go.TF
