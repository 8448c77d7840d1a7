import Derived.Test.YtelffnegemdicaaMdtPla38
set_option linter.unusedVariables false
set_option linter.unusedSimpArgs false
namespace Go.TF
open Go Go.Abs
theorem Asl (lv a b : Int) (E : List AaA) : egA lv a b (E.filter (lvE lv))=egA lv a b E:=by
 unfold egA
 rw [List.filter_filter]
 congr 1
 refine List.filter_congr fun e _=>?_
 unfold egP lvE
 by_cases h : lv≤e.Level
 ·simp [h]
 ·simp [h]
theorem Arx (k : Nat) (E : List AaA) (lv a b N : Int) (h9 : E.length≤100001) (hl : ∀ e ∈ E,lv≤e.Level) (hE : ∀ e ∈ E,0≤e.From∧e.From≤100001∧0≤e.To∧e.To≤100001) : ∀ (m i n : Nat) (acc : List AaE),i+m=E.length→m<n→acc.length≤200002+i→Aac.L3 k a b N E n (i : Int) acc=(Agh (Aav k (IntKind.wrap .i64 (2+IntKind.wrap .i64 (2*N))) (acc++egA lv a b (E.drop i))) fun v20 _=>Abh (Aa6 k (IntKind.wrap .i64 (2+IntKind.wrap .i64 (2*N))) (acc++egA lv a b (E.drop i)) v20) fun v22=>some v22)
 | 0,i,n+1,acc,e,_,_=>by
  rw [Aac.L3,if_neg (by omega),List.drop_of_length_le (by omega)]
  simp [egA]
 | m+1,i,n+1,acc,e,hn,ha=>by
  have hi : i<E.length:=by omega
  have ih:=fun acc'=>Arx k E lv a b N h9 hl hE m (i+1) n acc' (by omega) (by omega)
  have hr:=hE _ (List.getElem_mem hi)
  have hv:=hl _ (List.getElem_mem hi)
  rw [Aac.L3,if_pos (by omega),Aae hi,List.drop_eq_getElem_cons hi,AmJ]
  have key : ∀ u v : Int,egM a b E[i]=⟨u,v,1⟩→Aac.J6 k a b (i : Int) acc E[i] u (fun v14_ v15_=>Aac.L3 k a b N E n v14_ v15_) v=(Agh (Aav k (IntKind.wrap .i64 (2+IntKind.wrap .i64 (2*N))) (acc++((if egP lv a b E[i] then [egM a b E[i]] else [])++egA lv a b (E.drop (i+1))))) fun v20 _=>Abh (Aa6 k (IntKind.wrap .i64 (2+IntKind.wrap .i64 (2*N))) (acc++((if egP lv a b E[i] then [egM a b E[i]] else [])++egA lv a b (E.drop (i+1)))) v20) fun v22=>some v22):=by
   intro u v q
   unfold Aac.J6 Aac.J4
   simp only [AdA i (by omega)]
   by_cases q2 : E[i].To≠a
   ·rw [if_pos q2]
    by_cases q3 : E[i].From≠b
    ·rw [if_pos q3,AaT (by simp only [List.length_cons,List.length_nil]; omega),ih _ (by simp; omega),if_pos (by unfold egP; rw [decide_eq_true_eq]; exact ⟨hv,q2,q3⟩),q,List.append_assoc]
    ·rw [if_neg q3,ih _ (by omega),if_neg (by unfold egP; rw [decide_eq_true_eq]; exact fun z=>q3 z.2.2)]; rfl
   ·rw [if_neg q2,ih _ (by omega),if_neg (by unfold egP; rw [decide_eq_true_eq]; exact fun z=>q2 z.2.1)]; rfl
  unfold Aac.J5
  rw [w64 (n:=2*E[i].From) (by omega) (by omega),w64 (n:=3+2*E[i].From) (by omega) (by omega),w64 (n:=2*E[i].To) (by omega) (by omega),w64 (n:=2+2*E[i].To) (by omega) (by omega)]
  by_cases q4 : E[i].From=a <;> by_cases q5 : E[i].To=b
  ·rw [if_pos q4,if_pos q5]; exact key _ _ (by unfold egM; rw [if_pos q4,if_pos q5])
  ·rw [if_pos q4,if_neg q5]; exact key _ _ (by unfold egM; rw [if_pos q4,if_neg q5])
  ·rw [if_neg q4,if_pos q5]; exact key _ _ (by unfold egM; rw [if_neg q4,if_pos q5])
  ·rw [if_neg q4,if_neg q5]; exact key _ _ (by unfold egM; rw [if_neg q4,if_neg q5])
theorem Ary (k N : Nat) (E : List AaA) (a b : Int) (hN : N≤1001) : ∀ (m i n : Nat),i+m=N→m<n→Aac.L1 k a b (N : Int) E n (i : Int) (ndA a b i)=Aac.L3 k a b (N : Int) E k 0 (ndA a b N)
 | 0,i,n+1,e,_=>by
  have : i=N:=by omega
  subst this
  rw [Aac.L1,if_neg (by omega)]
 | m+1,i,n+1,e,hn=>by
  have ih:=Ary k N E a b hN m (i+1) n (by omega) (by omega)
  have hl:=AfJ a b i
  rw [Aac.L1,if_pos (by omega)]
  unfold Aac.J2
  simp only [AdA i (by omega)]
  rw [Al9] at ih
  by_cases q1 : (i : Int)≠a
  ·rw [if_pos q1]
   by_cases q2 : (i : Int)≠b
   ·rw [if_pos q2,w64 (n:=2*(i : Int)) (by omega) (by omega),w64 (n:=2+2*(i : Int)) (by omega) (by omega),w64 (n:=3+2*(i : Int)) (by omega) (by omega),AaT (by simp only [List.length_cons,List.length_nil]; omega)]
    rw [if_pos ⟨q1,q2⟩] at ih
    exact ih
   ·rw [if_neg q2]; rw [if_neg (by omega),List.append_nil] at ih; exact ih
  ·rw [if_neg q1]; rw [if_neg (by omega),List.append_nil] at ih; exact ih
theorem Aon (k N : Nat) (E : List AaA) (g : List Int) (lv a b : Int) (hN : N≤64) (hE : inE N E) (h5 : E.length≤500) (hg9 : g.length≤1000000) (hk : 1300<k) : ∃ v,Aac k (N : Int) E g lv a b=some v∧Agk N E lv a b v:=by
 unfold Aac
 rw [Ahs,AaP]
 cases ha : Afh N lv a b with
 | false=>exact ⟨0,by simp,.mk' (fun _=>rfl) (fun h=>by rw [ha] at h; cases h) (by omega) (by omega)⟩
 | true =>
  have hq:=ha
  unfold Afh at hq; rw [decide_eq_true_eq] at hq
  have nv:=AjQ (lv:=lv) hN hE h5 ⟨hq.2.2.1,hq.2.2.2.1,hq.2.2.2.2.1,hq.2.2.2.2.2.1,hq.2.2.2.2.2.2⟩
  have l1:=nv.len
  have lf:=List.length_filter_le (lvE lv) E
  obtain ⟨f,f1,f2⟩:=AqK k (2+2*N) (AcO N E lv a b) nv (by omega) 1200 (Ahr nv) (by omega)
  have L3:=Arx k (E.filter (lvE lv)) lv a b (N : Int) (by omega) (fun e he=>by simpa [lvE] using (List.mem_filter.1 he).2) (fun e he=>by have:=hE e (List.mem_filter.1 he).1; omega) (E.filter (lvE lv)).length 0 k (ndA a b N) (by omega) (by omega) (by have:=AfJ a b N; omega)
  rw [List.drop_zero,Asl,show IntKind.wrap .i64 (2+IntKind.wrap .i64 (2*(N : Int)))=((2+2*N : Nat) : Int) by rw [w64 (n:=2*(N : Int)) (by omega) (by omega),w64 (by omega) (by omega)]; omega] at L3
  rw [if_neg (by simp),Aho k _ E g lv (by omega) (by omega) hg9,Ado]
  rw [show Aac.L1 k a b (N : Int) (E.filter (lvE lv)) k 0 []=_ from Ary k N (E.filter (lvE lv)) a b (by omega) N 0 k (by omega) (by omega)]
  rw [show Aac.L3 k a b (N : Int) (E.filter (lvE lv)) k 0 (ndA a b N)=_ from L3]
  have f1' : Aav k ((2+2*N : Nat) : Int) (ndA a b N++egA lv a b E)=some (f,0):=f1
  have fv : Aa6 k ((2+2*N : Nat) : Int) (ndA a b N++egA lv a b E) f=some (Mf.val (ar (AcO N E lv a b)) f):=by
   have:=AnA k ((2+2*N : Nat) : Int) (AcO N E lv a b) f hk
   rw [(AiA _ _ _).2 ⟨2+2*N,rfl,nv,f2.fl⟩,if_pos rfl] at this
   exact this
  rw [f1',AbK,fv,AaP]
  exact ⟨_,rfl,Ald nv ha f2⟩
theorem Agk.uniq {N : Nat} {E : List AaA} {lv a b v w : Int} (h : Agk N E lv a b v) (h' : Agk N E lv a b w) : v=w:=by
 cases q : Afh N lv a b with
 | false=>rw [h.no q,h'.no q]
 | true =>
  have l:=h.yes q; have l':=h'.yes q
  have x:=Mf.Least.mono l l' fun S _ _=>Int.le_refl _
  have y:=Mf.Least.mono l' l fun S _ _=>Int.le_refl _
  omega
def kyA (b : Int) (A : List AaE) : List Int→List Int
 | []=>[]
 | x::W=>(if (gA A x).To=1 then [b] else if (gA A x).To % 2=0 then [((gA A x).To-2) / 2] else [])++kyA b A W
theorem Anj (b : Int) (A : List AaE) : ∀ W : List Int,(kyA b A W).length≤W.length
 | []=>by simp [kyA]
 | x::W=>by
  have ih:=Anj b A W
  rw [kyA,List.length_append,List.length_cons]
  split
  ·simp only [List.length_cons,List.length_nil]; omega
  ·split <;> simp only [List.length_cons,List.length_nil] <;> omega
theorem AhB {A : List AaE} {x : Int} (h : 0≤x∧x<A.length) : gA A x ∈ A:=by
 obtain ⟨i,rfl⟩:=Int.eq_ofNat_of_zero_le h.1
 rw [AfK (by omega)]; exact List.getElem_mem _
theorem As2 (k : Nat) (b : Int) (A : List AaE) (ix : Int) (out : List (List Int)) (W : List Int) (kb : Int→(List (List Int))→Option (List (List Int))) (hA : ∀ x ∈ A,0≤x.To∧x.To≤1000000) (hW : ∀ x ∈ W,0≤x∧x<A.length) (h9 : W.length≤1000000) (ho : out.length≤1000000) : ∀ (m i n : Nat) (acc : List Int),i+m=W.length→m<n→acc.length≤1+i →
 Aap.L2 k b A ix out W kb n (i : Int) acc=kb (IntKind.wrap .i64 (ix+1)) (out++[acc++kyA b A (W.drop i)])
 | 0,i,n+1,acc,e,_,la=>by
  rw [Aap.L2,if_neg (by omega),List.drop_of_length_le (by omega),AaT (by simp only [List.length_cons,List.length_nil]; omega)]
  simp [kyA]
 | m+1,i,n+1,acc,e,hn,la=>by
  have hi : i<W.length:=by omega
  have hx:=hW _ (List.getElem_mem hi)
  have ih:=fun acc=>As2 k b A ix out W kb hA hW h9 ho m (i+1) n acc (by omega) (by omega)
  have ga : A[W[i].toNat]'(by omega)=gA A W[i]:=by
   unfold gA; rw [List.getD_eq_getElem?_getD,List.getElem?_eq_getElem (by omega)]; rfl
  have gt:=hA _ (AhB hx)
  rw [Aap.L2,if_pos (by omega),Aae hi,Au6 hx.1 (by omega),ga,List.drop_eq_getElem_cons hi,kyA]
  unfold Aap.J3
  simp only [AdA i (by omega)]
  by_cases q : (gA A W[i]).To=1
  ·rw [if_pos q,if_pos q,AaT (by simp only [List.length_cons,List.length_nil]; omega),ih _ (by rw [List.length_append]; simp only [List.length_cons,List.length_nil]; omega),List.append_assoc]
  ·rw [if_neg q,if_neg q,Int.tmod_eq_emod_of_nonneg (by omega)]
   by_cases q2 : (gA A W[i]).To % 2=0
   ·have e1 : IntKind.wrap .i64 (Int.tdiv (IntKind.wrap .i64 ((gA A W[i]).To-2)) 2)=((gA A W[i]).To-2) / 2:=by
     rw [w64 (n:=(gA A W[i]).To-2) (by omega) (by omega)]
     have : Int.tdiv ((gA A W[i]).To-2) 2=((gA A W[i]).To-2) / 2:=by
      obtain ⟨c,hc⟩ : ∃ c,(gA A W[i]).To=2*c:=⟨(gA A W[i]).To / 2,by omega⟩
      rw [hc,show 2*c-2=2*(c-1) by omega,Int.mul_tdiv_cancel_left _ (by omega),Int.mul_ediv_cancel_left _ (by omega)]
     rw [this,w64 (by omega) (by omega)]
    rw [if_pos q2,if_pos q2,e1,AaT (by simp only [List.length_cons,List.length_nil]; omega),ih _ (by rw [List.length_append]; simp only [List.length_cons,List.length_nil]; omega),List.append_assoc]
   ·rw [if_neg q2,if_neg q2,ih _ (by omega)]; rfl
theorem As3 (k : Nat) (a b : Int) (A : List AaE) (ws : List (List Int)) (hA : ∀ x ∈ A,0≤x.To∧x.To≤1000000) (hW : ∀ W ∈ ws,(∀ x ∈ W,0≤x∧x<A.length)∧W.length≤1000000∧W.length<k) (ho : ws.length≤1000000) : ∀ (m i n : Nat),i+m=ws.length→m<n →
 Aap.L1 k a b A ws n (i : Int) ((ws.take i).map fun W=>a::kyA b A W)=some (ws.map fun W=>a::kyA b A W)
 | 0,i,n+1,e,_=>by
  rw [Aap.L1,if_neg (by omega),List.take_of_length_le (by omega)]
 | m+1,i,n+1,e,hn=>by
  have hi : i<ws.length:=by omega
  have hw:=hW _ (List.getElem_mem hi)
  have ih:=As3 k a b A ws hA hW ho m (i+1) n (by omega) (by omega)
  rw [Aap.L1,if_pos (by omega),Aae hi]
  have:=As2 k b A (i : Int) ((ws.take i).map fun W=>a::kyA b A W) ws[i] (fun v14_ v15_=>Aap.L1 k a b A ws n v14_ v15_) hA hw.1 hw.2.1 (by rw [List.length_map,List.length_take]; omega) ws[i].length 0 k [a] (by omega) hw.2.2 (by simp)
  rw [show Aap.L2 k b A (i : Int) ((ws.take i).map fun W=>a::kyA b A W) ws[i] (fun v14_ v15_=>Aap.L1 k a b A ws n v14_ v15_) k 0 [a]=_ from this]
  simp only [AdA i (by omega)]
  rw [List.take_succ_eq_append_getElem hi,List.map_append] at ih
  rw [List.drop_zero]
  exact ih
theorem Agj {N : Nat} {E : List AaA} {lv a b : Int} {x : AaE} (h : x ∈ AcO N E lv a b) : (∃ v : Int,0≤v∧v<N∧v≠a∧v≠b∧x=⟨2+2*v,3+2*v,1⟩)∨(∃ e ∈ E,lv≤e.Level∧e.To≠a∧e.From≠b∧x=egM a b e):=by
 unfold AcO at h
 rcases List.mem_append.1 h with h | h
 ·exact .inl (AjZ.1 h)
 ·exact .inr (Aja.1 h)
def Ch (A : List AaE) : Int→List Int→Prop
 | t,[]=>t=1
 | t,x::W=>(0≤x∧x<A.length)∧(gA A x).From=t∧Ch A (gA A x).To W
theorem Ch.of {A : List AaE} {W : List Int} (h : Wy A W 1) : ∀ (m j : Nat),j+m=W.length→Ch A ((nds A W).getD j 0) (W.drop j)
 | 0,j,e=>by
  rw [List.drop_of_length_le (by omega),show j=W.length by omega]
  exact h.last
 | m+1,j,e=>by
  have hj : j<W.length:=by omega
  have ih:=Ch.of h m (j+1) (by omega)
  rw [List.drop_eq_getElem_cons hj]
  have f:=h.fr j hj
  have gd : W.getD j 0=W[j]:=by rw [List.getD_eq_getElem?_getD,List.getElem?_eq_getElem hj]; rfl
  rw [gd] at f
  refine ⟨h.rng _ (List.getElem_mem hj),f,?_⟩
  have : (nds A W).getD (j+1) 0=(gA A W[j]).To:=by
   unfold nds
   rw [List.getD_eq_getElem?_getD,List.getElem?_cons_succ,List.getElem?_map,List.getElem?_eq_getElem hj]; rfl
  rw [← this]; exact ih
inductive EC (E : List AaA) (lv b : Int) : List Int→Prop
 | z : EC E lv b [b]
 | s {u v : Int} {l : List Int} (h : eg E lv u v) (r : EC E lv b (v::l)) : EC E lv b (u::v::l)
theorem EC.last {E : List AaA} {lv b : Int} : ∀ {l : List Int},EC E lv b l→l.getLast? = some b
 | _,.z=>rfl
 | _,.s h r=>by rw [List.getLast?_cons_cons]; exact r.last
theorem EC.ed {E : List AaA} {lv b : Int} : ∀ {l : List Int},EC E lv b l→∀ (i : Nat) (h : i+1<l.length),eg E lv l[i] l[i+1]
 | _,.z,i,h=>by simp at h
 | _,.s h r,0,hl=>h
 | _,.s h r,i+1,hl=>by
  have:=r.ed i (by simpa using hl)
  simpa using this
theorem Asn {N : Nat} {E : List AaA} {lv a b : Int} (hE : inE N E) {W : List Int} (h : Ch (AcO N E lv a b) 1 W) : W = []:=by
 cases W with
 | nil=>rfl
 | cons x W =>
  exfalso
  obtain ⟨h1,h2,_⟩:=h
  rcases Agj (AhB h1) with ⟨v,v0,v1,_,_,e⟩ | ⟨e,he,_,_,_,q⟩
  ·rw [e] at h2; simp only [] at h2; omega
  ·have:=hE e he
   rw [q] at h2
   unfold egM at h2
   simp only [] at h2
   split at h2 <;> omega
theorem Anz {N : Nat} {E : List AaA} {lv a b v : Int} (hE : inE N E) (hv : 0≤v) {W : List Int} (h : Ch (AcO N E lv a b) (2+2*v) W) : ∃ x W',W=x::W'∧gA (AcO N E lv a b) x=⟨2+2*v,3+2*v,1⟩∧Ch (AcO N E lv a b) (3+2*v) W':=by
 cases W with
 | nil =>
  have : 2+2*v=1:=h
  omega
 | cons x W =>
  obtain ⟨h1,h2,h3⟩:=h
  rcases Agj (AhB h1) with ⟨u,u0,u1,_,_,e⟩ | ⟨e,he,_,_,_,q⟩
  ·have e':=e
   rw [e] at h2; simp only [] at h2
   have : u=v:=by omega
   subst this
   rw [e] at h3
   exact ⟨x,W,rfl,e',h3⟩
  ·exfalso
   have:=hE e he
   rw [q] at h2
   unfold egM at h2
   simp only [] at h2
   split at h2 <;> omega
theorem Aso {N : Nat} {E : List AaA} {lv a b : Int} (hE : inE N E) : ∀ (m : Nat) (W : List Int) (u : Int),W.length≤m→0≤u→Ch (AcO N E lv a b) (if u=a then 0 else 3+2*u) W→EC E lv b (u::kyA b (AcO N E lv a b) W)
 | m,[],u,_,hu,h=>by
  have h : (if u=a then (0 : Int) else 3+2*u)=1:=h
  split at h <;> omega
 | m+1,x::W,u,hm,hu,h=>by
  obtain ⟨h1,h2,h3⟩:=h
  rcases Agj (AhB h1) with ⟨v,v0,v1,_,_,e⟩ | ⟨e,he,hl,ta,fb,q⟩
  ·exfalso
   rw [e] at h2; simp only [] at h2
   split at h2 <;> omega
  ·have re:=hE e he
   have fu : e.From=u:=by
    rw [q] at h2
    unfold egM at h2
    simp only [] at h2
    by_cases z1 : e.From=a <;> by_cases z2 : u=a
    ·rw [z1,z2]
    ·rw [if_pos z1,if_neg z2] at h2; omega
    ·rw [if_neg z1,if_pos z2] at h2; omega
    ·rw [if_neg z1,if_neg z2] at h2; omega
   rw [kyA,q]
   by_cases tb : e.To=b
   ·have t1 : (egM a b e).To=1:=by unfold egM; simp only [if_pos tb]
    rw [q,t1] at h3
    rw [t1,if_pos rfl,Asn hE h3]
    exact .s ⟨e,he,hl,fu,tb⟩ .z
   ·have t1 : (egM a b e).To=2+2*e.To:=by unfold egM; simp only [if_neg tb]
    rw [q,t1] at h3
    obtain ⟨y,W',rfl,g1,g2⟩:=Anz hE re.2.2.1 h3
    rw [t1,if_neg (by omega),if_pos (by omega),show (2+2*e.To-2) / 2=e.To by omega,kyA,g1]
    simp only []
    rw [if_neg (by omega),if_neg (by omega),List.nil_append]
    refine .s ⟨e,he,hl,fu,rfl⟩ (Aso hE m W' e.To (by simp only [List.length_cons] at hm; omega) re.2.2.1 ?_)
    rw [if_neg ta]; exact g2
def ApI (a b v : Int) : Int:=if v=a then 0 else if v=b then 1 else 2+2*v
theorem Amv {N : Nat} {E : List AaA} {lv a b : Int} (hE : inE N E) {x : AaE} (h : x ∈ AcO N E lv a b) : x.To=1∨(x.To % 2=0∧∃ v,0≤v∧v≠a∧v≠b∧x.To=2+2*v)∨(x.To≠1∧x.To % 2=1):=by
 rcases Agj h with ⟨v,v0,v1,_,_,rfl⟩ | ⟨e,he,hl,ta,fb,rfl⟩
 ·right; right; simp only []; omega
 ·have re:=hE e he
  by_cases tb : e.To=b
  ·left; unfold egM; simp only [if_pos tb]
  ·right; left
   unfold egM; simp only [if_neg tb]
   exact ⟨by omega,e.To,re.2.2.1,ta,tb,rfl⟩
theorem Anv {N : Nat} {E : List AaA} {lv a b : Int} (hE : inE N E) (hab : a≠b) : ∀ W : List Int,(∀ x ∈ W,0≤x∧x<(AcO N E lv a b).length)→(kyA b (AcO N E lv a b) W).map (ApI a b)=(W.map fun x=>(gA (AcO N E lv a b) x).To).filter fun t=>decide (t=1∨t % 2=0)
 | [],_=>rfl
 | x::W,h=>by
  have ih:=Anv (lv:=lv) hE hab W fun y hy=>h y (List.mem_cons_of_mem _ hy)
  rw [kyA,List.map_append,ih,List.map_cons,List.filter_cons]
  rcases Amv hE (AhB (h x List.mem_cons_self)) with q | ⟨q,v,v0,va,vb,e⟩ | ⟨q1,q2⟩
  ·rw [if_pos q,if_pos (by rw [q]; simp),q]
   have : ApI a b b=1:=by unfold ApI; rw [if_neg (fun z=>hab z.symm),if_pos rfl]
   simp [this]
  ·rw [if_neg (by omega),if_pos q,if_pos (by simp [q]),e,show (2+2*v-2) / 2=v by omega]
   have : ApI a b v=2+2*v:=by unfold ApI; rw [if_neg va,if_neg vb]
   simp [this]
  ·rw [if_neg q1,if_neg (by omega),if_neg (by simp; omega)]; rfl
theorem Arq {N : Nat} {E : List AaA} {lv a b : Int} (hE : inE N E) (ha : 0≤a) (hab : a≠b) {W : List Int} (h : Wy (AcO N E lv a b) W 1) : PW2 E lv a b (a::kyA b (AcO N E lv a b) W):=by
 have ch:=Ch.of h W.length 0 (by omega)
 rw [List.drop_zero] at ch
 have ec:=Aso hE W.length W a (Nat.le_refl _) ha (by rw [if_pos rfl]; exact ch)
 refine ⟨?_,rfl,ec.last,?_,ec.ed⟩
 ·have l:=ec.last
  cases q : kyA b (AcO N E lv a b) W with
  | nil =>
   rw [q] at l
   exact absurd (Option.some.inj l) hab
  | cons=>simp
 ·have nd:=h.nd
  have e : (a::kyA b (AcO N E lv a b) W).map (ApI a b)=(nds (AcO N E lv a b) W).filter fun t=>decide (t=1∨t % 2=0):=by
   rw [List.map_cons,Anv hE hab W h.rng]
   unfold nds
   rw [List.filter_cons,if_pos (by simp)]
   have : ApI a b a=0:=by unfold ApI; rw [if_pos rfl]
   rw [this]
  have nf : ((a::kyA b (AcO N E lv a b) W).map (ApI a b)).Nodup:=by rw [e]; exact List.Pairwise.filter _ nd
  rw [List.nodup_iff_pairwise_ne,List.pairwise_map] at nf
  rw [List.nodup_iff_pairwise_ne]
  exact nf.imp fun {x y} q z=>q (by rw [z])
theorem Alf {N : Nat} {E : List AaA} {lv a b v : Int} (hE : inE N E) (hvb : v≠b) : ∀ (W : List Int) (t : Int),Ch (AcO N E lv a b) t W→v ∈ kyA b (AcO N E lv a b) W→∃ y ∈ W,(0≤y∧y<(AcO N E lv a b).length)∧gA (AcO N E lv a b) y=⟨2+2*v,3+2*v,1⟩
 | [],_,_,h=>by simp [kyA] at h
 | x::W,t,⟨h1,h2,h3⟩,h=>by
  rw [kyA] at h
  rcases List.mem_append.1 h with h | h
  ·rcases Amv hE (AhB h1) with q | ⟨q,w,w0,wa,wb,e⟩ | ⟨q1,q2⟩
   ·rw [if_pos q,List.mem_singleton] at h; exact absurd h hvb
   ·rw [if_neg (by omega),if_pos q,List.mem_singleton,e] at h
    have : v=w:=by omega
    subst this
    rw [e] at h3
    obtain ⟨y,W',rfl,g1,g2⟩:=Anz hE w0 h3
    exact ⟨y,by simp,h3.1,g1⟩
   ·rw [if_neg q1,if_neg (by omega)] at h; cases h
  ·obtain ⟨y,hy,r⟩:=Alf hE hvb W _ h3 h
   exact ⟨y,List.mem_cons_of_mem _ hy,r⟩
theorem AnK {N : Nat} {E : List AaA} {lv a b : Int} (hE : inE N E) (hs : E.Pairwise fun a b=>bef a b=true) : (AcO N E lv a b).Pairwise fun x y=>¬ (x=y∧((∃ v : Int,0≤v∧x.From=2+2*v)∨(x.From=0∧x.To=1))):=by
 unfold AcO
 rw [List.pairwise_append]
 have ef : ∀ e ∈ E,¬ ∃ v : Int,0≤v∧(egM a b e).From=2+2*v:=by
  rintro e he ⟨v,v0,q⟩
  have:=hE e he
  unfold egM at q
  simp only [] at q
  split at q <;> omega
 refine ⟨?_,?_,?_⟩
 ·unfold ndA
  rw [List.pairwise_map]
  refine List.Pairwise.imp (fun {x y} h=>?_) (List.Pairwise.filter _ (List.nodup_iff_pairwise_ne.1 (AqX N)))
  rintro ⟨q,_⟩
  apply h
  have:=congrArg AaE.From q
  simp only [] at this
  omega
 ·unfold egA
  rw [List.pairwise_map]
  refine List.Pairwise.imp_of_mem (fun {x y} hx hy h=>?_) (hs.filter _)
  rintro ⟨q,r | r⟩
  ·exact ef x (List.mem_filter.1 hx).1 r
  ·have rx:=hE x (List.mem_filter.1 hx).1
   have ry:=hE y (List.mem_filter.1 hy).1
   have one : ∀ z : AaA,0≤z.From→0≤z.To→(egM a b z).From=0∧(egM a b z).To=1→z.From=a∧z.To=b:=by
    intro z z0 z1 q
    unfold egM at q
    simp only [] at q
    refine ⟨?_,?_⟩
    ·apply Classical.byContradiction; intro c
     rw [if_neg c] at q; omega
    ·apply Classical.byContradiction; intro c
     rw [if_neg c] at q; omega
   have ox:=one x rx.1 rx.2.2.1 r
   have oy:=one y ry.1 ry.2.2.1 (by rw [← q]; exact r)
   unfold bef at h
   rw [ox.1,ox.2,oy.1,oy.2] at h
   simp at h
 ·rintro x hx y hy ⟨rfl,_⟩
  obtain ⟨v,v0,_,_,_,rfl⟩:=AjZ.1 hx
  obtain ⟨e,he,_,_,_,q⟩:=Aja.1 hy
  exact ef e he ⟨v,v0,by rw [← q]⟩
theorem Aow {N : Nat} {E : List AaA} {lv a b : Int} (hE : inE N E) (hs : E.Pairwise fun a b=>bef a b=true) {x y : Int} (hx : 0≤x∧x<(AcO N E lv a b).length) (hy : 0≤y∧y<(AcO N E lv a b).length) (e : gA (AcO N E lv a b) x=gA (AcO N E lv a b) y) (h : (∃ v : Int,0≤v∧(gA (AcO N E lv a b) x).From=2+2*v)∨((gA (AcO N E lv a b) x).From=0∧(gA (AcO N E lv a b) x).To=1)) : x=y:=by
 have P:=AnK (lv:=lv) (a:=a) (b:=b) hE hs
 rw [List.pairwise_iff_getElem] at P
 obtain ⟨i,rfl⟩:=Int.eq_ofNat_of_zero_le hx.1
 obtain ⟨j,rfl⟩:=Int.eq_ofNat_of_zero_le hy.1
 rw [AfK (by omega),AfK (by omega)] at e
 rw [AfK (by omega)] at h
 apply Classical.byContradiction
 intro c
 by_cases z : i<j
 ·exact P i j (by omega) (by omega) z ⟨e,h⟩
 ·exact P j i (by omega) (by omega) (by omega) ⟨e.symm,by rw [← e]; exact h⟩
theorem AkW {y : Int} : ∀ {ws : List (List Int)},Ajv ws y≤1→ws.Pairwise fun W W'=>¬ (y ∈ W∧y ∈ W')
 | [],_=>List.Pairwise.nil
 | W::ws,h=>by
  have c : Ajv (W::ws) y=W.count y+Ajv ws y:=by unfold Ajv; rw [List.flatten_cons,List.count_append]
  refine List.pairwise_cons.2 ⟨?_,AkW (by omega)⟩
  rintro W' hW' ⟨h1,h2⟩
  have a1 : 0<W.count y:=List.count_pos_iff.2 h1
  have a2 : 0<Ajv ws y:=List.count_pos_iff.2 (List.mem_flatten.2 ⟨W',hW',h2⟩)
  omega
theorem Art {out : List (List Int)} (h : out.Pairwise fun w w'=>¬ (w.length=2∧w'.length=2)) : (out.filter fun w=>decide (w.length=2)).length≤1:=by
 have p:=h.filter (fun w=>decide (w.length=2))
 have q : ∀ w ∈ out.filter (fun w=>decide (w.length=2)),w.length=2:=fun w hw=>by simpa using (List.mem_filter.1 hw).2
 generalize out.filter (fun w=>decide (w.length=2))=M at p q
 match M with
 | []=>simp
 | [w]=>simp
 | w::w'::r=>exact absurd ⟨q w (by simp),q w' (by simp)⟩ ((List.pairwise_cons.1 p).1 w' (by simp))
theorem Aob {N : Nat} {E : List AaA} {lv a b : Int} (hE : inE N E) (hs : E.Pairwise fun a b=>bef a b=true) (ha : 0≤a) (hab : a≠b) {ws : List (List Int)} (hw : ∀ W ∈ ws,Wy (AcO N E lv a b) W 1) (hc : ∀ j : Nat,j<(AcO N E lv a b).length→Ajv ws (j : Int)≤1) : ApL E lv a b (ws.map fun W=>a::kyA b (AcO N E lv a b) W):=by
 have pw : ∀ W ∈ ws,PW2 E lv a b (a::kyA b (AcO N E lv a b) W):=fun W h=>Arq hE ha hab (hw W h)
 have chW : ∀ W ∈ ws,Ch (AcO N E lv a b) 0 W:=fun W h=>by
  have:=Ch.of (hw W h) W.length 0 (by omega)
  rw [List.drop_zero] at this
  exact this
 have Arf : ∀ y : Int,0≤y∧y<(AcO N E lv a b).length→Ajv ws y≤1:=fun y hy=>by
  obtain ⟨j,rfl⟩:=Int.eq_ofNat_of_zero_le hy.1
  exact hc j (by omega)
 have sep : ∀ (i j : Nat) (hi : i<ws.length) (hj : j<ws.length),i<j→∀ x ∈ ws[i],∀ y ∈ ws[j],(0≤x∧x<(AcO N E lv a b).length)→(0≤y∧y<(AcO N E lv a b).length)→gA (AcO N E lv a b) x=gA (AcO N E lv a b) y→((∃ v : Int,0≤v∧(gA (AcO N E lv a b) x).From=2+2*v)∨((gA (AcO N E lv a b) x).From=0∧(gA (AcO N E lv a b) x).To=1))→False:=by
  intro i j hi hj hij x hx y hy rx ry e h
  have:=Aow hE hs rx ry e h
  subst this
  have P:=AkW (Arf x rx)
  rw [List.pairwise_iff_getElem] at P
  exact P i j hi hj hij ⟨hx,hy⟩
 refine ⟨fun w h=>?_,?_,Art ?_⟩
 ·obtain ⟨W,hW,rfl⟩:=List.mem_map.1 h
  exact pw W hW
 ·rw [List.pairwise_map,List.pairwise_iff_getElem]
  intro i j hi hj hij v h1 h2
  have mi:=List.getElem_mem hi; have mj:=List.getElem_mem hj
  have ne:=Aki (pw _ mi) h1
  have in1 : ∀ {W : List Int},v ∈ inn (a::kyA b (AcO N E lv a b) W)→v ∈ kyA b (AcO N E lv a b) W:=fun {W} h=>by
   obtain ⟨p,hp,q⟩:=Agx.1 h
   rw [← q,List.getElem_cons_succ]; exact List.getElem_mem _
  obtain ⟨x,x1,x2,x3⟩:=Alf hE ne.2 _ _ (chW _ mi) (in1 h1)
  obtain ⟨y,y1,y2,y3⟩:=Alf hE ne.2 _ _ (chW _ mj) (in1 h2)
  have v0 : 0≤v:=by
   obtain ⟨p,hp,q⟩:=Agx.1 h1
   obtain ⟨e,he,_,_,e2⟩:=(pw _ mi).ed p (by omega)
   have:=hE e he
   rw [q] at e2; omega
  exact sep i j hi hj hij x x1 y y1 x2 y2 (by rw [x3,y3]) (.inl ⟨v,v0,by rw [x3]⟩)
 ·rw [List.pairwise_map,List.pairwise_iff_getElem]
  rintro i j hi hj hij ⟨h1,h2⟩
  have mi:=List.getElem_mem hi; have mj:=List.getElem_mem hj
  have dir : ∀ W ∈ ws,(a::kyA b (AcO N E lv a b) W).length=2→∃ x ∈ W,(0≤x∧x<(AcO N E lv a b).length)∧gA (AcO N E lv a b) x=⟨0,1,1⟩:=by
   intro W hW hl
   have P:=pw W hW
   have C:=chW W hW
   cases W with
   | nil=>have C : (0 : Int)=1:=C; omega
   | cons x W =>
    obtain ⟨c1,c2,c3⟩:=C
    refine ⟨x,by simp,c1,?_⟩
    rcases Agj (AhB c1) with ⟨v,v0,_,_,_,e⟩ | ⟨e,he,hlv,ta,fb,q⟩
    ·rw [e] at c2; simp only [] at c2; omega
    ·have re:=hE e he
     by_cases tb : e.To=b
     ·rw [q]
      rw [q] at c2
      unfold egM at c2 ⊢
      simp only [] at c2
      rw [c2,if_pos tb]
     ·exfalso
      have t1 : (egM a b e).To=2+2*e.To:=by unfold egM; simp only [if_neg tb]
      have l:=P.lt
      rw [kyA,q,t1,if_neg (by omega),if_pos (by omega)] at hl l
      simp only [List.length_cons,List.length_append,List.length_nil] at hl
      have z : kyA b (AcO N E lv a b) W = []:=List.eq_nil_of_length_eq_zero (by omega)
      rw [z] at l
      have : (2+2*e.To-2) / 2=b:=Option.some.inj l
      omega
  obtain ⟨x,x1,x2,x3⟩:=dir _ mi h1
  obtain ⟨y,y1,y2,y3⟩:=dir _ mj h2
  exact sep i j hi hj hij x x1 y y1 x2 y2 (by rw [x3,y3]) (.inr ⟨by rw [x3],by rw [x3]⟩)
theorem AnM (k N : Nat) (E : List AaA) (g : List Int) (lv a b : Int) (hN : N≤64) (hE : inE N E) (hs : E.Pairwise fun a b=>bef a b=true) (h5 : E.length≤500) (hk : 700000000<k) : ∃ out v,Aap k (N : Int) E g lv a b=some out∧Agk N E lv a b v∧(out.length : Int)=v∧(Afh N lv a b=true→ApL E lv a b out)∧(Afh N lv a b=false→out = [])∧(∀ w ∈ out,w.length≤601):=by
 unfold Aap
 rw [Ajs k _ _ _ _ _ _ (by omega),AaP]
 cases hq : Afh N lv a b with
 | false=>exact ⟨[],0,by simp,.mk' (fun _=>rfl) (fun h=>by rw [hq] at h; cases h) (by omega) (by omega),rfl,by simp,by simp,by simp⟩
 | true =>
  have ha:=hq
  unfold Afh at ha; rw [decide_eq_true_eq] at ha
  have hab : a≠b:=ha.2.2.2.2.2.2
  have nv:=AjQ (lv:=lv) hN hE h5 ⟨ha.2.2.1,ha.2.2.2.1,ha.2.2.2.2.1,ha.2.2.2.2.2.1,hab⟩
  have l1:=nv.len
  have l2 : (AcO N E lv a b).length≤564:=by
   have:=AfJ a b N; have:=Ajk lv a b E
   unfold AcO; rw [List.length_append]; omega
  obtain ⟨f,f1,f2⟩:=Anu k (2+2*N) (AcO N E lv a b) nv (by omega) (by omega) 1200 (Ahr nv) (by omega)
  have h0:=(f2.rng nv).1
  obtain ⟨ws,w1,w2⟩:=Ant k (2+2*N) (AcO N E lv a b) f nv f2.fl h0 (by omega) (by omega)
  have fb:=FB.of f2.fl
  have c1 : ∀ j : Nat,j<(AcO N E lv a b).length→Ajv ws (j : Int)≤1:=by
   intro j hj
   have u:=w2.use j hj
   have hl:=f2.fl.len
   rw [Ab5] at hl
   have hi:=fb.hi j (by omega) (by omega)
   rw [AqM _ (List.getElem_mem hj)] at hi
   have gd : f.getD j 0=f[j]'(by omega):=by rw [List.getD_eq_getElem?_getD,List.getElem?_eq_getElem (by omega)]; rfl
   rw [gd] at u
   omega
  have wl : ∀ W ∈ ws,W.length≤600:=by
   intro W hW
   have W':=w2.wy W hW
   have:=nodup_range (2+2*N) (nds (AcO N E lv a b) W) W'.nd fun x hx=>by
    unfold nds at hx
    rcases List.mem_cons.1 hx with rfl | hx
    ·omega
    ·obtain ⟨y,hy,rfl⟩:=List.mem_map.1 hx
     have:=nv.ok _ (AhB (W'.rng y hy))
     omega
   rw [Af1] at this
   omega
  have vb:=f2.rng nv
  have vl:=Ahr nv f f2.fl
  have wn:=w2.len
  rw [if_neg (by simp),Aht k N E g lv a b (by omega) (by omega) (by omega) (by omega) (fun e he=>by have:=hE e he; omega),AbK,f1,AbK,w1,AbK]
  have:=As3 k a b (AcO N E lv a b) ws (fun x hx=>by have:=nv.ok x hx; have:=nv.n130; omega) (fun W hW=>⟨(w2.wy W hW).rng,by have:=wl W hW; omega,by have:=wl W hW; omega⟩) (by omega) ws.length 0 k (by omega) (by omega)
  refine ⟨_,_,this,Ald nv hq f2,by rw [List.length_map]; exact wn,fun _=>Aob hE hs ha.2.2.1 hab w2.wy c1,fun h=>by simp at h,fun w hw=>?_⟩
  obtain ⟨W,hW,rfl⟩:=List.mem_map.1 hw
  have l:=Anj b (AcO N E lv a b) W
  have l':=wl W hW
  simp only [List.length_cons]; omega
end Go.TF
set_option linter.unusedVariables false
set_option linter.unusedSimpArgs false
namespace Go.TF
open Go Go.Abs
theorem Bf.st {st st' : Int→List Int} {a : Int} {D : List Int} {f : Int→Int} (h : Bf st a D f) (e : ∀ w ∈ D,∀ y,y ∈ st w↔y ∈ st' w) : Bf st' a D f :=
 ⟨h.a0,h.f0,fun v hv q=>by obtain ⟨w,w1,w2,w3⟩:=h.pr v hv q; exact ⟨w,w1,(e w w1 v).1 w2,w3⟩,fun w hw y hy=>h.cl w hw y ((e w hw y).2 hy)⟩
theorem Sp.st {st st' : Int→List Int} {b : Int} {D : List Int} {f : Int→Int} (e : ∀ w ∈ D,∀ y,y ∈ st w↔y ∈ st' w) {v : Int} (h : Sp st b D f v) : Sp st' b D f v:=by
 induction h with
 | b=>exact .b
 | s hw hv h1 h2 ih=>exact .s ih hv ((e _ hv _).1 h1) h2
theorem IsW.st {st st' : Int→List Int} {b : Int} {D : List Int} {f : Int→Int} (hb : b ∈ D) (e : ∀ w ∈ D,∀ y,y ∈ st w↔y ∈ st' w) : ∀ {u : Int} {l : List Int},u ∈ D→IsW st b D f u l→IsW st' b D f u l
 | _,_,_,.b => .b
 | u,_,hu,.s hub hy h=>by
  refine .s hub ⟨⟨(e u hu _).1 hy.1.1,hy.1.2.1.st e,hy.1.2.2⟩,fun z hz sz fz=>hy.2 z ((e u hu z).2 hz) (sz.st fun w hw y=>(e w hw y).symm) fz⟩ (IsW.st hb e (hy.1.2.1.in hb) h)
theorem Sp.lt {st : Int→List Int} {b : Int} {D : List Int} {f : Int→Int} {v : Int} (h : Sp st b D f v) : v=b∨f v<f b:=by
 induction h with
 | b=>exact .inl rfl
 | s hw hv h1 h2 ih =>
  right
  rcases ih with rfl | ih <;> omega
def fD (R : List AaA) (N : Nat) (a v : Int) : Int:=dE R (sS [a] []) N v
def dD (R : List AaA) (N : Nat) (a : Int) : List Int:=(Ala N).filter fun v=>decide (fD R N a v ≠ -1)
theorem Afq {R : List AaA} {N : Nat} {a v : Int} : v ∈ dD R N a↔(0≤v∧v<N)∧fD R N a v ≠ -1:=by
 unfold dD
 rw [List.mem_filter,Ao2,decide_eq_true_eq]
theorem Atp {a v : Int} : sS [a] [] v=true↔v=a:=by simp [sS]
theorem AuS {N : Nat} {R : List AaA} {a : Int} (hR : inE N R) (ha : 0≤a∧a<N) : Bf (outs R) a (dD R N a) (fD R N a):=by
 have hS : ∀ v,sS [a] [] v=true→0≤v∧v<(N : Int):=fun v h=>by rw [Atp] at h; subst h; exact ha
 have hE2 : ∀ e ∈ R.map pr,0≤e.2∧e.2<(N : Int):=fun e he=>by
  obtain ⟨x,hx,rfl⟩:=List.mem_map.1 he
  exact (hR x hx).2.2
 have f0 : fD R N a a=0:=by
  have z : Dist.dst (R.map pr) (sS [a] []) 0 a=0:=by unfold Dist.dst; rw [if_pos (Atp.2 rfl)]
  have:=Dist.dst_keep (E:=R.map pr) (S:=sS [a] []) (k:=0) (v:=a) (by omega) N
  rw [Nat.zero_add,z] at this
  exact this
 have rng : ∀ v,fD R N a v = -1∨(0≤fD R N a v∧fD R N a v≤N):=fun v=>Dist.dst_range N v
 have at' : ∀ (j : Nat) (v : Int),fD R N a v=(j : Int)→Dist.dst (R.map pr) (sS [a] []) j v=(j : Int):=fun j v h=>Dist.dst_at N j v h
 have keep : ∀ (j : Nat) (v : Int),j≤N→Dist.dst (R.map pr) (sS [a] []) j v ≠ -1→fD R N a v=Dist.dst (R.map pr) (sS [a] []) j v:=fun j v hj h=>by
  have:=Dist.dst_keep h (N-j)
  rw [show j+(N-j)=N by omega] at this
  exact this
 refine ⟨⟨Afq.2 ⟨ha,by omega⟩,f0⟩,fun v hv=>?_,fun v hv hva=>?_,fun w hw y hy=>?_⟩
 ·have:=(Afq.1 hv).2
  rcases rng v with h | h
  ·exact absurd h this
  ·exact h.1
 ·have hv':=Afq.1 hv
  have r:=(rng v).resolve_left hv'.2
  obtain ⟨j,hj⟩:=Int.eq_ofNat_of_zero_le r.1
  have hd:=at' j v hj
  cases j with
  | zero =>
   exfalso
   unfold Dist.dst at hd
   split at hd
   ·rename_i h; exact hva (Atp.1 h)
   ·simp at hd
  | succ j =>
   obtain ⟨_,u,hu,du⟩:=Dist.dst_succ.1 (by rw [hd]; omega)
   obtain ⟨x,hx,q⟩:=List.mem_map.1 hu
   have q1 : x.From=u:=congrArg Prod.fst q
   have q2 : x.To=v:=congrArg Prod.snd q
   have fu:=keep j u (by omega) (by rw [du]; omega)
   have rx:=hR x hx
   refine ⟨u,Afq.2 ⟨by rw [← q1]; exact ⟨rx.1,rx.2.1⟩,by rw [fu,du]; omega⟩,AdG.2 ⟨x,hx,q1,q2⟩,by rw [fu,du,hj]; omega⟩
 ·obtain ⟨x,hx,q1,q2⟩:=AdG.1 hy
  have rx:=hR x hx
  have hw':=Afq.1 hw
  have r:=(rng w).resolve_left hw'.2
  obtain ⟨j,hj⟩:=Int.eq_ofNat_of_zero_le r.1
  have dw:=at' j w hj
  have jN:=Dist.dst_lt N hS hE2 j w dw
  have he : (w,y) ∈ R.map pr:=List.mem_map.2 ⟨x,hx,by unfold pr; rw [q1,q2]⟩
  have n1 : fD R N a y ≠ -1:=Dist.dst_from (k:=N) hj jN he
  refine ⟨Afq.2 ⟨by rw [← q2]; exact rx.2.2,n1⟩,?_⟩
  have ry:=Dist.dst_range (E:=R.map pr) (S:=sS [a] []) j y
  by_cases c : Dist.dst (R.map pr) (sS [a] []) j y = -1
  ·have s : Dist.dst (R.map pr) (sS [a] []) (j+1) y=(j : Int)+1:=Dist.dst_succ.2 ⟨c,w,he,dw⟩
   have:=keep (j+1) y (by omega) (by rw [s]; omega)
   rw [this,s,hj]; exact Int.le_refl _
  ·have:=keep j y (by omega) c
   omega
structure MkP (N : Nat) (c : List Bool) (P : Int→Prop) : Prop where
 len : c.length=N
 iff : ∀ v,0≤v→v<(N : Int)→(mk c v=true↔P v)
theorem Asz (k N : Nat) (R : List AaA) (hR : inE N R) (h9 : R.length≤1000000) (f : Int→Int) (t : Int) (ht : -1000000≤t∧t≤1000000) (P : Int→Prop) (kb : Int→(List Bool)→Option ((List Int)×Bool)) : ∀ (m i n : Nat) (c : List Bool),i+m=R.length→m<n→MkP N c (fun v=>P v∨∃ e ∈ R.take i,e.From=v∧P e.To∧f e.To=t∧f v=t-1) →
 ∃ c',AaU.L2 k R (tab N f) t kb n (i : Int) c=kb (t-1) c'∧MkP N c' (fun v=>P v∨∃ e ∈ R,e.From=v∧P e.To∧f e.To=t∧f v=t-1)
 | 0,i,n+1,c,e,_,h=>by
  rw [List.take_of_length_le (by omega)] at h
  exact ⟨c,by rw [AaU.L2,if_neg (by omega),w64 (by omega) (by omega)],h⟩
 | m+1,i,n+1,c,e,hn,h=>by
  have hi : i<R.length:=by omega
  have rg:=hR _ (List.getElem_mem hi)
  have ih:=fun c=>Asz k N R hR h9 f t ht P kb m (i+1) n c (by omega) (by omega)
  rw [List.take_succ_eq_append_getElem hi] at ih
  have mT:=h.iff _ rg.2.2.1 rg.2.2.2
  have hl:=h.len
  have rd : f R[i].To=t→(mk c R[i].To=true↔P R[i].To):=fun ft=>mT.trans ⟨fun q=>q.elim id (by rintro ⟨_,_,_,_,_,q⟩; omega),.inl⟩
  have same : ¬ (P R[i].To∧f R[i].To=t∧f R[i].From=t-1)→MkP N c (fun v=>P v∨∃ e ∈ R.take i++[R[i]],e.From=v∧P e.To∧f e.To=t∧f v=t-1):=fun no=>⟨hl,fun v v0 v1=>(h.iff v v0 v1).trans ⟨fun q=>q.elim .inl (by rintro ⟨x,hx,q⟩; exact .inr ⟨x,List.mem_append_left _ hx,q⟩),fun q=>q.elim .inl (by
   rintro ⟨x,hx,q1,q2,q3,q4⟩
   rcases List.mem_append.1 hx with hx | hx
   ·exact .inr ⟨x,hx,q1,q2,q3,q4⟩
   ·rw [List.mem_singleton] at hx
    subst hx
    exact absurd ⟨q2,q3,by rw [q1]; exact q4⟩ no)⟩⟩
  rw [AaU.L2,if_pos (by omega),Aae hi,AaT (by omega),Au6 rg.2.2.1 (by omega),← AsR rg.2.2.1 (by omega),Af5 rg.2.2.1 rg.2.2.2,Af5 rg.1 rg.2.1,w64 (n:=t-1) (by omega) (by omega)]
  unfold AaU.J3
  simp only [AdA i (by omega)]
  by_cases q1 : mk c R[i].To=true
  ·rw [if_pos q1]
   by_cases q2 : f R[i].To=t
   ·rw [if_pos q2]
    by_cases q3 : f R[i].From=t-1
    ·rw [if_pos q3,AaT (by omega)]
     refine ih _ ⟨by rw [List.length_set]; exact hl,fun v v0 v1=>?_⟩
     rw [Apl v0 (by omega)]
     by_cases z : v=R[i].From
     ·rw [if_pos z]
      exact ⟨fun _ => .inr ⟨R[i],List.mem_append_right _ (List.mem_singleton.2 rfl),z.symm,(rd q2).1 q1,q2,by rw [z]; exact q3⟩,fun _=>rfl⟩
     ·rw [if_neg z,h.iff v v0 v1]
      constructor
      ·rintro (q | ⟨x,hx,q⟩)
       ·exact .inl q
       ·exact .inr ⟨x,List.mem_append_left _ hx,q⟩
      ·rintro (q | ⟨x,hx,g1,g2⟩)
       ·exact .inl q
       ·rcases List.mem_append.1 hx with hx | hx
        ·exact .inr ⟨x,hx,g1,g2⟩
        ·rw [List.mem_singleton] at hx
         subst hx; exact absurd g1.symm z
    ·rw [if_neg q3]; exact ih c (same fun z=>q3 z.2.2)
   ·rw [if_neg q2]; exact ih c (same fun z=>q2 z.2.1)
  ·rw [if_neg q1]; exact ih c (same fun z=>q1 ((rd z.2.1).2 z.1))
theorem As0 (k N : Nat) (R : List AaA) (hR : inE N R) (h9 : R.length≤1000000) (hk : R.length<k) (a b : Int) (D : List Int) (f : Int→Int) (B : Bf (outs R) a D f) (hb : b ∈ D) (hD : ∀ v,v ∈ D↔(0≤v∧v<(N : Int))∧f v ≠ -1) (hfb : f b≤1000000) : ∀ (t n : Nat) (c : List Bool),t<n→(t : Int)≤f b→MkP N c (fun v=>Sp (outs R) b D f v∧(t : Int)≤f v) →
 ∃ c',AaU.L1 k (N : Int) R [] (tab N f) (f b) n (t : Int) c=AaU.L4 k (N : Int) R [] (tab N f) (f b) c' k 0 []∧MkP N c' (fun v=>Sp (outs R) b D f v)
 | 0,n+1,c,hn,ht,h=>by
  rw [AaU.L1,if_neg (by omega)]
  exact ⟨c,rfl,h.len,fun v v0 v1=>(h.iff v v0 v1).trans ⟨fun q=>q.1,fun q=>⟨q,B.f0 v (q.in hb)⟩⟩⟩
 | t+1,n+1,c,hn,ht,h=>by
  rw [AaU.L1,if_pos (by omega)]
  obtain ⟨c',e1,e2⟩:=Asz k N R hR h9 f ((t+1 : Nat) : Int) (by omega) (fun v=>Sp (outs R) b D f v∧((t+1 : Nat) : Int)≤f v) (fun v9_ v10_=>AaU.L1 k (N : Int) R [] (tab N f) (f b) n v9_ v10_) R.length 0 k c (by omega) hk ⟨h.len,fun v v0 v1=>(h.iff v v0 v1).trans (by simp)⟩
  rw [show AaU.L2 k R (tab N f) ((t+1 : Nat) : Int) (fun v9_ v10_=>AaU.L1 k (N : Int) R [] (tab N f) (f b) n v9_ v10_) k 0 c=_ from e1]
  have e3 : ((t+1 : Nat) : Int)-1=(t : Int):=by omega
  simp only [e3]
  refine As0 k N R hR h9 hk a b D f B hb hD hfb t n c' (by omega) (by omega) ⟨e2.len,fun v v0 v1=>(e2.iff v v0 v1).trans ⟨?_,?_⟩⟩
  ·rintro (⟨q1,q2⟩ | ⟨x,hx,q1,q2,q3,q4⟩)
   ·exact ⟨q1,by omega⟩
   ·exact ⟨.s q2.1 ((hD v).2 ⟨⟨v0,v1⟩,by omega⟩) (AdG.2 ⟨x,hx,q1,rfl⟩) (by omega),by omega⟩
  ·rintro ⟨q1,q2⟩
   by_cases z : ((t+1 : Nat) : Int)≤f v
   ·exact .inl ⟨q1,z⟩
   ·right
    cases q1 with
    | b=>omega
    | s hw hv h1 h2 =>
     obtain ⟨x,hx,g1,g2⟩:=AdG.1 h1
     subst g2
     exact ⟨x,hx,g1,⟨hw,by omega⟩,by omega,by omega⟩
theorem Aqr (k N : Nat) (R : List AaA) (h9 : R.length≤1000000) (hk : R.length<k) (hN : N≤1000000) (f : Int→Int) (c : List Bool) (P : Int→Prop) (hP : MkP N c P) (t : Nat) (W : List Int) (hW : W.length≤1000000) (ht : t≤1000000) (kb : Int→(List Int)→Option ((List Int)×Bool)) (Q : Int→Prop) (hQ : t=0→∀ v,Q v) (hQ' : ∀ p,t=p+1→∃ h : p<W.length,∀ v,Q v↔v ∈ outs R W[p]) : ∀ (m i n : Nat),i+m=N→m<n→(∀ v,0≤v→v<(i : Int)→¬ (P v∧f v=t∧Q v))→(∃ v,0≤v∧v<(N : Int)∧P v∧f v=t∧Q v) →
 ∃ y,(0≤y∧y<(N : Int)∧P y∧f y=t∧Q y)∧(∀ v,0≤v→v<y→¬ (P v∧f v=t∧Q v))∧AaU.L6 k (N : Int) R [] (tab N f) c (t : Int) W kb n (i : Int)=kb ((t+1 : Nat) : Int) (W++[y])
 | 0,i,n+1,e,_,h1,⟨v,v0,v1,hv⟩=>absurd hv (h1 v v0 (by omega))
 | m+1,i,n+1,e,hn,h1,hex=>by
  have hl:=hP.len
  have pi:=hP.iff (i : Int) (by omega) (by omega)
  have next : ¬ (P i∧f i=t∧Q i)→∃ y,(0≤y∧y<(N : Int)∧P y∧f y=t∧Q y)∧(∀ v,0≤v→v<y→¬ (P v∧f v=t∧Q v))∧AaU.J7 k (i : Int) (fun v21_=>AaU.L6 k (N : Int) R [] (tab N f) c (t : Int) W kb n v21_)=kb ((t+1 : Nat) : Int) (W++[y]):=by
   intro no
   unfold AaU.J7
   rw [AdA i (by omega)]
   refine Aqr k N R h9 hk hN f c P hP t W hW ht kb Q hQ hQ' m (i+1) n (by omega) (by omega) (fun v v0 v1=>?_) hex
   by_cases z : v=(i : Int)
   ·rw [z]; exact no
   ·exact h1 v v0 (by omega)
  have yes : P i∧f i=t∧Q i→∃ y,(0≤y∧y<(N : Int)∧P y∧f y=t∧Q y)∧(∀ v,0≤v→v<y→¬ (P v∧f v=t∧Q v))∧AaU.J5 k (t : Int) kb (W++[(i : Int)])=kb ((t+1 : Nat) : Int) (W++[y]):=by
   intro q
   exact ⟨i,⟨by omega,by omega,q⟩,h1,by unfold AaU.J5; rw [AdA t (by omega)]⟩
  rw [AaU.L6,if_pos (by omega),Aae (show i<c.length by omega),Af5 (by omega) (by omega)]
  have ec : c[i]'(by omega)=mk c (i : Int):=(AsR (v:=(i : Int)) (by omega) (by omega)).symm
  rw [ec]
  by_cases q1 : mk c (i : Int)=true
  ·rw [if_pos q1]
   by_cases q2 : f (i : Int)=t
   ·rw [if_pos q2]
    by_cases q3 : t=0
    ·subst q3
     rw [if_pos (show ((0 : Nat) : Int)=0 from rfl),AaT (by simp only [List.length_cons,List.length_nil]; omega)]
     exact yes ⟨pi.1 q1,q2,hQ rfl _⟩
    ·obtain ⟨p,rfl⟩ : ∃ p,t=p+1:=⟨t-1,by omega⟩
     obtain ⟨hp,hq⟩:=hQ' p rfl
     have ro:=Ahn k R W[p] h9 R.length 0 k [] (by omega) hk (by simp)
     rw [List.nil_append,List.drop_zero] at ro
     have lo : (outs R W[p]).length≤R.length:=by unfold outs; rw [List.length_map]; exact List.length_filter_le _ _
     rw [if_neg (by omega),ArN p (by omega),AaT (by omega),Aae hp,show Abb k (N : Int) R [] W[p]=_ from ro,AaP,AeB k _ _ (by omega) (by omega),AaP]
     by_cases q4 : (i : Int) ∈ outs R W[p]
     ·rw [if_pos (by simpa using q4),AaT (by simp only [List.length_cons,List.length_nil]; omega)]
      exact yes ⟨pi.1 q1,q2,(hq _).2 q4⟩
     ·rw [if_neg (by simpa using q4)]
      exact next fun z=>q4 ((hq _).1 z.2.2)
   ·rw [if_neg q2]; exact next fun z=>q2 z.2.1
  ·rw [if_neg q1]; exact next fun z=>q1 (pi.2 z.1)
theorem Ash (k N : Nat) (R : List AaA) (h9 : R.length≤1000000) (hR : inE N R) (hk : R.length<k) (hN : N≤1001) (hkN : N<k) (a b : Int) (D : List Int) (f : Int→Int) (B : Bf (outs R) a D f) (hb : b ∈ D) (hD : ∀ v,v ∈ D↔(0≤v∧v<(N : Int))∧f v ≠ -1) (hfb : f b≤1001) (c : List Bool) (hP : MkP N c (fun v=>Sp (outs R) b D f v)) : ∀ (m p n : Nat) (W : List Int) (u : Int),f b=(p : Int)+m→m+1<n→W.length=p+1→(∀ h : p<W.length,W[p]=u)→Sp (outs R) b D f u→f u=p →
 ∃ l,IsW (outs R) b D f u (u::l)∧AaU.L4 k (N : Int) R [] (tab N f) (f b) c n ((p+1 : Nat) : Int) W=some (W++l,true)
 | 0,p,n+1,W,u,e,_,hl,hu,su,fu=>by
  have : u=b:=by
   rcases su.lt with h | h
   ·exact h
   ·omega
  subst this
  refine ⟨[],.b,?_⟩
  rw [AaU.L4,if_neg (by omega),List.append_nil]
 | m+1,p,n+1,W,u,e,hn,hl,hu,su,fu=>by
  have ub : u≠b:=fun z=>by rw [z] at fu; omega
  have hp : p<W.length:=by omega
  have ex : ∃ v,0≤v∧v<(N : Int)∧Sp (outs R) b D f v∧f v=((p+1 : Nat) : Int)∧v ∈ outs R W[p]:=by
   cases su with
   | b=>exact absurd rfl ub
   | s hw hv h1 h2 =>
    rename_i w
    have rw':=((hD w).1 (hw.in hb)).1
    exact ⟨w,rw'.1,rw'.2,hw,by omega,by rw [hu hp]; exact h1⟩
  have hq2 : ∀ q,p+1=q+1→∃ h : q<W.length,∀ v,v ∈ outs R W[p]↔v ∈ outs R W[q]:=by
   intro q hq
   obtain rfl : q=p:=by omega
   exact ⟨hp,fun v=>Iff.rfl⟩
  obtain ⟨y,⟨y0,y1,y2,y3,y4⟩,ymin,e1⟩:=Aqr k N R h9 hk (by omega) f c (fun v=>Sp (outs R) b D f v) hP (p+1) W (by omega) (by omega) (fun v18_ v19_=>AaU.L4 k (N : Int) R [] (tab N f) (f b) c n v18_ v19_) (fun v=>v ∈ outs R W[p]) (fun h=>by omega) hq2 N 0 k (by omega) hkN (fun v v0 v1=>by omega) ex
  rw [hu hp] at y4 ymin
  obtain ⟨l,l1,l2⟩:=Ash k N R h9 hR hk hN hkN a b D f B hb hD hfb c hP m (p+1) n (W++[y]) y (by omega) (by omega) (by rw [List.length_append,List.length_singleton]; omega) (fun h=>by rw [List.getElem_append_right (by omega)]; simp [hl]) y2 y3
  refine ⟨y::l,.s ub ⟨⟨y4,y2,by omega⟩,fun z hz sz fz=>?_⟩ l1,?_⟩
  ·apply Classical.byContradiction
   intro c'
   have rz:=((hD z).1 (sz.in hb)).1
   exact ymin z rz.1 (by omega) ⟨sz,by omega,hz⟩
  ·rw [AaU.L4,if_pos (by omega)]
   rw [show AaU.L6 k (N : Int) R [] (tab N f) c ((p+1 : Nat) : Int) W (fun v18_ v19_=>AaU.L4 k (N : Int) R [] (tab N f) (f b) c n v18_ v19_) k 0=_ from e1,l2,List.append_assoc]; rfl
theorem AqI (k N : Nat) (R : List AaA) (a b : Int) (hR : inE N R) (h9 : R.length≤1000000) (hk : R.length<k) (hN : N≤1001) (hk9 : 2000<k) (ha : 0≤a∧a<N) (hb : 0≤b∧b<N) : ∃ (D : List Int) (f : Int→Int),Bf (outs R) a D f∧(∀ v ∈ D,0≤v∧v<(N : Int))∧(b ∉ D→AaU k (N : Int) R [] [a] b=some ([],false))∧(b ∈ D→∃ l,AaU k (N : Int) R [] [a] b=some (l,true)∧IsW (outs R) b D f a l):=by
 have B:=AuS hR ha
 have fr : ∀ v,fD R N a v≤N ∧ -1≤fD R N a v:=fun v=>by
  have:=Dist.dst_range (E:=R.map pr) (S:=sS [a] []) N v
  have e : fD R N a v=Dist.dst (R.map pr) (sS [a] []) N v:=rfl
  omega
 refine ⟨dD R N a,fD R N a,B,fun v hv=>(Afq.1 hv).1,fun h=>?_,fun h=>?_⟩
 ·have : fD R N a b = -1:=by
   apply Classical.byContradiction
   intro c
   exact h (Afq.2 ⟨hb,c⟩)
  unfold AaU
  rw [Ape k N R [] [a] hR h9 hk (by omega) (by omega) (by simp; omega) (by simp) (by simp; omega) (by simp),AaP,if_neg (by omega),if_neg (by omega),show tab N (dE R (sS [a] []) N)=tab N (fD R N a) from rfl,Af5 hb.1 hb.2,if_pos (by omega)]
 ·have b0:=B.f0 b h
  have lr : (List.replicate ((N : Int)).toNat false).length=N:=by rw [List.length_replicate]; omega
  obtain ⟨t,ht⟩:=Int.eq_ofNat_of_zero_le b0
  have frb:=fr b
  obtain ⟨c,e1,e2⟩:=As0 k N R hR h9 hk a b (dD R N a) (fD R N a) B h (fun v=>Afq) (by omega) t k ((List.replicate ((N : Int)).toNat false).set b.toNat true) (by omega) (by omega) ⟨by rw [List.length_set]; exact lr,fun v v0 v1=>by
   rw [Apl v0 (by omega)]
   by_cases z : v=b
   ·subst z; rw [if_pos rfl]; exact ⟨fun _=>⟨.b,by omega⟩,fun _=>rfl⟩
   ·rw [if_neg z]
    have : mk (List.replicate ((N : Int)).toNat false) v=false:=by
     unfold mk
     rw [List.getD_eq_getElem?_getD,List.getElem?_replicate]
     split <;> rfl
    rw [this]
    exact ⟨fun q=>(by cases q),fun q=>by rcases q.1.lt with y | y <;> omega⟩⟩
  have Sa:=B.start h
  have only : ∀ v,Sp (outs R) b (dD R N a) (fD R N a) v∧fD R N a v=((0 : Nat) : Int)∧True→v=a:=by
   rintro v ⟨q1,q2,_⟩
   apply Classical.byContradiction
   intro c
   obtain ⟨w,w1,_,w3⟩:=B.pr v (q1.in h) c
   have:=B.f0 w w1; omega
  obtain ⟨y,⟨y0,y1,y2,y3,_⟩,_,e3⟩:=Aqr k N R h9 hk (by omega) (fD R N a) c _ e2 0 [] (by simp) (by omega) (fun v18_ v19_=>AaU.L4 k (N : Int) R [] (tab N (fD R N a)) (fD R N a b) c (k-1) v18_ v19_) (fun _=>True) (fun _ _=>trivial) (fun p hp=>by omega) N 0 k (by omega) (by omega) (fun v v0 v1=>by omega) ⟨a,ha.1,ha.2,Sa,B.a0.2,trivial⟩
  have ya:=only y ⟨y2,y3,trivial⟩
  subst ya
  obtain ⟨l,l1,l2⟩:=Ash k N R h9 hR hk hN (by omega) y b (dD R N y) (fD R N y) B h (fun v=>Afq) (by omega) c e2 t 0 (k-1) [y] y (by omega) (by omega) (by simp) (fun _=>rfl) Sa y3
  refine ⟨y::l,?_,l1⟩
  unfold AaU
  rw [Ape k N R [] [y] hR h9 hk (by omega) (by omega) (by simp; omega) (by simp) (by simp; omega) (by simp),AaP,if_neg (by omega),if_neg (by omega),show tab N (dE R (sS [y] []) N)=tab N (fD R N y) from rfl,Af5 hb.1 hb.2,if_neg (by omega),AaT (by omega),Af4,AaT (by simp; omega)]
  rw [ht] at e1 e3 l2 ⊢
  rw [e1]
  obtain ⟨k',hk'⟩ : ∃ k',k=k'+1:=⟨k-1,by omega⟩
  have l2':=l2
  have unf : AaU.L4 k (N : Int) R [] (tab N (fD R N y)) (t : Int) c k 0 []=AaU.L6 k (N : Int) R [] (tab N (fD R N y)) c 0 [] (fun v18_ v19_=>AaU.L4 k (N : Int) R [] (tab N (fD R N y)) (t : Int) c (k-1) v18_ v19_) k 0:=by
   conv=>lhs; rw [show AaU.L4 k (N : Int) R [] (tab N (fD R N y)) (t : Int) c k 0 []=AaU.L4 k (N : Int) R [] (tab N (fD R N y)) (t : Int) c (k-1+1) 0 [] by rw [show k-1+1=k by omega]]
   rw [AaU.L4,if_pos (by omega)]
  rw [unf]
  rw [show AaU.L6 k (N : Int) R [] (tab N (fD R N y)) c 0 [] (fun v18_ v19_=>AaU.L4 k (N : Int) R [] (tab N (fD R N y)) (t : Int) c (k-1) v18_ v19_) k 0=_ from e3]
  exact l2
end Go.TF
set_option linter.unusedVariables false
set_option linter.unusedSimpArgs false
namespace Go.TF
open Go Go.Abs
def REp (a b : Int) (U : Int→Bool) (dr : Bool) (e : AaA) : Bool := !(U e.From) && !(U e.To) && !(dr&&decide (e.From=a∧e.To=b))
def RE (E : List AaA) (lv a b : Int) (U : Int→Bool) (dr : Bool) : List AaA:=(E.filter (lvE lv)).filter (REp a b U dr)
def kpE (a b : Int) (w : List Int) (e : AaA) : Bool := !(decide (e.From ∈ inn w)) && !(decide (e.To ∈ inn w)) && !(decide (w.length=2)&&decide (e.From=a∧e.To=b))
theorem As9 (E : List AaA) (lv a b : Int) (U : Int→Bool) (dr : Bool) (w : List Int) : (RE E lv a b U dr).filter (kpE a b w)=RE E lv a b (unU U w) (dr||(w.length==2)):=by
 unfold RE
 rw [List.filter_filter]
 refine List.filter_congr fun e _=>?_
 unfold REp kpE unU
 have : (w.length==2)=decide (w.length=2):=by rw [Bool.eq_iff_iff]; simp
 rw [this]
 cases U e.From <;> cases U e.To <;> cases decide (e.From ∈ inn w) <;> cases decide (e.To ∈ inn w) <;> cases dr <;> cases decide (w.length=2) <;> cases decide (e.From=a∧e.To=b) <;> rfl
theorem Ang {E : List AaA} {lv a b : Int} {U : Int→Bool} {dr : Bool} {u y : Int} : y ∈ outs (RE E lv a b U dr) u↔eg E lv u y∧U u=false∧U y=false∧¬ (u=a∧y=b∧dr=true):=by
 rw [AdG]
 unfold RE REp
 constructor
 ·rintro ⟨e,he,rfl,rfl⟩
  obtain ⟨he,h2⟩:=List.mem_filter.1 he
  obtain ⟨he,h1⟩:=List.mem_filter.1 he
  simp only [Bool.and_eq_true,Bool.not_eq_true',Bool.and_eq_false_imp,decide_eq_false_iff_not] at h2
  refine ⟨⟨e,he,by simpa [lvE] using h1,rfl,rfl⟩,h2.1.1,h2.1.2,fun z=>?_⟩
  exact h2.2 z.2.2 ⟨z.1,z.2.1⟩
 ·rintro ⟨⟨e,he,hl,rfl,rfl⟩,h1,h2,h3⟩
  refine ⟨e,List.mem_filter.2 ⟨List.mem_filter.2 ⟨he,by simpa [lvE] using hl⟩,?_⟩,rfl,rfl⟩
  simp only [Bool.and_eq_true,Bool.not_eq_true',Bool.and_eq_false_imp,decide_eq_false_iff_not]
  exact ⟨⟨h1,h2⟩,fun d z=>h3 ⟨z.1,z.2,d⟩⟩
theorem AqA {E : List AaA} {lv a b : Int} {U : Int→Bool} {dr : Bool} (Ua : U a=false) {D : List Int} {f : Int→Int} (B : Bf (outs (RE E lv a b U dr)) a D f) : ∀ w ∈ D,∀ y,y ∈ outs (RE E lv a b U dr) w↔y ∈ stF E lv a b U dr w:=by
 intro w hw y
 have uw : U w=false:=by
  by_cases z : w=a
  ·rw [z]; exact Ua
  ·obtain ⟨v,_,v2,_⟩:=B.pr w hw z
   exact (Ang.1 v2).2.2.1
 rw [Ang,Af3]
 exact ⟨fun h=>⟨h.1,h.2.2⟩,fun h=>⟨h.1,uw,h.2⟩⟩
theorem Arv (k : Nat) (a b : Int) (R : List AaA) (out : List (List Int)) (w : List Int) (kb : (List AaA)→(List (List Int))→Option (List (List Int))) (h2 : 2≤w.length) (hw : w.length≤1001) (h9 : R.length≤1000000) (hk : 2000<k) : ∀ (m i n : Nat),i+m=R.length→m<n→Aaf.L2 k a b R out w kb n (i : Int) ((R.take i).filter (kpE a b w))=kb (R.filter (kpE a b w)) (out++[w])
 | 0,i,n+1,e,_=>by rw [Aaf.L2,if_neg (by omega),List.take_of_length_le (by omega)]
 | m+1,i,n+1,e,hn=>by
  have hi : i<R.length:=by omega
  have ih:=Arv k a b R out w kb h2 hw h9 hk m (i+1) n (by omega) (by omega)
  have lf:=List.length_filter_le (kpE a b w) (R.take i)
  rw [List.length_take] at lf
  rw [List.take_succ_eq_append_getElem hi,List.filter_append] at ih
  have yes : kpE a b w R[i]=true→[R[i]].filter (kpE a b w) = [R[i]]:=fun q=>by rw [List.filter_cons,if_pos q]; rfl
  have no : ¬ kpE a b w R[i]=true→[R[i]].filter (kpE a b w) = []:=fun q=>by rw [List.filter_cons,if_neg q]; rfl
  have ei : (w.take (IntKind.wrap .i64 ((w.length : Int)-1)).toNat).drop (1 : Int).toNat=inn w:=by
   unfold inn
   rw [w64 (by omega) (by omega),show ((w.length : Int)-1).toNat=w.length-1 by omega,show (1 : Int).toNat=1 from rfl,List.drop_take]
   congr 1
  have li : (inn w).length≤w.length:=by unfold inn; simp; omega
  rw [Aaf.L2,if_pos (by omega),Aae hi,AaT (by rw [w64 (by omega) (by omega)]; omega),ei,AeB k _ _ (by omega) (by omega),AaP]
  unfold Aaf.J4 Aaf.J3
  simp only [AdA i (by omega)]
  by_cases q1 : R[i].From ∈ inn w
  ·rw [if_pos (by simpa using q1),if_neg (by simp)]
   rw [no (by unfold kpE; simp [q1]),List.append_nil] at ih
   exact ih
  ·rw [if_neg (by simpa using q1),AaT (by rw [w64 (by omega) (by omega)]; omega),AeB k _ _ (by omega) (by omega),AaP]
   by_cases q2 : R[i].To ∈ inn w
   ·rw [if_neg (by simpa using q2)]
    rw [no (by unfold kpE; simp [q2]),List.append_nil] at ih
    exact ih
   ·rw [if_pos (by simpa using q2)]
    by_cases q3 : (w.length : Int)=2
    ·rw [if_pos q3]
     by_cases q4 : R[i].From=a
     ·rw [if_pos q4]
      by_cases q5 : R[i].To≠b
      ·rw [if_pos q5,AaT (by simp only [List.length_cons,List.length_nil]; omega)]
       rw [yes (by unfold kpE; simp [q1,q2,q5])] at ih
       exact ih
      ·rw [if_neg q5]
       rw [no (by unfold kpE; simp only [Classical.not_not] at q5; simp [q4,q5,show w.length=2 by omega]),List.append_nil] at ih
       exact ih
     ·rw [if_neg q4,AaT (by simp only [List.length_cons,List.length_nil]; omega)]
      rw [yes (by unfold kpE; simp [q1,q2,q4])] at ih
      exact ih
    ·rw [if_neg q3,AaT (by simp only [List.length_cons,List.length_nil]; omega)]
     rw [yes (by unfold kpE; simp [q1,q2,show ¬ w.length=2 by omega])] at ih
     exact ih
theorem Asf {α : Type} (p : α→Bool) (l : List α) {x : α} (hx : x ∈ l) (h : p x=false) : (l.filter p).length<l.length:=by
 have t : (l.filter fun _ : α=>true).length=l.length:=by rw [List.filter_eq_self.2 (fun _ _=>rfl)]
 have s : (l.filter p).length+(l.filter fun x => !p x).length=l.length:=by simpa only [Bool.true_and,t] using AmF (fun _ : α=>true) p l
 have : 0<(l.filter fun x => !p x).length:=List.length_pos_of_mem (List.mem_filter.2 ⟨hx,by rw [h]; rfl⟩)
 omega
theorem Arw (k N : Nat) (E : List AaA) (lv a b len : Int) (hE : inE N E) (h5 : E.length≤500) (hN : N≤64) (hk : 7001<k) (ha : 0≤a∧a<(N : Int)) (hb : 0≤b∧b<(N : Int)) (hab : a≠b) : ∀ (m n : Nat) (U : Int→Bool) (dr : Bool) (acc : List (List Int)),(RE E lv a b U dr).length≤m→m<n→U a=false→acc.length+m≤1001→∃ l,Aaf.L1 k a b len (N : Int) n (RE E lv a b U dr) acc=some (acc++l)∧SR E lv a b len U dr l
 | m,n+1,U,dr,acc,hm,hn,Ua,hac=>by
  have hR : inE N (RE E lv a b U dr):=fun e he=>hE e (List.mem_filter.1 (List.mem_filter.1 he).1).1
  have lR : (RE E lv a b U dr).length≤500:=by
   unfold RE
   exact Nat.le_trans (List.length_filter_le _ _) (Nat.le_trans (List.length_filter_le _ _) h5)
  obtain ⟨D,f,B,hD,w1,w2⟩:=AqI k N (RE E lv a b U dr) a b hR (by omega) (by omega) (by omega) (by omega) ha hb
  have ss:=AqA Ua B
  have B':=B.st ss
  by_cases q : b ∈ D
  ·obtain ⟨w,e1,iw⟩:=w2 q
   have iw':=iw.st q ss B.a0.1
   have P:=iw'.pw B' q hab
   have two:=P.two
   have il:=iw.len
   have a0:=B.a0.2
   have wl : w.length≤N:=nodup_range N w P.nd fun v hv=>by
    rcases (iw'.mem v hv).2 with e | ⟨_,_,u,hu⟩
    ·rw [e]; exact ha
    ·obtain ⟨x,hx,_,_,rfl⟩:=(Af3.1 hu).1
     have:=hE x hx; omega
   rw [Aaf.L1,e1,AbK,if_neg (by simp),w64 (by omega) (by omega)]
   by_cases q2 : len<f b
   ·rw [if_pos (by omega)]
    exact ⟨[],by simp,.no B' (.inr q2)⟩
   ·have L2:=Arv k a b (RE E lv a b U dr) acc w (fun v15_ v16_=>Aaf.L1 k a b len (N : Int) n v15_ v16_) two (by omega) (by omega) (by omega) (RE E lv a b U dr).length 0 k (by omega) (by omega)
    rw [As9] at L2
    have h0:=P.at0 (show 0<w.length by omega)
    have st1:=iw.ed 0 (by omega)
    obtain ⟨x,hx,x1,x2⟩:=AdG.1 st1
    have gone : kpE a b w x=false:=by
     unfold kpE
     by_cases l2 : w.length=2
     ·have h1 : w[0+1]'(by omega)=b:=by
       have:=P.at1 (show w.length-1<w.length by omega)
       exact Eq.trans (by congr 1; omega) this
      rw [x1,x2,h0,h1]; simp [l2]
     ·have : x.To ∈ inn w:=Agx.2 ⟨0,by omega,by rw [x2]⟩
      simp [this]
    have lt:=Asf (kpE a b w) _ hx gone
    rw [As9] at lt
    have ua2 : unU U w a=false:=by
     unfold unU
     rw [Ua,decide_eq_false (fun z=>(Aki P z).1 rfl)]; rfl
    obtain ⟨m',rfl⟩ : ∃ m',m=m'+1:=⟨m-1,by omega⟩
    obtain ⟨l,l1,l2⟩:=Arw k N E lv a b len hE h5 hN hk ha hb hab m' n (unU U w) (dr||(w.length==2)) (acc++[w]) (by omega) (by omega) ua2 (by rw [List.length_append,List.length_singleton]; omega)
    rw [if_neg (by omega),AaT (by simp only [List.length_cons,List.length_nil]; omega)]
    rw [show Aaf.L2 k a b (RE E lv a b U dr) acc w (fun v15_ v16_=>Aaf.L1 k a b len (N : Int) n v15_ v16_) k 0 []=_ from L2]
    refine ⟨w::l,?_,.go B' q q2 iw' l2⟩
    show Aaf.L1 k a b len (N : Int) n (RE E lv a b (unU U w) (dr||(w.length==2))) (acc++[w])=_
    rw [l1,List.append_assoc]; rfl
  ·rw [Aaf.L1,w1 q,AbK,if_pos (show (!false)=true from rfl)]
   exact ⟨[],by simp,.no B' (.inl q)⟩
theorem AnD (k N : Nat) (E : List AaA) (g : List Int) (lv a b len : Int) (hE : inE N E) (h5 : E.length≤500) (hg : g.length≤1000000) (hN : N≤64) (hk : 7001<k) : ∃ l,Aaf k (N : Int) E g lv a b len=some l∧(Afh N lv a b=false→l = [])∧(Afh N lv a b=true→SR E lv a b len (fun _=>false) false l):=by
 unfold Aaf
 rw [Ahs,AaP]
 cases hq : Afh N lv a b with
 | false=>exact ⟨[],by simp,by simp,by simp⟩
 | true =>
  have ha:=hq
  unfold Afh at ha; rw [decide_eq_true_eq] at ha
  have lf:=List.length_filter_le (lvE lv) E
  have e0 : E.filter (lvE lv)=RE E lv a b (fun _=>false) false:=by
   unfold RE
   exact (List.filter_eq_self.2 (fun e _=>by simp [REp])).symm
  obtain ⟨l,l1,l2⟩:=Arw k N E lv a b len hE h5 hN hk ⟨ha.2.2.1,ha.2.2.2.1⟩ ⟨ha.2.2.2.2.1,ha.2.2.2.2.2.1⟩ ha.2.2.2.2.2.2 (E.filter (lvE lv)).length k (fun _=>false) false [] (by rw [e0]; exact Nat.le_refl _) (by omega) rfl (by simp; omega)
  rw [if_neg (by simp),Aho k _ E g lv (by omega) (by omega) hg,Ado]
  unfold AcQ
  rw [AaT (by omega),AaT (by omega),Ado,e0,l1]
  exact ⟨_,rfl,by simp,fun _=>by simpa using l2⟩
theorem Aid (k : Nat) (l : List Int) (h9 : l.length≤1000000) : ∀ (m i n : Nat),i+m=l.length→m<n→AbR.L1 k l l n (i : Int)=some true
 | 0,i,n+1,e,_=>by rw [AbR.L1,if_neg (by omega)]
 | m+1,i,n+1,e,hn=>by
  have hi : i<l.length:=by omega
  rw [AbR.L1,if_pos (by omega),Aae hi,Aae hi,if_neg (by simp),AdA i (by omega)]
  exact Aid k l h9 m (i+1) n (by omega) (by omega)
theorem AkD (k : Nat) (L : List (List Int)) (h9 : L.length≤1000000) (hL : ∀ l ∈ L,l.length≤1000000∧l.length<k) : ∀ (m i n : Nat),i+m=L.length→m<n→AcA.L1 k L L n (i : Int)=some true
 | 0,i,n+1,e,_=>by rw [AcA.L1,if_neg (by omega)]
 | m+1,i,n+1,e,hn=>by
  have hi : i<L.length:=by omega
  have hl:=hL _ (List.getElem_mem hi)
  rw [AcA.L1,if_pos (by omega),Aae hi,Aae hi]
  unfold AbR
  rw [if_neg (by simp),show AbR.L1 k L[i] L[i] k 0=some true from Aid k L[i] hl.1 L[i].length 0 k (by omega) hl.2,AaP,if_neg (by simp),AdA i (by omega)]
  exact AkD k L h9 hL m (i+1) n (by omega) (by omega)
theorem AqE (k : Nat) (L : List (List Int)) (h9 : L.length≤1000000) (hk : L.length<k) (hL : ∀ l ∈ L,l.length≤1000000∧l.length<k) : AcA k L L=some true:=by
 unfold AcA
 rw [if_neg (by simp)]
 exact AkD k L h9 hL L.length 0 k (by omega) hk
theorem Ajt (N : Nat) (E : List AaA) (g : List Int) (hN : N≤12) (ok : okG (N : Int) E g=true) (lv a b len : Int) : Ac3 1000000000 (N : Int) E g lv a b len=some true:=by
 have ok':=(AdR _ _ _).1 ok
 have hE : inE N E:=fun e he=>by
  have:=(AjT _ _ _).1 (ok'.2.2.1 e he)
  exact ⟨this.1,this.2.1,this.2.2.1,this.2.2.2.1⟩
 have h5:=ok'.1.2.2
 have hg : g.length≤12:=by
  have:=Ag6 g 0 N ok'.2.1.1 ok'.2.1.2 (by omega)
  omega
 obtain ⟨out,v,a1,a2,a3,a4,a5,a6⟩:=AnM 1000000000 N E g lv a b (by omega) hE ok'.2.2.2 h5 (by omega)
 obtain ⟨v2,b1,b2⟩:=Aon 1000000000 N E g lv a b (by omega) hE h5 (by omega) (by omega)
 obtain ⟨v3,c1,c2⟩:=Aoq 1000000000 N E g lv a b (by omega) hE h5 (by omega)
 have e2:=a2.uniq b2
 have e3:=a2.uniq c2
 subst e2 e3
 have vr:=a2.r1
 obtain ⟨l,l1,l2,l3⟩:=AnL 1000000000 N E g ⟨hN,ok⟩ lv a b len (by omega)
 obtain ⟨l',r1,r2,r3⟩:=AnD 1000000000 N E g lv a b len hE h5 (by omega) (by omega) (by omega)
 have same : l'=l:=by
  cases q : Afh N lv a b with
  | false=>rw [l2 q,r2 q]
  | true=>exact (r3 q).uniq (l3 q).1
 have ln : l.length≤12∧∀ w ∈ l,w.length≤12:=by
  cases q : Afh N lv a b with
  | false=>rw [l2 q]; simp
  | true =>
   obtain ⟨_,mm,dr,A⟩:=l3 q
   have:=A.len
   exact ⟨by omega,fun w hw=>by
    have:=nodup_range N w (A.pw w hw).nd (A.rg w hw)
    omega⟩
 have ol : out.length≤601:=by
  cases q : Afh N lv a b with
  | false=>rw [a5 q]; simp
  | true =>
   have nv:=AjQ (N:=N) (E:=E) (lv:=lv) (a:=a) (b:=b) (by omega) hE h5 (by
    unfold Afh at q; rw [decide_eq_true_eq] at q; omega)
   have le:=(a2.yes q).le (fun x=>decide (x=0)) (by simp) (by simp)
   have c:=Aln (A:=AcO N E lv a b) (fun x=>decide (x=0)) AqM
   have l2 : (AcO N E lv a b).length≤564:=by
    have:=AfJ a b N; have:=Ajk lv a b E
    unfold AcO; rw [List.length_append]; omega
   omega
 obtain ⟨r,k1,k2,k3⟩:=Aom 1000000000 (N : Int) E g lv a b out (by omega) (by omega) (by omega) (by omega) a6 ol
 have hr : r=true:=by
  cases q : Afh N lv a b with
  | false=>exact (k3 q).2 (a5 q)
  | true=>exact (k2 q).2 (a4 q)
 subst hr
 unfold Ac3
 rw [a1,AaP,b1,AaP,c1,AaP,if_pos rfl,if_pos a3,k1,AaP,if_pos rfl,l1,AaP,r1,AaP,same,AqE 1000000000 l (by omega) (by omega) (fun w hw=>by have:=ln.2 w hw; omega),AaP]
end Go.TF
set_option linter.unusedVariables false
set_option linter.unusedSimpArgs false
namespace Go.TF
open Go Go.Abs
theorem Api (N : Nat) (E : List AaA) (g : List Int) (hN : 1≤N∧N≤12) (ok : okG (N : Int) E g=true) (v0 v1 : List Int) (hl : v0.length≤400) (h4 : v1.length=4) : ∀ (m i n : Nat) (q : Int),i+m=3→m<n→Pos q→AbN.L1 1000000000 v1 v0 (N : Int) E g n (i : Int) q=some true
 | 0,i,n+1,q,e,_,hq=>by
  have i0 : ∀ {β : Type} (f : Int→Option β),idx v1 0 f=f (v1[0]'(by omega)):=fun f=>Aae (i:=0) (by omega)
  have i1 : ∀ {β : Type} (f : Int→Option β),idx v1 1 f=f (v1[1]'(by omega)):=fun f=>Aae (i:=1) (by omega)
  have i2 : ∀ {β : Type} (f : Int→Option β),idx v1 2 f=f (v1[2]'(by omega)):=fun f=>Aae (i:=2) (by omega)
  have i3 : ∀ {β : Type} (f : Int→Option β),idx v1 3 f=f (v1[3]'(by omega)):=fun f=>Aae (i:=3) (by omega)
  have c0 : (0 : Int)≤0∧(0 : Nat)<4∧(0 : Int).toNat<v1.length:=by rw [h4]; decide
  have c1 : (0 : Int)≤1∧(1 : Nat)<4∧(1 : Int).toNat<v1.length:=by rw [h4]; decide
  have c2 : (0 : Int)≤2∧(2 : Nat)<4∧(2 : Int).toNat<v1.length:=by rw [h4]; decide
  have c3 : (0 : Int)≤3∧(3 : Nat)<4∧(3 : Int).toNat<v1.length:=by rw [h4]; decide
  rw [AbN.L1,if_neg (by omega),AoL,AaP,if_pos rfl,AaT c0,i0,AaT c1,i1,AaT c2,i2,AaT c3,i3,Ajt N E g hN.2 ok,AaP,if_pos rfl,AaT c0,AmO,AaP,AaT c1,AmO,AaP,AaT c2,AmO,AaP,AaT c3,Ajt N E g hN.2 ok,AaP]
 | m+1,i,n+1,q,e,hn,hq=>by
  obtain ⟨x1,q1,e1,hq1,_⟩:=AtA 1000000000 v0 q [1,1,2,3] (by omega) hq (by simp) (by simp)
  obtain ⟨x2,q2,e2,hq2,_⟩:=AeW 1000000000 v0 q1 (N : Int) (by omega) hq1
  obtain ⟨x3,q3,e3,hq3,_⟩:=AeW 1000000000 v0 q2 (N : Int) (by omega) hq2
  obtain ⟨x4,q4,e4,hq4,_⟩:=AtA 1000000000 v0 q3 [1,2,3,9,0] (by omega) hq3 (by simp) (by simp)
  rw [AbN.L1,if_pos (by omega),e1,AbK,e2,AbK,e3,AbK,e4,AbK,Ajt N E g hN.2 ok,AaP,if_neg (by simp),AdA i (by omega)]
  exact Api N E g hN ok v0 v1 hl h4 m (i+1) n q4 (by omega) (by omega) hq4
theorem Ak8 (v0 v1 : List Int) (h0 : Fit (.lst false false (v0.map (.int .i64)))) (h4 : v1.length=4) : ∃ k,AbN k v0 v1=some true:=by
 refine ⟨1000000000,?_⟩
 unfold AbN
 rw [ApX,AaP]
 by_cases h : (v0.length : Int)≤400
 ·rw [if_neg (by simpa using h),ArG,AbK]
  obtain ⟨N,E,g,q,e,hq,n1,n2,ok⟩:=ApZ v0 0 (by omega) ⟨by omega,by omega⟩
  rw [e,Akx]
  exact Api N E g ⟨by omega,by omega⟩ ok v0 v1 (by omega) h4 3 0 1000000000 q (by omega) (by omega) hq
 ·rw [if_pos (by simpa using h),AoL,AaP]
end Go.TF
