import Derived.Test.YthiodjlppahmkaaGreatExtPla42
import Derived.Test.YthiodjlppahmkaaGreatExtPla41
set_option linter.unusedVariables false
set_option linter.unusedSimpArgs false
set_option maxRecDepth 100000
namespace Go.TF
open Go Go.Abs
theorem Aks {β : Type} (a b : Int) (v : β) (m : List (Int×β)) : mgI ((a,v)::m) b=if b=a then some 0 else (mgI m b).map (· + 1):=by
 unfold mgI
 rw [List.findIdx?_cons]
 by_cases e : b=a
 ·rw [if_pos e,if_pos (by simpa using e)]
 ·rw [if_neg e,if_neg (by simpa using e)]
theorem Ag6 {β : Type} (a b : Int) (v : β) (m : List (Int×β)) : AjY ((a,v)::m) b=if b=a then some v else AjY m b:=by
 unfold AjY
 rw [Aks]
 by_cases e : b=a
 ·rw [if_pos e,if_pos e]; rfl
 ·rw [if_neg e,if_neg e]
  cases mgI m b with
  | none=>rfl
  | some j=>simp
theorem Ais {β : Type} (a b : Int) (v : β) (m : List (Int×β)) : AnD ((a,v)::m) b=if b=a then m else (a,v)::AnD m b:=by
 unfold AnD
 rw [Aks]
 by_cases e : b=a
 ·rw [if_pos e,if_pos e]; rfl
 ·rw [if_neg e,if_neg e]
  cases mgI m b with
  | none=>rfl
  | some j=>rfl
theorem Alz {β : Type} (a b : Int) (v w : β) (m : List (Int×β)) : Agm ((a,v)::m) b w=if b=a then (b,w)::m else (a,v)::Agm m b w:=by
 unfold Agm
 rw [Aks]
 by_cases e : b=a
 ·rw [if_pos e,if_pos e]; rfl
 ·rw [if_neg e,if_neg e]
  cases mgI m b with
  | none=>rfl
  | some j=>rfl
def KN {β : Type} (m : List (Int×β)) : Prop:=(m.map (·.1)).Nodup
theorem An1 {β : Type} (b : Int) : ∀ (m : List (Int×β)) (x : Int),x ∈ (AnD m b).map (·.1)→x ∈ m.map (·.1)
 | [],x,h=>h
 | (a,v)::m,x,h=>by
  rw [Ais] at h
  split at h
  ·exact List.mem_cons_of_mem _ h
  ·rw [List.map_cons,List.mem_cons] at h
   rcases h with h | h
   ·rw [h]; exact List.mem_cons_self
   ·exact List.mem_cons_of_mem _ (An1 b m x h)
theorem Anz {β : Type} (b : Int) (w : β) : ∀ (m : List (Int×β)) (x : Int),x ∈ (Agm m b w).map (·.1)→x ∈ m.map (·.1)∨x=b
 | [],x,h=>by
  have : Agm ([] : List (Int×β)) b w = [(b,w)]:=rfl
  rw [this] at h
  simp at h; exact .inr h
 | (a,v)::m,x,h=>by
  rw [Alz] at h
  split at h
  ·rename_i e; subst e; exact .inl h
  ·rw [List.map_cons,List.mem_cons] at h
   rcases h with h | h
   ·rw [h]; exact .inl List.mem_cons_self
   ·rcases Anz b w m x h with z | z
    ·exact .inl (List.mem_cons_of_mem _ z)
    ·exact .inr z
theorem KN.del {β : Type} (b : Int) : ∀ {m : List (Int×β)},KN m→KN (AnD m b)
 | [],h=>h
 | (a,v)::m,h=>by
  unfold KN at h
  rw [List.map_cons,List.nodup_cons] at h
  rw [Ais]
  split
  ·exact h.2
  ·unfold KN
   rw [List.map_cons,List.nodup_cons]
   exact ⟨fun z=>h.1 (An1 b m _ z),KN.del b h.2⟩
theorem KN.put {β : Type} (b : Int) (w : β) : ∀ {m : List (Int×β)},KN m→KN (Agm m b w)
 | [],h=>by
  have : Agm ([] : List (Int×β)) b w = [(b,w)]:=rfl
  rw [this]; simp [KN]
 | (a,v)::m,h=>by
  have h':=h
  unfold KN at h
  rw [List.map_cons,List.nodup_cons] at h
  rw [Alz]
  split
  ·rename_i e; subst e; exact h'
  ·rename_i e
   unfold KN
   rw [List.map_cons,List.nodup_cons]
   refine ⟨fun z=>?_,KN.put b w h.2⟩
   rcases Anz b w m _ z with q | q
   ·exact h.1 q
   ·exact e q.symm
theorem Al1 {β : Type} : ∀ {m : List (Int×β)} {b : Int},b ∉ m.map (·.1)→AjY m b=none
 | [],b,_=>rfl
 | (a,v)::m,b,h=>by
  rw [List.map_cons,List.mem_cons] at h
  rw [Ag6,if_neg (fun e=>h (.inl e)),Al1 fun e=>h (.inr e)]
theorem An0 {β : Type} : ∀ {m : List (Int×β)} (_ : KN m) (a b : Int),AjY (AnD m a) b=if b=a then none else AjY m b
 | [],_,a,b=>by split <;> rfl
 | (c,v)::m,h,a,b=>by
  unfold KN at h
  rw [List.map_cons,List.nodup_cons] at h
  rw [Ais]
  by_cases e : a=c
  ·subst e
   rw [if_pos rfl,Ag6]
   by_cases e2 : b=a
   ·subst e2
    rw [if_pos rfl]; exact Al1 h.1
   ·rw [if_neg e2,if_neg e2]
  ·rw [if_neg e,Ag6,Ag6,An0 h.2 a b]
   by_cases e2 : b=c
   ·subst e2
    rw [if_pos rfl,if_neg (fun z=>e z.symm),if_pos rfl]
   ·rw [if_neg e2,if_neg e2]
theorem Al2 {β : Type} : ∀ (L : List Int) {m : List (Int×β)} (_ : KN m) (b : Int),KN (L.foldl AnD m)∧AjY (L.foldl AnD m) b=if b ∈ L then none else AjY m b
 | [],m,h,b=>⟨h,by simp⟩
 | a::L,m,h,b=>by
  have ih:=Al2 L (KN.del a h) b
  rw [List.foldl_cons]
  refine ⟨ih.1,?_⟩
  rw [ih.2,An0 h]
  by_cases e : b ∈ L
  ·rw [if_pos e,if_pos (List.mem_cons_of_mem _ e)]
  ·rw [if_neg e]
   by_cases e2 : b=a
   ·rw [if_pos e2,if_pos (e2 ▸ List.mem_cons_self)]
   ·rw [if_neg e2,if_neg (by rw [List.mem_cons]; rintro (z | z); exact e2 z; exact e z)]
def gA (A : List AaC) (a : Int) : AaC:=A.getD a.toNat ⟨0,0,0⟩
theorem AgT {A : List AaC} {i : Nat} (h : i<A.length) : gA A (i : Int)=A[i]:=by
 unfold gA
 rw [show ((i : Int)).toNat=i by omega,List.getD_eq_getElem?_getD,List.getElem?_eq_getElem h]; rfl
def nds (A : List AaC) (W : List Int) : List Int:=0::W.map fun a=>(gA A a).To
theorem Aen (A : List AaC) (W : List Int) : (nds A W).length=W.length+1:=by simp [nds]
theorem AiB (A : List AaC) (W : List Int) (a : Int) : nds A (W++[a])=nds A W++[(gA A a).To]:=by simp [nds]
theorem AiA (A : List AaC) (W : List Int) (k : Nat) : nds A (W.take k)=(nds A W).take (k+1):=by simp [nds,List.map_take]
structure Wy (A : List AaC) (W : List Int) (t : Int) : Prop where
 rng : ∀ a ∈ W,0≤a∧a<A.length
 nd : (nds A W).Nodup
 fr : ∀ j : Nat,j<W.length→(gA A (W.getD j 0)).From=(nds A W).getD j 0
 last : (nds A W).getD W.length 0=t
theorem Wy.nil (A : List AaC) : Wy A [] 0:=⟨by simp,by simp [nds],fun j h=>absurd h (Nat.not_lt_zero _),rfl⟩
theorem Ahe {l l' : List Int} {a : Int} (h : a ∈ l) : (l++l').idxOf a=l.idxOf a:=by
 induction l with
 | nil=>cases h
 | cons b l ih =>
  rw [List.cons_append,List.idxOf_cons,List.idxOf_cons]
  by_cases e : b=a
  ·simp [e]
  ·rw [List.mem_cons] at h
   have e' : (b==a)=false:=by simpa using e
   rw [e',ih (h.resolve_left (fun z=>e z.symm))]
theorem Ajt {l l' : List Int} {a : Int} (h : a ∉ l) : (l++l').idxOf a=l.length+l'.idxOf a:=by
 induction l with
 | nil=>simp
 | cons b l ih =>
  rw [List.mem_cons] at h
  have e' : (b==a)=false:=by simpa using fun z=>h (.inl z.symm)
  rw [List.cons_append,List.idxOf_cons,e',ih (fun z=>h (.inr z)),List.length_cons]
  simp; omega
theorem AmD {l l' : List Int} {j : Nat} (h : j<l.length) : (l++l').getD j 0=l.getD j 0:=by
 rw [List.getD_eq_getElem?_getD,List.getD_eq_getElem?_getD,List.getElem?_append_left h]
theorem AmC {l : List Int} {x : Int} : (l++[x]).getD l.length 0=x:=by
 rw [List.getD_eq_getElem?_getD,List.getElem?_append_right (Nat.le_refl _)]; simp
theorem Ai1 {l : List Int} {k j : Nat} (h : j<k) : (l.take k).getD j 0=l.getD j 0:=by
 rw [List.getD_eq_getElem?_getD,List.getD_eq_getElem?_getD,List.getElem?_take,if_pos h]
theorem Ars {l : List Int} {j : Nat} (h : j<l.length) : l.getD j 0 ∈ l:=by
 rw [List.getD_eq_getElem?_getD,List.getElem?_eq_getElem h]; exact List.getElem_mem h
theorem Wy.snoc {A : List AaC} {W : List Int} {t : Int} (hw : Wy A W t) {q : Nat} (hq : q<A.length) (hf : A[q].From=t) (hn : A[q].To ∉ nds A W) : Wy A (W++[(q : Int)]) A[q].To:=by
 refine ⟨fun a ha=>?_,?_,fun j hj=>?_,?_⟩
 ·rcases List.mem_append.1 ha with ha | ha
  ·exact hw.rng a ha
  ·rw [List.mem_singleton] at ha; omega
 ·rw [AiB,AgT hq,List.nodup_append]
  exact ⟨hw.nd,by simp,fun a ha b hb=>by rw [List.mem_singleton] at hb; subst hb; intro e; exact hn (e ▸ ha)⟩
 ·rw [AiB]
  have hj' : j<W.length+1:=by simpa using hj
  rw [AmD (l:=nds A W) (by rw [Aen]; omega)]
  by_cases e : j=W.length
  ·subst e
   rw [AmC,AgT hq,hf,hw.last]
  ·rw [AmD (l:=W) (by omega)]
   exact hw.fr j (by omega)
 ·rw [AiB,AgT hq,show (W++[(q : Int)]).length=(nds A W).length by rw [Aen]; simp,AmC]
theorem Wy.take {A : List AaC} {W : List Int} {t : Int} (hw : Wy A W t) {k : Nat} (hk : k≤W.length) : Wy A (W.take k) ((nds A W).getD k 0):=by
 have hl : (W.take k).length=k:=by rw [List.length_take]; omega
 refine ⟨fun a ha=>hw.rng a (List.mem_of_mem_take ha),?_,fun j hj=>?_,?_⟩
 ·rw [AiA]; exact hw.nd.sublist (List.take_sublist _ _)
 ·rw [hl] at hj
  rw [AiA,Ai1 hj,Ai1 (by omega)]
  exact hw.fr j (by omega)
 ·rw [hl,AiA,Ai1 (by omega)]
theorem Wy.len {N : Nat} {A : List AaC} (nv : NV N A) {W : List Int} {t : Int} (hw : Wy A W t) : W.length+1≤N:=by
 have:=nodup_range N (nds A W) hw.nd fun x hx=>by
  have n2:=nv.two
  unfold nds at hx
  rw [List.mem_cons] at hx
  rcases hx with hx | hx
  ·omega
  ·obtain ⟨a,ha,rfl⟩:=List.mem_map.1 hx
   have r:=hw.rng a ha
   have e : a=((a.toNat : Nat) : Int):=by omega
   have ok:=nv.ok _ (List.getElem_mem (show a.toNat<A.length by omega))
   rw [e,AgT (by omega)]; exact ⟨ok.2.2.1,ok.2.2.2.1⟩
 rw [Aen] at this; exact this
def Mt (m : List (Int×Int)) (L : List Int) : Prop:=KN m∧∀ v,AjY m v=if v ∈ L then some ((L.idxOf v : Nat) : Int) else none
theorem Mt.snoc {m : List (Int×Int)} {L : List Int} (h : Mt m L) {t : Int} (ht : t ∉ L) {n : Int} (hn : n=L.length) : Mt (Agm m t n) (L++[t]):=by
 refine ⟨KN.put t n h.1,fun v=>?_⟩
 rw [Afm]
 by_cases e : v=t
 ·subst e
  rw [if_pos rfl,if_pos (by simp),Ajt ht,hn]; simp
 ·rw [if_neg e,h.2 v]
  by_cases e2 : v ∈ L
  ·rw [if_pos e2,if_pos (List.mem_append_left _ e2),Ahe e2]
  ·rw [if_neg e2,if_neg (by rw [List.mem_append,List.mem_singleton]; rintro (z | z); exact e2 z; exact e z)]
theorem Mt.cut {m : List (Int×Int)} {L : List Int} (h : Mt m L) (hn : L.Nodup) {k : Nat} (hk : k<L.length) : Mt (Agm ((L.drop (k+1)++[L.getD k 0]).foldl AnD m) (L.getD k 0) (k : Int)) (L.take (k+1)):=by
 have d:=fun v=>Al2 (L.drop (k+1)++[L.getD k 0]) h.1 v
 have gk : L.getD k 0=L[k]:=by rw [List.getD_eq_getElem?_getD,List.getElem?_eq_getElem hk]; rfl
 have et : L.take (k+1)=L.take k++[L[k]]:=List.take_succ_eq_append_getElem hk
 have sp : L=L.take (k+1)++L.drop (k+1):=(List.take_append_drop _ _).symm
 have nt : L[k] ∉ L.take k:=by
  have q:=hn
  rw [sp,et] at q
  rw [List.nodup_append] at q
  have q:=q.1
  rw [List.nodup_append] at q
  intro z
  exact q.2.2 _ z _ (List.mem_singleton.2 rfl) rfl
 refine ⟨KN.put _ _ (d 0).1,fun v=>?_⟩
 rw [Afm,(d v).2,h.2 v,gk,et]
 by_cases e : v=L[k]
 ·subst e
  rw [if_pos rfl,if_pos (List.mem_append_right _ (List.mem_singleton.2 rfl)),Ajt nt]
  simp; omega
 ·rw [if_neg e]
  by_cases e1 : v ∈ L.take k
  ·have n1 : v ∉ L.drop (k+1):=by
    have q:=hn
    rw [sp,et,List.nodup_append] at q
    intro z
    exact q.2.2 v (List.mem_append_left _ e1) v z rfl
   rw [if_neg (by rw [List.mem_append,List.mem_singleton]; rintro (z | z); exact n1 z; exact e z),if_pos (List.mem_of_mem_take e1),if_pos (List.mem_append_left _ e1),Ahe e1]
   congr 2
   conv=>lhs; rw [sp,et,List.append_assoc]
   rw [Ahe e1]
  ·rw [if_neg (show ¬ v ∈ L.take k++[L[k]] by rw [List.mem_append,List.mem_singleton]; rintro (z | z); exact e1 z; exact e z)]
   by_cases e2 : v ∈ L.drop (k+1)
   ·rw [if_pos (List.mem_append_left _ e2)]
   ·rw [if_neg (by rw [List.mem_append,List.mem_singleton]; rintro (z | z); exact e2 z; exact e z),if_neg]
    intro z
    rw [sp,et,List.mem_append,List.mem_append,List.mem_singleton] at z
    rcases z with (z | z) | z
    ·exact e1 z
    ·exact e z
    ·exact e2 z
theorem Ax6 (k : Nat) (A : List AaC) (t : Int) (h9 : A.length≤100000) (j : Nat) (hj : j<A.length) (ej : A[j].From=t) : ∀ (m i n : Nat),i+m=j→m<n→∃ p : Nat,p≤j∧AaX.L1 k A t n (i : Int)=some (p : Int)
 | 0,i,n+1,e,_=>by
  have : i=j:=by omega
  subst this
  refine ⟨i,Nat.le_refl _,?_⟩
  rw [AaX.L1,if_pos (by omega),Aae hj,Adq,AaJ,if_pos (by simpa using ej)]
 | m+1,i,n+1,e,hn=>by
  have hi : i<A.length:=by omega
  rw [AaX.L1,if_pos (by omega),Aae hi,Adq,AaJ]
  by_cases c : A[i].From=t
  ·rw [if_pos (by simpa using c)]
   exact ⟨i,by omega,rfl⟩
  ·rw [if_neg (by simpa using c),Acv i (by omega)]
   exact Ax6 k A t h9 j hj ej m (i+1) n (by omega) (by omega)
theorem pL7 (k : Nat) (A : List AaC) (left W : List Int) (met : List (Int×Int)) (t : Int) (kb : List Int→List Int→List (Int×Int)→Int→Option ((List (List Int))×Int)) (h9 : A.length≤100000) (hl : left.length=A.length) (j : Nat) (hj : j<A.length) (hj' : j<left.length) (ej : A[j].From=t) (pj : 1≤left[j]) : ∀ (m i n : Nat),i+m=j→m<n →
 ∃ (q : Nat) (hq : q<A.length) (hq' : q<left.length),A[q].From=t∧left[q]≠0∧AaR.L7 k A left W met t kb n (i : Int)=AaR.J3 k A left W met kb (q : Int)
 | 0,i,n+1,e,_=>by
  have : i=j:=by omega
  subst this
  refine ⟨i,hj,hj',ej,by omega,?_⟩
  rw [AaR.L7,if_pos (by omega),Aae hj,if_neg (by simpa using ej),AaT ⟨by omega,by omega⟩,Aae hj',if_neg (by omega)]
 | m+1,i,n+1,e,hn=>by
  have hi : i<A.length:=by omega
  have hi' : i<left.length:=by omega
  have ih:=pL7 k A left W met t kb h9 hl j hj hj' ej pj m (i+1) n (by omega) (by omega)
  rw [AaR.L7,if_pos (by omega),Aae hi]
  unfold AaR.J8
  rw [Acv i (by omega)]
  by_cases c : A[i].From=t
  ·rw [if_neg (by simpa using c),AaT ⟨by omega,by omega⟩,Aae hi']
   by_cases z : left[i]=0
   ·rw [if_pos z]; exact ih
   ·rw [if_neg z]; exact ⟨i,hi,hi',c,z,rfl⟩
  ·rw [if_pos (by simpa using c)]; exact ih
theorem pL6 (k : Nat) (A : List AaC) (left W : List Int) (q x : Int) (ar_ : AaC) (c : Nat) (kb : List Int→List Int→List (Int×Int)→Int→Option ((List (List Int))×Int)) (h9 : A.length≤100000) (hc : c≤(W++[q]).length) (c1 : 1≤c) (hW : (W++[q]).length≤100000) (hr : ∀ a ∈ W++[q],0≤a∧a<A.length) : ∀ (m i n : Nat) (met : List (Int×Int)),c+i+m=(W++[q]).length→m<n →
 AaR.L6 k A left W q x ar_ (c : Int) kb n (i : Int) met=AaR.J4 k left q x ar_ kb ((W++[q]).take c) ((((W++[q]).drop (c+i)).map fun a=>(gA A a).To).foldl AnD met)
 | 0,i,n+1,met,e,_=>by
  rw [AaR.L6,if_neg (by omega),AaT ⟨by omega,by omega,by omega,by omega⟩,List.drop_of_length_le (by omega),show ((c : Int)).toNat=c by omega]; rfl
 | m+1,i,n+1,met,e,hn=>by
  have hi : c+i<(W++[q]).length:=by omega
  have r:=hr _ (List.getElem_mem hi)
  have ih:=pL6 k A left W q x ar_ c kb h9 hc c1 hW hr m (i+1) n (AnD met (gA A (W++[q])[c+i]).To) (by omega) (by omega)
  have e1 : (W++[q])[c+i]=(((W++[q])[c+i].toNat : Nat) : Int):=by omega
  rw [AaR.L6,if_pos (by omega),AaT ⟨by omega,by omega,by omega⟩,show ((((c : Int)).toNat+((i : Int)).toNat : Nat) : Int)=((c+i : Nat) : Int) by omega,Aae hi]
  generalize ha : (W++[q])[c+i]=a at *
  obtain ⟨b,rfl⟩:=Int.eq_ofNat_of_zero_le r.1
  have hb : b<A.length:=by omega
  rw [Aae hb,Acv i (by omega),List.drop_eq_getElem_cons hi,ha,List.map_cons,List.foldl_cons]
  rw [AgT hb] at ih ⊢
  exact ih
structure Lf (N : Nat) (A : List AaC) (f left W : List Int) (met : List (Int×Int)) (t r : Int) : Prop where
 len : left.length=A.length
 nn : ∀ (i : Nat) (h : i<left.length),0≤left[i]
 sur : ∀ v,Mf.sur (ar A) left v=r*(Mf.b2 (0=v)-Mf.b2 (1=v))-(Mf.b2 (0=v)-Mf.b2 (t=v))
 wy : Wy A W t
 mt : Mt met (nds A W)
 use : ∀ i : Nat,i<A.length→((W.count (i : Int) : Nat) : Int)+left.getD i 0≤f.getD i 0
theorem AkX (A : List Mf.Arc) : ∀ (f : List Int),(∀ (i : Nat) (h : i<f.length),0≤f[i])→0≤Mf.sm A f fun _=>1:=by
 induction A with
 | nil=>intro f _; simp [Mf.sm_nil]
 | cons a A ih =>
  intro f h
  cases f with
  | nil=>simp [Mf.sm]
  | cons x f =>
   rw [Mf.sm_cons]
   have:=h 0 (by simp)
   have:=ih f fun i hi=>by have:=h (i+1) (by simpa using hi); simpa using this
   simp at *; omega
theorem AhC (a : Int) (l : List Int) (k : Nat) : (l.take k).count a≤l.count a:=(List.take_sublist k l).count_le a
theorem pL2 (k N : Nat) (A : List AaC) (nv : NV N A) (f : List Int) (hf : ∀ i : Nat,f.getD i 0≤1048576) (r : Int) (hr : 1≤r) (v9 : Int) (out : List (List Int)) (ho : out.length≤5000000000) (hk : 1200<k) (kb : Int→List Int→List (List Int)→Option ((List (List Int))×Int)) : ∀ (m n : Nat) (left W : List Int) (met : List (Int×Int)) (t : Int),Lf N A f left W met t r→Mf.sm (ar A) left (fun _=>1)≤m→m<n →
 ∃ left' W',AaR.L2 k A v9 out kb n left W met t=kb (IntKind.wrap .i64 (v9+1)) left' (out++[W'])∧left'.length=A.length∧(∀ (i : Nat) (h : i<left'.length),0≤left'[i])∧(∀ v,Mf.sur (ar A) left' v=(r-1)*(Mf.b2 (0=v)-Mf.b2 (1=v)))∧Wy A W' 1∧(∀ i : Nat,i<A.length→((W'.count (i : Int) : Nat) : Int)+left'.getD i 0≤f.getD i 0):=by
 intro m
 induction m with
 | zero =>
  intro n left W met t L hm hn
  obtain ⟨n,rfl⟩ : ∃ j,n=j+1:=⟨n-1,by omega⟩
  have hA:=nv.len
  have wl:=L.wy.len nv
  have n130:=nv.n130
  rw [AaR.L2]
  by_cases c : t=1
  ·subst c
   refine ⟨left,W,?_,L.len,L.nn,fun v=>?_,L.wy,L.use⟩
   ·rw [if_neg (by omega),AcG,AaT (by omega),AaJ,AaT (by simp only [List.length_cons,List.length_nil]; omega)]
   ·rw [L.sur v,Int.sub_mul]; omega
  ·exfalso
   have s1 : 1≤Mf.sur (ar A) left t:=by
    rw [L.sur t]
    unfold Mf.b2
    by_cases z : t=0
    ·subst z; simp; omega
    ·rw [if_neg (fun e=>z e.symm),if_neg (fun e=>c e.symm),if_pos rfl]; omega
   obtain ⟨j,j1,j2,j3⟩:=Mf.out_arc t (by rw [Ab6]; exact L.len) L.nn s1
   rw [Ab6] at j1
   have hj : j<left.length:=by rw [L.len]; exact j1
   have q:=Mf.sm_set (ar A) (fun _=>1) (-1) left j (by rw [Ab6]; exact j1) hj
   have q2:=AkX (ar A) (left.set j (left[j] + -1)) (fun i hi=>by
    rw [List.getElem_set]
    split
    ·rw [List.getD_eq_getElem?_getD,List.getElem?_eq_getElem hj] at j3; simp only [Option.getD_some] at j3; omega
    ·exact L.nn i (by simpa using hi))
   rw [q] at q2; omega
 | succ m ih =>
  intro n left W met t L hm hn
  obtain ⟨n,rfl⟩ : ∃ j,n=j+1:=⟨n-1,by omega⟩
  have hA:=nv.len
  have wl:=L.wy.len nv
  have n130:=nv.n130
  rw [AaR.L2]
  by_cases c : t=1
  ·subst c
   refine ⟨left,W,?_,L.len,L.nn,fun v=>?_,L.wy,L.use⟩
   ·rw [if_neg (by omega),AcG,AaT (by omega),AaJ,AaT (by simp only [List.length_cons,List.length_nil]; omega)]
   ·rw [L.sur v,Int.sub_mul]; omega
  ·have s1 : 1≤Mf.sur (ar A) left t:=by
    rw [L.sur t]
    unfold Mf.b2
    by_cases z : t=0
    ·subst z; simp; omega
    ·rw [if_neg (fun e=>z e.symm),if_neg (fun e=>c e.symm),if_pos rfl]; omega
   obtain ⟨j,j1,j2,j3⟩:=Mf.out_arc t (by rw [Ab6]; exact L.len) L.nn s1
   rw [Ab6] at j1
   rw [Ahv j1] at j2
   have hj : j<left.length:=by rw [L.len]; exact j1
   have j4 : 1≤left[j]:=by rw [List.getD_eq_getElem?_getD,List.getElem?_eq_getElem hj] at j3; simpa using j3
   obtain ⟨p,p1,p2⟩:=Ax6 k A t (by omega) j j1 j2 j 0 k (by omega) (by omega)
   have p2 : AaX k A t=some (p : Int):=p2
   obtain ⟨q,hq,hq',q1,q2,q3⟩:=pL7 k A left W met t (fun v12_ v13_ v14_ v15_=>AaR.L2 k A v9 out kb n v12_ v13_ v14_ v15_) (by omega) L.len j j1 hj j2 j4 (j-p) p k (by omega) (by omega)
   have ok:=nv.ok _ (List.getElem_mem hq)
   have lq:=L.nn q hq'
   have ub : left[q]≤1048576:=by
    have u:=L.use q hq
    have u2:=hf q
    rw [List.getD_eq_getElem?_getD,List.getElem?_eq_getElem hq',Option.getD_some] at u
    omega
   rw [if_pos c,p2,AaJ,q3]
   unfold AaR.J3
   rw [AaT ⟨by omega,by omega⟩,Aae hq',AaT ⟨by omega,by omega⟩,AaT (by simp only [List.length_cons,List.length_nil]; omega),Aae hq]
   have setlen : (left.set q (left[q] + -1)).length=A.length:=by rw [List.length_set]; exact L.len
   have nn' : ∀ (i : Nat) (h : i<(left.set q (left[q] + -1)).length),0≤(left.set q (left[q] + -1))[i]:=by
    intro i hi
    rw [List.getElem_set]
    split
    ·omega
    ·exact L.nn i (by simpa using hi)
   have sur' : ∀ v,Mf.sur (ar A) (left.set q (left[q] + -1)) v=r*(Mf.b2 (0=v)-Mf.b2 (1=v))-(Mf.b2 (0=v)-Mf.b2 (A[q].To=v)):=by
    intro v
    have a:=Mf.sur_set (ar A) left v (-1) q (by rw [Ab6]; exact hq) hq'
    rw [a,L.sur v]
    have : (ar A)[q]'(by rw [Ab6]; exact hq)=⟨A[q].From,A[q].To,A[q].Cap⟩:=by simp [ar]
    rw [this,← q1]; simp only []; omega
   have less : Mf.sm (ar A) (left.set q (left[q] + -1)) (fun _=>1)≤m:=by
    rw [Mf.sm_set (ar A) (fun _=>1) (-1) left q (by rw [Ab6]; exact hq) hq']; omega
   have get' : ∀ i : Nat,i<A.length→(left.set q (left[q] + -1)).getD i 0=left.getD i 0-if i=q then 1 else 0:=by
    intro i hi
    rw [List.getD_eq_getElem?_getD,List.getD_eq_getElem?_getD,List.getElem?_set]
    by_cases e : q=i
    ·subst e
     rw [if_pos rfl,if_pos hq',if_pos rfl,List.getElem?_eq_getElem hq']; simp only [Option.getD_some]; omega
    ·rw [if_neg e,if_neg (fun z=>e z.symm),Int.sub_zero]
   have w1 : IntKind.wrap .i64 (left[q]-1)=left[q] + -1:=by rw [w64 (by omega) (by omega)]; omega
   have done : ∀ (W'' : List Int) (met'' : List (Int×Int)),Wy A W'' A[q].To→Mt (Agm met'' A[q].To (W''.length : Int)) (nds A W'')→(∀ i : Nat,i<A.length→((W''.count (i : Int) : Nat) : Int)+(left.set q (left[q] + -1)).getD i 0≤f.getD i 0) →
    ∃ left' W',AaR.J4 k left (q : Int) left[q] A[q] (fun v12_ v13_ v14_ v15_=>AaR.L2 k A v9 out kb n v12_ v13_ v14_ v15_) W'' met''=kb (IntKind.wrap .i64 (v9+1)) left' (out++[W'])∧left'.length=A.length∧(∀ (i : Nat) (h : i<left'.length),0≤left'[i])∧(∀ v,Mf.sur (ar A) left' v=(r-1)*(Mf.b2 (0=v)-Mf.b2 (1=v)))∧Wy A W' 1∧(∀ i : Nat,i<A.length→((W'.count (i : Int) : Nat) : Int)+left'.getD i 0≤f.getD i 0):=by
    intro W'' met'' h1 h2 h3
    unfold AaR.J4
    rw [w1,show ((q : Int)).toNat=q by omega]
    exact ih n _ W'' _ _ ⟨setlen,nn',sur',h1,h2,h3⟩ less (by omega)
   have Awn : ∀ i : Nat,i<A.length→(((W++[(q : Int)]).count (i : Int) : Nat) : Int)+(left.set q (left[q] + -1)).getD i 0≤f.getD i 0:=by
    intro i hi
    have u:=L.use i hi
    rw [get' i hi,List.count_append]
    by_cases e : i=q
    ·subst e
     have : [(i : Int)].count (i : Int)=1:=by simp
     rw [if_pos rfl,this]; omega
    ·rw [if_neg e]
     have : [(q : Int)].count (i : Int)=0:=by rw [List.count_eq_zero]; simp; omega
     rw [this]; omega
   rw [L.mt.2 A[q].To]
   by_cases seen : A[q].To ∈ nds A W
   ·rw [if_pos seen]
    have il : (nds A W).idxOf A[q].To<(nds A W).length:=List.idxOf_lt_length_of_mem seen
    have ig : (nds A W).getD ((nds A W).idxOf A[q].To) 0=A[q].To:=by
     rw [List.getD_eq_getElem?_getD,List.getElem?_eq_getElem il]; simp
    have i0 : (nds A W).idxOf A[q].To≠0:=by
     intro z
     have z2:=ig
     rw [z] at z2
     have : (nds A W).getD 0 0=0:=rfl
     exact ok.2.2.2.2.2.1 (by omega)
    generalize hc : (nds A W).idxOf A[q].To=ci at *
    rw [Aen] at il
    simp only [Aps]
    unfold AaR.J5
    rw [if_pos rfl,AaT ⟨by simp,by omega,by simp; omega⟩]
    have l6:=pL6 k A left W (q : Int) left[q] A[q] ci (fun v12_ v13_ v14_ v15_=>AaR.L2 k A v9 out kb n v12_ v13_ v14_ v15_) (by omega) (by simp; omega) (by omega) (by simp; omega) (fun a ha=>by
     rcases List.mem_append.1 ha with ha | ha
     ·exact L.wy.rng a ha
     ·rw [List.mem_singleton] at ha; omega) ((W++[(q : Int)]).length-ci) 0 k met (by simp; omega) (by simp; omega)
    rw [show (0 : Int)=((0 : Nat) : Int) from rfl,l6]
    have t1 : (W++[(q : Int)]).take ci=W.take ci:=List.take_append_of_le_length (by omega)
    have t2 : ((W++[(q : Int)]).drop (ci+0)).map (fun a=>(gA A a).To)=(nds A W).drop (ci+1)++[(nds A W).getD ci 0]:=by
     rw [Nat.add_zero,List.drop_append_of_le_length (by omega),List.map_append,ig]
     simp [nds,AgT hq]
    rw [t1,t2]
    have wt:=L.wy.take (k:=ci) (by omega)
    rw [ig] at wt
    refine done _ _ wt ?_ fun i hi=>?_
    ·have:=L.mt.cut L.wy.nd (k:=ci) (by rw [Aen]; omega)
     rw [AiA,show ((W.take ci).length : Int)=(ci : Int) by rw [List.length_take]; omega]
     rw [ig] at this ⊢; exact this
    ·have:=Awn i hi
     have c1:=AhC (i : Int) W ci
     have c2 : W.count (i : Int)≤(W++[(q : Int)]).count (i : Int):=by rw [List.count_append]; omega
     omega
   ·rw [if_neg seen]
    simp only [Aps]
    unfold AaR.J5
    rw [if_neg (by simp)]
    refine done _ _ (L.wy.snoc hq q1 seen) ?_ Awn
    rw [AiB,AgT hq]
    exact L.mt.snoc seen (by rw [Aen]; simp)
def Ajb (out : List (List Int)) (a : Int) : Nat:=out.flatten.count a
theorem pL1 (k N : Nat) (A : List AaC) (nv : NV N A) (f : List Int) (hf : ∀ i : Nat,f.getD i 0≤1048576) (hk : 1200<k) (hk3 : A.length*1048576<k) (V : Nat) (hV : V≤4000000000) : ∀ (m i n : Nat) (left : List Int) (out : List (List Int)),i+m=V→m<n→out.length=i→(∀ W ∈ out,Wy A W 1)→left.length=A.length→(∀ (i : Nat) (h : i<left.length),0≤left[i]) →
 (∀ v,Mf.sur (ar A) left v=(m : Int)*(Mf.b2 (0=v)-Mf.b2 (1=v)))→(∀ j : Nat,j<A.length→((Ajb out (j : Int) : Nat) : Int)+left.getD j 0≤f.getD j 0) →
 ∃ out',AaR.L1 k A (V : Int) n (i : Int) left out=some (out',0)∧out'.length=V∧(∀ W ∈ out',Wy A W 1)∧(∀ j : Nat,j<A.length→((Ajb out' (j : Int) : Nat) : Int)≤f.getD j 0)
 | 0,i,n+1,left,out,e,_,ho,hw,hl,nn,hs,hu=>by
  refine ⟨out,?_,by omega,hw,fun j hj=>?_⟩
  ·rw [AaR.L1,if_neg (by omega)]
  ·have u:=hu j hj
   have:=nn j (by omega)
   rw [List.getD_eq_getElem?_getD,List.getElem?_eq_getElem (show j<left.length by omega),Option.getD_some] at u
   omega
 | m+1,i,n+1,left,out,e,hn,ho,hw,hl,nn,hs,hu=>by
  have hA:=nv.len
  have tot : Mf.sm (ar A) left (fun _=>1)≤((A.length*1048576 : Nat) : Int):=by
   have : ∀ (A : List Mf.Arc) (l : List Int),(∀ x ∈ l,x≤1048576)→Mf.sm A l (fun _=>1)≤A.length*1048576:=by
    intro A
    induction A with
    | nil=>intro l _; simp [Mf.sm_nil]
    | cons a A ih =>
     intro l h
     cases l with
     | nil=>rw [Mf.sm_nil']; omega
     | cons x l =>
      rw [Mf.sm_cons]
      have:=h x List.mem_cons_self
      have:=ih l fun y hy=>h y (List.mem_cons_of_mem _ hy)
      simp only [List.length_cons]; omega
   have:=this (ar A) left fun x hx=>by
    obtain ⟨j,hj,rfl⟩:=List.mem_iff_getElem.1 hx
    have u:=hu j (by omega)
    have:=hf j
    rw [List.getD_eq_getElem?_getD,List.getElem?_eq_getElem hj,Option.getD_some] at u
    omega
   rw [Ab6] at this; omega
  have L : Lf N A left left [] (Agm ([] : List (Int×Int)) 0 0) 0 ((m : Int)+1):=by
   refine ⟨hl,nn,fun v=>?_,Wy.nil A,⟨by simp [KN,Agm,mgI],fun v=>?_⟩,fun j hj=>by simp⟩
   ·rw [hs v]; simp only [Int.sub_self,Int.sub_zero]; congr 1
   ·rw [Afm]
    have e0 : nds A [] = [0]:=rfl
    rw [e0]
    by_cases z : v=0
    ·subst z; simp
    ·rw [if_neg z,if_neg (by simpa using z)]; rfl
  have hf' : ∀ i : Nat,left.getD i 0≤1048576:=by
   intro j
   by_cases hj : j<A.length
   ·have:=hu j hj; have:=hf j; omega
   ·rw [List.getD_eq_getElem?_getD,List.getElem?_eq_none (by omega)]; simp
  obtain ⟨left',W',e1,e2,e3,e4,e5,e6⟩:=pL2 k N A nv left hf' ((m : Int)+1) (by omega) (i : Int) out (by omega) hk (fun v9_ v10_ v11_=>AaR.L1 k A (V : Int) n v9_ v10_ v11_) (A.length*1048576) k left [] _ 0 L tot hk3
  rw [AaR.L1,if_pos (by omega),e1,Acv i (by omega)]
  refine pL1 k N A nv f hf hk hk3 V hV m (i+1) n left' (out++[W']) (by omega) (by omega) (by simp; exact ho) (fun W hW=>?_) e2 e3 (fun v=>?_) (fun j hj=>?_)
  ·rcases List.mem_append.1 hW with hW | hW
   ·exact hw W hW
   ·rw [List.mem_singleton] at hW; subst hW; exact e5
  ·rw [e4 v,show (m : Int)+1-1=(m : Int) by omega]
  ·have a:=e6 j hj
   have b:=hu j hj
   have c : Ajb (out++[W']) (j : Int)=Ajb out (j : Int)+W'.count (j : Int):=by unfold Ajb; rw [List.flatten_append,List.count_append]; simp
   rw [c]; omega
structure PW (A : List AaC) (f : List Int) (out : List (List Int)) (V : Int) : Prop where
 len : (out.length : Int)=V
 wy : ∀ W ∈ out,Wy A W 1
 use : ∀ j : Nat,j<A.length→((Ajb out (j : Int) : Nat) : Int)≤f.getD j 0
theorem AqK (k N : Nat) (A : List AaC) (f : List Int) (nv : NV N A) (fl : Mf.Flow N (ar A) f) (h0 : 0≤Mf.val (ar A) f) (hk : 1300<k) (hk3 : A.length*1048576<k) : ∃ out,AaR k (N : Int) A f=some (out,0)∧PW A f out (Mf.val (ar A) f):=by
 have hA:=nv.len
 have vb:=AlM nv f fl
 have hl:=fl.len
 rw [Ab6] at hl
 have fb:=FB.of fl
 obtain ⟨V,hV⟩:=Int.eq_ofNat_of_zero_le h0
 unfold AaR
 rw [Ai6 k N A (by omega),AaJ,(AhE _ _).2 ⟨N,rfl,nv⟩,if_neg (by simp),AmM k N A f hk,AaJ,(Ahh _ _ _).2 ⟨N,rfl,nv,fl⟩,if_neg (by simp),AlV k f (by omega),AaJ,AnM k N A f nv fl hk,AaJ,hV]
 have hf : ∀ i : Nat,f.getD i 0≤1048576:=by
  intro j
  by_cases hj : j<f.length
  ·rw [List.getD_eq_getElem?_getD,List.getElem?_eq_getElem hj,Option.getD_some]
   have:=fb.hi j hj (by omega)
   have:=(nv.ok _ (List.getElem_mem (show j<A.length by omega))).2.2.2.2.2.2.2.2
   omega
  ·rw [List.getD_eq_getElem?_getD,List.getElem?_eq_none (by omega)]; simp
 have sur : ∀ v,Mf.sur (ar A) f v=(V : Int)*(Mf.b2 (0=v)-Mf.b2 (1=v)):=by
  intro v
  unfold Mf.b2
  by_cases z0 : 0=v
  ·subst z0
   have : Mf.sur (ar A) f 0=(V : Int):=hV
   rw [this,if_pos rfl,if_neg (by omega)]; omega
  ·rw [if_neg z0]
   by_cases z1 : 1=v
   ·subst z1
    rw [if_pos rfl]
    have a:=Mf.val_side nv.net fl (fun v=>decide (v≠1)) (by simp) (by simp)
    rw [Mf.sm_congr (w':=fun a => -1*(Mf.b2 (a.fr=1)-Mf.b2 (a.to=1))) (fun a _=>by
     unfold Mf.b2
     by_cases z : a.fr=1 <;> by_cases z' : a.to=1 <;> simp [z,z']) f,Mf.sm_mul] at a
    have a : Mf.val (ar A) f = -1*Mf.sur (ar A) f 1:=a
    omega
   ·rw [if_neg z1,fl.zero v (fun e=>z0 e.symm) (fun e=>z1 e.symm)]; omega
 obtain ⟨out,o1,o2,o3,o4⟩:=pL1 k N A nv f hf (by omega) hk3 V (by omega) V 0 k f [] (by omega) (by omega) rfl (by simp) hl fb.lo sur (fun j hj=>by simp [Ajb])
 exact ⟨out,o1,⟨by omega,o3,o4⟩⟩
theorem AlP {w : Mf.Arc→Int} : ∀ {A : List Mf.Arc} {f : List Int},(∀ a ∈ A,0≤w a)→(∀ (i : Nat) (h : i<f.length),0≤f[i])→0≤Mf.sm A f w
 | [],f,_,_=>by rw [Mf.sm_nil]; exact Int.le_refl _
 | a::A,[],_,_=>by rw [Mf.sm_nil']; exact Int.le_refl _
 | a::A,x::f,h1,h2=>by
  rw [Mf.sm_cons]
  have:=h2 0 (by simp)
  have p:=Int.mul_nonneg (h1 a List.mem_cons_self) this
  have q:=AlP (A:=A) (f:=f) (fun b hb=>h1 b (List.mem_cons_of_mem _ hb)) fun i hi=>by have:=h2 (i+1) (by simpa using hi); simpa using this
  simp only [List.getElem_cons_zero] at p
  omega
theorem AoU {N : Nat} {A : List AaC} {f : List Int} (nv : NV N A) (fl : Mf.Flow N (ar A) f) : 0≤Mf.val (ar A) f:=by
 unfold Mf.val Mf.sur
 refine AlP (fun a ha=>?_) fl.lo
 have:=nv.net.src a ha
 unfold Mf.b2
 rw [if_neg this]; split <;> omega
theorem oL3 (k : Nat) (f : List Int) (v9 : Int) (n0 : Nat) (g : Int→Int) (met : List Int) (q : Nat) (arc : AaC) (kb : Int→Int→List Int→List Int→Option Bool) (h9 : met.length≤100000) (hm : arc.To ∉ met) (hq : q<n0) (hqf : q<f.length) (g0 : 0≤g q) (g1 : g q+1≤f[q]) (g2 : g q≤1000000000000) : ∀ (m i n : Nat),i+m=met.length→m<n →
 Aaf.L3 k f v9 (AfS n0 g) met (q : Int) arc kb n (i : Int)=kb arc.To (IntKind.wrap .i64 (v9+1)) (AfS n0 fun v=>if v=(q : Int) then g q+1 else g v) (met++[arc.To])
 | 0,i,n+1,e,_=>by
  rw [Aaf.L3,if_neg (by omega),AaT (by simp only [List.length_cons,List.length_nil]; omega),AaT (by rw [Ab2]; omega),Adh (by omega) (by omega),AaT (by rw [Ab2]; omega),w64 (n:=g (q : Int)+1) (by omega) (by omega),Afy (by omega),AaT (by rw [Ab2]; omega),Adh (by omega) (by omega),if_pos rfl,Aae hqf,if_neg (by omega)]
 | m+1,i,n+1,e,hn=>by
  have hi : i<met.length:=by omega
  rw [Aaf.L3,if_pos (by omega),AaT ⟨by omega,by omega⟩,Aae hi,if_neg (fun z=>hm (by rw [← z]; exact List.getElem_mem hi)),Acv i (by omega)]
  exact oL3 k f v9 n0 g met q arc kb h9 hm hq hqf g0 g1 g2 m (i+1) n (by omega) (by omega)
theorem oL2 (k N : Nat) (A : List AaC) (nv : NV N A) (f : List Int) (hl : f.length=A.length) (hf : ∀ i : Nat,f.getD i 0≤1048576) (hk : 1300<k) (out : List (List Int)) (i : Nat) (hi : i<out.length) (hw : Wy A out[i] 1) (hu : ∀ j : Nat,j<A.length→((Ajb (out.take i) (j : Int) : Nat) : Int)+((out[i].count (j : Int) : Nat) : Int)≤f.getD j 0) (kb : Int→List Int→Option Bool) : ∀ (m j n : Nat),j+m=out[i].length→m<n →
 Aaf.L2 k A f out (i : Int) kb n ((nds A out[i]).getD j 0) (j : Int) (AfS A.length fun v=>((Ajb (out.take i) v : Nat) : Int)+(((out[i].take j).count v : Nat) : Int)) ((nds A out[i]).take (j+1))=kb (IntKind.wrap .i64 ((i : Int)+1)) (AfS A.length fun v=>((Ajb (out.take i) v : Nat) : Int)+((out[i].count v : Nat) : Int))
 | 0,j,n+1,e,_=>by
  have : j=out[i].length:=by omega
  subst this
  rw [Aaf.L2,Aae hi,if_neg (by omega),hw.last,if_neg (by omega),List.take_of_length_le (Nat.le_refl _)]
 | m+1,j,n+1,e,hn=>by
  have hj : j<out[i].length:=by omega
  have wl:=hw.len nv
  have n130:=nv.n130
  have hA:=nv.len
  have r:=hw.rng _ (List.getElem_mem hj)
  have ih:=oL2 k N A nv f hl hf hk out i hi hw hu kb m (j+1) n (by omega) (by omega)
  have fr:=hw.fr j hj
  have tk : out[i].take (j+1)=out[i].take j++[out[i][j]]:=List.take_succ_eq_append_getElem hj
  have nj : (nds A out[i]).getD (j+1) 0=(gA A out[i][j]).To:=by
   unfold nds
   rw [List.getD_cons_succ,List.getD_eq_getElem?_getD,List.getElem?_map,List.getElem?_eq_getElem hj]; rfl
  have ntk : (nds A out[i]).take (j+1+1)=(nds A out[i]).take (j+1)++[(nds A out[i]).getD (j+1) 0]:=by
   have hlt : j+1<(nds A out[i]).length:=by rw [Aen]; omega
   rw [List.take_succ_eq_append_getElem hlt,List.getD_eq_getElem?_getD,List.getElem?_eq_getElem hlt]; rfl
  have nin : (nds A out[i]).getD (j+1) 0 ∉ (nds A out[i]).take (j+1):=by
   have q:=hw.nd.sublist (List.take_sublist (j+1+1) _)
   rw [ntk,List.nodup_append] at q
   intro z
   exact q.2.2 _ z _ (List.mem_singleton.2 rfl) rfl
  have gd : out[i].getD j 0=out[i][j]:=by rw [List.getD_eq_getElem?_getD,List.getElem?_eq_getElem hj]; rfl
  rw [gd] at fr
  rw [nj] at ntk nin ih
  have cl:=AhC out[i][j] out[i] (j+1)
  rw [tk,List.count_append] at cl
  have c1 : [out[i][j]].count out[i][j]=1:=by simp
  rw [c1] at cl
  rw [Aaf.L2,Aae hi,if_pos (by omega),Aae hj,if_neg (by omega),if_neg (by omega)]
  rw [tk] at ih
  generalize ha : out[i][j]=a at *
  obtain ⟨q,rfl⟩:=Int.eq_ofNat_of_zero_le r.1
  have hq : q<A.length:=by omega
  have hqf : q<f.length:=by omega
  rw [AgT hq] at fr nj ntk nin ih
  have u:=hu q hq
  have u2:=hf q
  rw [List.getD_eq_getElem?_getD,List.getElem?_eq_getElem hqf,Option.getD_some] at u u2
  rw [Aae hq,if_neg (by rw [fr]; simp),show (0 : Int)=((0 : Nat) : Int) from rfl]
  have l3:=oL3 k f (j : Int) A.length (fun v=>((Ajb (out.take i) v : Nat) : Int)+(((out[i].take j).count v : Nat) : Int)) ((nds A out[i]).take (j+1)) q A[q] (fun v8_ v9_ v10_ v11_=>Aaf.L2 k A f out (i : Int) kb n v8_ v9_ v10_ v11_) (by rw [List.length_take,Aen]; omega) nin hq hqf (by omega) (by omega) (by omega) ((nds A out[i]).take (j+1)).length 0 k (by omega) (by rw [List.length_take,Aen]; omega)
  refine Eq.trans l3 ?_
  rw [Acv j (by omega),← ntk,← ih]
  congr 2
  funext v
  rw [List.count_append]
  by_cases e1 : v=(q : Int)
  ·subst e1
   rw [if_pos rfl,c1]; omega
  ·rw [if_neg e1]
   have : [(q : Int)].count v=0:=by rw [List.count_eq_zero,List.mem_singleton]; exact e1
   rw [this]; omega
theorem AmR (out : List (List Int)) (i : Nat) (hi : i<out.length) (a : Int) : Ajb (out.take (i+1)) a=Ajb (out.take i) a+out[i].count a:=by
 unfold Ajb
 rw [List.take_succ_eq_append_getElem hi,List.flatten_append,List.count_append]; simp
theorem AjB (out : List (List Int)) (i : Nat) (a : Int) : Ajb (out.take i) a≤Ajb out a:=by
 unfold Ajb
 conv=>rhs; rw [← List.take_append_drop i out,List.flatten_append,List.count_append]
 omega
theorem oL1 (k N : Nat) (A : List AaC) (nv : NV N A) (f : List Int) (hl : f.length=A.length) (hf : ∀ i : Nat,f.getD i 0≤1048576) (hk : 1300<k) (out : List (List Int)) (h9 : out.length≤5000000000) (hw : ∀ W ∈ out,Wy A W 1) (hu : ∀ j : Nat,j<A.length→((Ajb out (j : Int) : Nat) : Int)≤f.getD j 0) : ∀ (m i n : Nat),i+m=out.length→m<n →
 Aaf.L1 k A f out n (i : Int) (AfS A.length fun v=>((Ajb (out.take i) v : Nat) : Int))=some true
 | 0,i,n+1,e,_=>by rw [Aaf.L1,if_neg (by omega)]
 | m+1,i,n+1,e,hn=>by
  have hi : i<out.length:=by omega
  have w:=hw _ (List.getElem_mem hi)
  have wl:=w.len nv
  have n130:=nv.n130
  have l2:=oL2 k N A nv f hl hf hk out i hi w (fun j hj=>by
   have a:=hu j hj
   have b:=AjB out (i+1) (j : Int)
   rw [AmR out i hi] at b
   omega) (fun v6_ v7_=>Aaf.L1 k A f out n v6_ v7_) out[i].length 0 k (by omega) (by omega)
  have ih:=oL1 k N A nv f hl hf hk out h9 hw hu m (i+1) n (by omega) (by omega)
  rw [Aaf.L1,if_pos (by omega)]
  have e1 : (AfS A.length fun v=>((Ajb (out.take i) v : Nat) : Int))=AfS A.length fun v=>((Ajb (out.take i) v : Nat) : Int)+(((out[i].take 0).count v : Nat) : Int):=by
   congr 1
  have e2 : (nds A out[i]).take (0+1) = [0]:=rfl
  rw [e2] at l2
  rw [e1]
  refine Eq.trans l2 ?_
  rw [Acv i (by omega),← ih]
  congr 2
  funext v
  rw [AmR out i hi]; omega
theorem ApY (k N : Nat) (A : List AaC) (nv : NV N A) (f : List Int) (fl : Mf.Flow N (ar A) f) (hk : 1300<k) (out : List (List Int)) (pw : PW A f out (Mf.val (ar A) f)) (hko : out.length<k) (h9 : out.length≤5000000000) : Aaf k (N : Int) A f out=some true:=by
 have hA:=nv.len
 have hl:=fl.len
 rw [Ab6] at hl
 have fb:=FB.of fl
 have hf : ∀ i : Nat,f.getD i 0≤1048576:=by
  intro j
  by_cases hj : j<f.length
  ·rw [List.getD_eq_getElem?_getD,List.getElem?_eq_getElem hj,Option.getD_some]
   have:=fb.hi j hj (by omega)
   have:=(nv.ok _ (List.getElem_mem (show j<A.length by omega))).2.2.2.2.2.2.2.2
   omega
  ·rw [List.getD_eq_getElem?_getD,List.getElem?_eq_none (by omega)]; simp
 unfold Aaf
 rw [AaT (by omega),ApV k N A f hk,AaJ,if_pos ((Ahh _ _ _).2 ⟨N,rfl,nv,fl⟩),if_neg (by rw [pw.len]; simp),show ((A.length : Int)).toNat=A.length by omega,Ah6]
 have:=oL1 k N A nv f hl hf hk out h9 pw.wy pw.use out.length 0 k (by omega) hko
 rw [← this]
 congr 1
end Go.TF
set_option linter.unusedVariables false
set_option linter.unusedSimpArgs false
set_option maxRecDepth 100000
namespace Go.TF
open Go Go.Abs
theorem AvR {N : Nat} {E : List AaB} {g s t : List Int} {lv : Int} {ks : List Int} (h1 : 1≤N) (hN : N≤64) (hE : inE N E) (hs : ∀ x ∈ s,0≤x∧x<N) (hk : ∀ x ∈ ks,0≤x∧x<N) (ht : ∀ x ∈ t,1≤x) (c9 : ∀ x,cF N E g s t lv x≤1048576) (hl : (AeS N E g s t lv ks).length≤1200) : NV (2+2*N) (AeS N E g s t lv ks):=by
 refine ⟨by omega,by omega,hl,fun a ha=>?_⟩
 rcases Arf hE hs hk ht a ha with ⟨x,rfl,p⟩ | ⟨x,rfl,p⟩ | ⟨x,rfl,p⟩ | ⟨e,rfl,p⟩
 ·have:=c9 x; simp only [arS]; omega
 ·have:=c9 x; simp only [arI]; omega
 ·simp only [arT]; omega
 ·simp only [arE]; omega
theorem Aqv {p : Prop} [Decidable p] (h : ¬ p) : Mf.b2 p=0:=if_neg h
theorem Awx {p : Prop} [Decidable p] (h : p) : Mf.b2 p=1:=if_pos h
def AhP (A : List AaC) (w : AaC→Int) : Int:=(A.map fun a=>w a*a.Cap).sum
theorem Ad6 (A B : List AaC) (w : AaC→Int) : AhP (A++B) w=AhP A w+AhP B w:=by simp [AhP]
theorem Ads {A : List AaC} {w : AaC→Int} (h : ∀ a ∈ A,w a=0) : AhP A w=0:=by
 induction A with
 | nil=>rfl
 | cons a A ih =>
  have:=ih fun b hb=>h b (List.mem_cons_of_mem _ hb)
  simp only [AhP,List.map_cons,List.sum_cons] at this ⊢
  rw [this,h a List.mem_cons_self]; simp
theorem Ags : ∀ {A : List AaC} {f : List Int} {w : Mf.Arc→Int},(∀ a ∈ ar A,0≤w a)→f.length=A.length→(∀ (i : Nat) (h : i<f.length) (h' : i<A.length),f[i]≤A[i].Cap)→Mf.sm (ar A) f w≤AhP A fun a=>w ⟨a.From,a.To,a.Cap⟩
 | [],f,w,_,_,_=>by simp [ar,Mf.sm_nil,AhP]
 | a::A,[],w,_,h,_=>by cases h
 | a::A,x::f,w,hw,hl,hc=>by
  have e : ar (a::A)=⟨a.From,a.To,a.Cap⟩::ar A:=by simp [ar]
  have ih:=Ags (A:=A) (f:=f) (w:=w) (fun b hb=>hw b (by rw [e]; exact List.mem_cons_of_mem _ hb)) (by simpa using hl) fun i h h'=>by have:=hc (i+1) (by simpa using h) (by simpa using h'); simpa using this
  have h0:=hc 0 (by simp) (by simp)
  simp only [List.getElem_cons_zero] at h0
  have:=Int.mul_le_mul_of_nonneg_left h0 (hw ⟨a.From,a.To,a.Cap⟩ (by rw [e]; exact List.mem_cons_self))
  rw [e,Mf.sm_cons]
  simp only [AhP,List.map_cons,List.sum_cons] at ih ⊢
  omega
theorem AhT {L : List Int} (hn : L.Nodup) (k y : Int) : (L.map fun x=>if x=k then y else 0).sum=if k ∈ L then y else 0:=by
 induction L with
 | nil=>rfl
 | cons a L ih =>
  rw [List.nodup_cons] at hn
  rw [List.map_cons,List.sum_cons,ih hn.2]
  by_cases e : a=k
  ·subst e
   rw [if_pos rfl,if_neg hn.1,if_pos List.mem_cons_self]; omega
  ·rw [if_neg e,Int.zero_add]
   by_cases m : k ∈ L
   ·rw [if_pos m,if_pos (List.mem_cons_of_mem _ m)]
   ·rw [if_neg m,if_neg (by rw [List.mem_cons]; rintro (z | z); exact e z.symm; exact m z)]
theorem Ae5 (N : Nat) : (AgJ N).Nodup:=by
 unfold AgJ
 rw [List.nodup_iff_pairwise_ne,List.pairwise_map]
 exact List.nodup_range.imp (fun h e=>h (by omega))
theorem Aft {l : List Int} (h : l.Pairwise (· < ·)) : l.Nodup:=by
 rw [List.nodup_iff_pairwise_ne]; exact h.imp (fun h e=>by omega)
theorem AtH {N : Nat} {E : List AaB} {g s t : List Int} {lv : Int} {ks : List Int} (hE : inE N E) (hs : ∀ x ∈ s,0≤x∧x<N) (hk : ∀ x ∈ ks,0≤x∧x<N) (ha : ks.Pairwise (· < ·)) (ht : ∀ x ∈ t,1≤x) (c0 : ∀ x,0≤cF N E g s t lv x) (k : Int) (k0 : 0≤k) : AhP (AeS N E g s t lv ks) (fun a=>Mf.b2 (a.From=2+2*k))≤cF N E g s t lv k:=by
 have P:=fun v=>Aqg (N:=N) (E:=E) (g:=g) (s:=s) (lv:=lv) ht v
 have e1 : AhP ((s.filter (Aem N E g s lv)).map (arS (cF N E g s t lv))) (fun a=>Mf.b2 (a.From=2+2*k))=0:=Ads fun a ha=>by
  obtain ⟨x,_,rfl⟩:=List.mem_map.1 ha
  exact Aqv (by simp only [arS]; omega)
 have e4 : AhP (((E.filter (lvE lv)).filter fun e=>Aem N E g s lv e.From).map arE) (fun a=>Mf.b2 (a.From=2+2*k))=0:=Ads fun a ha=>by
  obtain ⟨x,_,rfl⟩:=List.mem_map.1 ha
  exact Aqv (by simp only [arE]; omega)
 have e2 : AhP (((AgJ N).filter (Aem N E g s lv)).map (arI (cF N E g s t lv))) (fun a=>Mf.b2 (a.From=2+2*k))=if k ∈ (AgJ N).filter (Aem N E g s lv) then cF N E g s t lv k-1 else 0:=by
  rw [← AhT ((Ae5 N).sublist List.filter_sublist)]
  unfold AhP
  rw [List.map_map]
  congr 1
  refine List.map_congr_left fun x _=>?_
  show Mf.b2 ((arI (cF N E g s t lv) x).From=2+2*k)*(arI (cF N E g s t lv) x).Cap=_
  by_cases z : x=k
  ·subst z; rw [Awx (show (arI (cF N E g s t lv) x).From=2+2*x from rfl),if_pos rfl,Int.one_mul]; rfl
  ·rw [Aqv (by simp only [arI]; omega),if_neg z,Int.zero_mul]
 have e3 : AhP ((ks.filter (Aem N E g s lv)).map arT) (fun a=>Mf.b2 (a.From=2+2*k))=if k ∈ ks.filter (Aem N E g s lv) then 1 else 0:=by
  rw [← AhT ((Aft ha).sublist List.filter_sublist)]
  unfold AhP
  rw [List.map_map]
  congr 1
  refine List.map_congr_left fun x _=>?_
  show Mf.b2 ((arT x).From=2+2*k)*(arT x).Cap=_
  by_cases z : x=k
  ·subst z; rw [Awx (show (arT x).From=2+2*x from rfl),if_pos rfl,Int.one_mul]; rfl
  ·rw [Aqv (by simp only [arT]; omega),if_neg z,Int.zero_mul]
 unfold AeS AnT
 rw [Ad6,Ad6,Ad6,e1,e2,e3,e4]
 have:=c0 k
 by_cases r : Aem N E g s lv k=true
 ·have p:=(P k).2 r
  split <;> split <;> omega
 ·rw [if_neg (fun z=>r (List.mem_filter.1 z).2),if_neg (fun z=>r (List.mem_filter.1 z).2)]; omega
theorem Avb {N : Nat} {E : List AaB} {g s t : List Int} {lv : Int} {ks : List Int} (hE : inE N E) (hs : ∀ x ∈ s,0≤x∧x<N) (hk : ∀ x ∈ ks,0≤x∧x<N) : AhP (AeS N E g s t lv ks) (fun a=>Mf.b2 (a.To=1))≤ks.length:=by
 have e1 : AhP ((s.filter (Aem N E g s lv)).map (arS (cF N E g s t lv))) (fun a=>Mf.b2 (a.To=1))=0:=Ads fun a ha=>by
  obtain ⟨x,hx,rfl⟩:=List.mem_map.1 ha
  exact Aqv (by simp only [arS]; omega)
 have e4 : AhP (((E.filter (lvE lv)).filter fun e=>Aem N E g s lv e.From).map arE) (fun a=>Mf.b2 (a.To=1))=0:=Ads fun a ha=>by
  obtain ⟨x,_,rfl⟩:=List.mem_map.1 ha
  exact Aqv (by simp only [arE]; omega)
 have e2 : AhP (((AgJ N).filter (Aem N E g s lv)).map (arI (cF N E g s t lv))) (fun a=>Mf.b2 (a.To=1))=0:=Ads fun a ha=>by
  obtain ⟨x,hx,rfl⟩:=List.mem_map.1 ha
  have:=Ad3.1 (List.mem_filter.1 hx).1
  exact Aqv (by simp only [arI]; omega)
 have e3 : AhP ((ks.filter (Aem N E g s lv)).map arT) (fun a=>Mf.b2 (a.To=1))=((ks.filter (Aem N E g s lv)).length : Int):=by
  generalize ks.filter (Aem N E g s lv)=L
  induction L with
  | nil=>rfl
  | cons x L ih =>
   simp only [AhP,List.map_cons,List.sum_cons,List.length_cons] at ih ⊢
   rw [ih]
   rw [Awx (show (arT x).To=1 from rfl)]; simp only [arT]; omega
 unfold AeS AnT
 rw [Ad6,Ad6,Ad6,e1,e2,e3,e4]
 have:=List.length_filter_le (Aem N E g s lv) ks
 omega
theorem Aus {N : Nat} {A : List AaC} (nv : NV N A) {f : List Int} (fl : Mf.Flow N (ar A) f) : Mf.val (ar A) f=Mf.sm (ar A) f fun a=>Mf.b2 (a.to=1):=by
 rw [Mf.val_side nv.net fl (fun v=>decide (v≠1)) (by simp) (by simp)]
 refine Mf.sm_congr (fun a ha=>?_) f
 have:=nv.net.snk a ha
 unfold Mf.b2
 by_cases z : a.to=1 <;> simp [z,this]
theorem AoW {N : Nat} {A : List AaC} {f : List Int} (fl : Mf.Flow N (ar A) f) (v : Int) (h0 : v≠0) (h1 : v≠1) : (Mf.sm (ar A) f fun a=>Mf.b2 (a.to=v))=Mf.sm (ar A) f fun a=>Mf.b2 (a.fr=v):=by
 have z:=fl.zero v h0 h1
 unfold Mf.sur at z
 have:=Mf.sm_add (ar A) (fun a=>Mf.b2 (a.fr=v)-Mf.b2 (a.to=v)) (fun a=>Mf.b2 (a.to=v)) f
 rw [z] at this
 have e:=Mf.sm_congr (A:=ar A) (w:=fun a=>Mf.b2 (a.fr=v)-Mf.b2 (a.to=v)+Mf.b2 (a.to=v)) (w':=fun a=>Mf.b2 (a.fr=v)) (fun a _=>by omega) f
 rw [e] at this; omega
end Go.TF
set_option linter.unusedVariables false
set_option linter.unusedSimpArgs false
set_option maxRecDepth 100000
namespace Go.TF
open Go Go.Abs
theorem AsN (k N : Nat) (d : Int→Int) (hN : N≤1000000) : ∀ (m i n : Nat) (acc : List Int),i+m=N→m<n→acc.length≤i→Aak.L1 k (N : Int) (tab N d) n (i : Int) acc=some (acc++((AgJ N).drop i).filter fun x=>decide (0≤d x))
 | 0,i,n+1,acc,e,_,_=>by
  rw [Aak.L1,if_neg (by omega),List.drop_of_length_le (by rw [Af5]; omega)]; simp
 | m+1,i,n+1,acc,e,hn,la=>by
  have ih:=fun acc=>AsN k N d hN m (i+1) n acc (by omega) (by omega)
  rw [Aak.L1,if_pos (by omega),Alu N i (by omega)]
  unfold Adz Aak.J2
  rw [AdH (by omega) (by omega),AaJ]
  simp only [Acv i (by omega)]
  by_cases q : 0≤d (i : Int)
  ·rw [if_pos (by simpa using q),AaT (by simp only [List.length_cons,List.length_nil]; omega),ih _ (by simp; omega),List.filter_cons,if_pos (by simpa using q),List.append_assoc]; rfl
  ·rw [if_neg (by simpa using q),ih _ (by omega),List.filter_cons,if_neg (by simpa using q)]
theorem Ap1 (k N : Nat) (d : Int→Int) (v5 : Int) (kb : Int→List Int→Option (List Int)) : ∀ (j n : Nat) (l : List Int),j<n→j<l.length→l.length≤1000000000→(∀ x ∈ l,0≤x∧x<N)→∃ l' : List Int,l'.Perm l∧AaE.L3 k 0 (tab N d) v5 kb n (j : Int) l=kb (IntKind.wrap .i64 (v5+1)) l'
 | 0,n+1,l,_,_,_,_=>⟨l,.refl _,by rw [AaE.L3,if_neg (by omega)]; rfl⟩
 | j+1,n+1,l,hn,hl,h9,hr=>by
  have hj : j<l.length:=by omega
  have m1:=hr _ (List.getElem_mem hl)
  have m0:=hr _ (List.getElem_mem hj)
  rw [AaE.L3,if_pos (by omega),AaT (by omega),Aae hl,ArV j (by omega),AaT (by omega),Aae hj]
  unfold Ady AaE.J2
  rw [AdH m1.1 m1.2,AdH m0.1 m0.2,Aqd,AaJ,AaJ]
  generalize (if d l[j+1]<d l[j] then (-1 : Int) else if d l[j]<d l[j+1] then 1 else 0)=c
  by_cases q : c<0
  ·have sp:=List.set_set_perm (as:=l) hl hj
   have ln:=sp.length_eq
   rw [if_pos q,AaT (by omega),AaT (by omega),AaT (by omega),AaT (by rw [List.length_set]; omega),Int.toNat_natCast,Int.toNat_natCast]
   obtain ⟨l',p,e⟩:=Ap1 k N d v5 kb j n _ (by omega) (by rw [ln]; omega) (by rw [ln]; omega) (fun x hx=>hr x (sp.mem_iff.1 hx))
   exact ⟨l',p.trans sp,e⟩
  ·rw [if_neg q]
   exact ⟨l,.refl _,rfl⟩
theorem Ap2 (k N : Nat) (d : Int→Int) (L : Nat) (hL : L≤1000000000) (hk : L<k) : ∀ (m i n : Nat) (l : List Int),L≤i+m→m<n→l.length=L→(∀ x ∈ l,0≤x∧x<N)→i≤1000000000→∃ l' : List Int,l'.Perm l∧AaE.L1 k 0 (L : Int) (tab N d) n (i : Int) l=some l'
 | 0,i,n+1,l,e,_,_,_,_=>⟨l,.refl _,by rw [AaE.L1,if_neg (by omega)]⟩
 | m+1,i,n+1,l,e,hn,hl,hr,h9=>by
  rw [AaE.L1]
  by_cases q : i<L
  ·rw [if_pos (by omega)]
   obtain ⟨l1,p1,e1⟩:=Ap1 k N d (i : Int) (fun v5_ v6_=>AaE.L1 k 0 (L : Int) (tab N d) n v5_ v6_) i k l (by omega) (by omega) (by omega) hr
   obtain ⟨l2,p2,e2⟩:=Ap2 k N d L hL hk m (i+1) n l1 (by omega) (by omega) (p1.length_eq.trans hl) (fun x hx=>hr x (p1.mem_iff.1 hx)) (by omega)
   refine ⟨l2,p2.trans p1,Eq.trans e1 ?_⟩
   rw [Acv i (by omega),e2]
  ·exact ⟨l,.refl _,by rw [if_neg (by omega)]⟩
theorem ArN (k N : Nat) (d : Int→Int) (l : List Int) (hl : l.length<20) (hk : 100<k) (hr : ∀ x ∈ l,0≤x∧x<N) : ∃ l' : List Int,l'.Perm l∧AbA k l (tab N d)=some l':=by
 obtain ⟨q,rfl⟩ : ∃ q,k=q+1:=⟨k-1,by omega⟩
 obtain ⟨l',p,e⟩:=Ap2 (q+1) N d l.length (by omega) (by omega) l.length 1 (q+1) l (by omega) (by omega) rfl hr (by omega)
 refine ⟨l',p,?_⟩
 unfold AbA AaS
 rw [AaS.L1,if_neg (by omega)]
 unfold AaE
 rw [show IntKind.wrap .i64 ((0 : Int)+1)=((1 : Nat) : Int) from by rw [w64 (by omega) (by omega)]; rfl,e,AaJ,AaT p.length_eq,AaS.L2,if_neg (by omega),AaJ,AaT p.length_eq]
theorem AvK (N : Nat) (E : List AaB) (g s t : List Int) (lv : Int) (G : GW N E g) (hN : N≤15) (hs : s.length≤200) (hsr : ∀ x ∈ s,0≤x∧x<N) :
 ∃ o : List Int,Aeh 1000000000 (N : Int) E g s t lv=some o∧o.Nodup∧(∀ x ∈ o,0≤x∧x<N)∧o.length≤N:=by
 have h1:=G.len; have h2:=G.glen; have h4:=G.pos
 have hf : (E.filter (lvE lv)).length≤500:=Nat.le_trans (List.length_filter_le _ _) h1
 have nd : ((AgJ N).filter fun x=>decide (0≤dE (E.filter (lvE lv)) (sS s g) N x)).Nodup:=(Ae5 N).sublist List.filter_sublist
 have rg : ∀ x ∈ (AgJ N).filter fun x=>decide (0≤dE (E.filter (lvE lv)) (sS s g) N x),0≤x∧x<N:=fun x hx=>Ad3.1 (List.mem_filter.1 hx).1
 have ln : ((AgJ N).filter fun x=>decide (0≤dE (E.filter (lvE lv)) (sS s g) N x)).length≤N:=by
  have:=List.length_filter_le (fun x=>decide (0≤dE (E.filter (lvE lv)) (sS s g) N x)) (AgJ N)
  rwa [Af5] at this
 have w:=AsN 1000000000 N (dE (E.filter (lvE lv)) (sS s g) N) (by omega) N 0 1000000000 [] (by omega) (by omega) (by simp)
 rw [List.drop_zero,List.nil_append] at w
 obtain ⟨o,p,e⟩:=ArN 1000000000 N (dE (E.filter (lvE lv)) (sS s g) N) _ (Nat.lt_of_le_of_lt ln (by omega)) (by omega) rg
 refine ⟨o,?_,p.nodup_iff.2 nd,fun x hx=>rg x (p.mem_iff.1 hx),by rw [p.length_eq]; exact ln⟩
 unfold Aeh Aes
 rw [Ai3 1000000000 N E g lv (by omega) (by omega) (by omega),AdN,Aqb N _ g s h4 (by omega) hf (fun x=>Nat.le_trans (Aig E _ x) (G.o12 x)) (fun e he=>G.inE e (List.mem_filter.1 he).1) (by omega) (by omega) hsr,AaJ,AfB]
 unfold Aak
 refine Eq.trans (congrArg (fun x=>AbK (AbK x _) _) w) ?_
 rw [AaJ,e,AaJ,AaT p.length_eq,AaJ]
def srt (l : List Int) : List Int:=l.mergeSort fun x y=>decide (x≤y)
theorem Ac2 (l : List Int) : (srt l).Perm l:=List.mergeSort_perm _ _
theorem ApL {l : List Int} (h : l.Nodup) : (srt l).Pairwise (· < ·):=by
 have a:=List.pairwise_mergeSort (le:=fun x y : Int=>decide (x≤y)) (by intro a b c; simp; omega) (by intro a b; simp; omega) l
 have b : (srt l).Nodup:=(Ac2 l).nodup_iff.2 h
 rw [List.nodup_iff_pairwise_ne] at b
 exact a.imp₂ (fun x y h1 h2=>by simp at h1; omega) b
theorem Av5 {a b : List Int} (ha : a.Pairwise (· < ·)) (hb : b.Pairwise (· < ·)) (h : ∀ x,x ∈ a↔x ∈ b) : a=b :=
 List.Perm.eq_of_pairwise (le:=fun x y=>x<y) (fun x y _ _ h1 h2=>by omega) ha hb ((List.perm_ext_iff_of_nodup (Aft ha) (Aft hb)).2 h)
theorem AnC {N : Nat} {E : List AaB} {g s t : List Int} {lv : Int} {ks : List Int} (hE : inE N E) (hs : ∀ x ∈ s,0≤x∧x<N) (hk : ∀ x ∈ ks,0≤x∧x<N) (nv : NV (2+2*N) (AeS N E g s t lv ks)) : ∀ f,Mf.Flow (2+2*N) (ar (AeS N E g s t lv ks)) f→Mf.val (ar (AeS N E g s t lv ks)) f≤((ks.length : Nat) : Int):=by
 intro f fl
 have lf:=fl.len
 rw [Ab6] at lf
 have fb:=FB.of fl
 rw [Aus nv fl]
 have a:=Ags (A:=AeS N E g s t lv ks) (f:=f) (w:=fun a=>Mf.b2 (a.to=1)) (fun _ _=>by unfold Mf.b2; split <;> omega) lf fb.hi
 have b:=Avb (g:=g) (t:=t) (lv:=lv) hE hs hk
 exact Int.le_trans a b
section
variable {N : Nat} {E : List AaB} {g s t : List Int} {lv : Int}
theorem Akp (G : GV N E g) (pv : PV N s t lv) {ks : List Int} (hk : ∀ x ∈ ks,0≤x∧x<N) (hl : ks.length≤20) : NV (2+2*N) (AeS N E g s t lv ks):=by
 have h1:=G.len; have h2:=G.pos; have h3:=G.le; have h4:=pv.sl
 have hl':=Aio N E g s t lv ks
 exact AvR (g:=g) (s:=s) (t:=t) (lv:=lv) (by omega) (by omega) G.inE pv.sr hk (fun x hx=>(pv.tr x hx).1) (fun x=>by
  have:=Aik (t:=t) (fun y hy=>by have:=pv.tr y hy; omega) (dE (E.filter (lvE lv)) (sS s g) N x)
  have : cF N E g s t lv x≤100000:=this.2
  omega) (by omega)
theorem Aq4 (G : GV N E g) (pv : PV N s t lv) {l : List Int} (hn : l.Nodup) (hr : ∀ x ∈ l,0≤x∧x<N) (hl : l.length≤20) :
 Ac1 1000000000 (N : Int) E g s t lv l=some (2+2*(N : Int),AeS N E g s t lv (srt l)):=by
 have h4:=pv.sl
 have ln:=(Ac2 l).length_eq
 unfold Ac1 AeX
 rw [if_pos (by omega),AaJ]
 have:=Apf N E g s t lv (srt l) G.gw (by omega) (by omega) pv.pol
 rw [if_pos ((Af1 _ _).2 ⟨fun x hx=>hr x ((Ac2 l).mem_iff.1 hx),ApL hn⟩)] at this
 refine Eq.trans (congrArg (fun x=>Ao4 x _) this) ?_
 rw [AdN]
theorem AkZ {A : List AaC} (nv : NV (2+2*N) A) (C : Nat) (hC : ∀ f,Mf.Flow (2+2*N) (ar A) f→Mf.val (ar A) f≤C) (hc : C≤900) (hA : A.length≤900) (c : Int) :
 ∃ f,AgA 1000000000 (2+2*(N : Int)) A=some (f,0)∧AnW (2+2*N) A f∧Adu 1000000000 (2+2*(N : Int)) A c=some (f,Mf.val (ar A) f==c):=by
 obtain ⟨f,f1,f2⟩:=Atk 1000000000 (2+2*N) A nv (by omega) (by omega) C hC (by omega)
 rw [show ((2+2*N : Nat) : Int)=2+2*(N : Int) by omega] at f1
 refine ⟨f,f1,f2,?_⟩
 unfold Adu
 rw [f1,Aa7,AmL 1000000000 _ A f (by omega),AaJ,if_pos ((Ahh _ _ _).2 ⟨2+2*N,by omega,nv,f2.fl⟩)]
def Ayr (N : Nat) (E : List AaB) (g s t : List Int) (lv : Int) (l f : List Int) : Prop :=
 AgA 1000000000 (2+2*(N : Int)) (AeS N E g s t lv (srt l))=some (f,0)∧Mf.val (ar (AeS N E g s t lv (srt l))) f=l.length
theorem AsT (G : GV N E g) (pv : PV N s t lv) (o : List Int) (on : o.Nodup) (or : ∀ x ∈ o,0≤x∧x<N) (ol : o.length≤12) : ∀ (m i n : Nat) (acc : List Int) (R : List AaP),i+m=o.length→m<n→acc.Nodup→(∀ x ∈ acc,x ∈ o.take i)→acc.length≤i→R.length≤i→(∃ f,Ayr N E g s t lv acc f) →
 ∃ acc' f R',Aba.L1 1000000000 (N : Int) E g s t lv o n (i : Int) acc R=some (acc',f,R',0)∧acc'.Nodup∧(∀ x ∈ acc',0≤x∧x<N)∧acc'.length≤12∧AnW (2+2*N) (AeS N E g s t lv (srt acc')) f∧Mf.val (ar (AeS N E g s t lv (srt acc'))) f=acc'.length
 | 0,i,n+1,acc,R,e,_,an,ao,al,_,⟨f,fm,fv⟩=>by
  have ar' : ∀ x ∈ acc,0≤x∧x<N:=fun x hx=>or x (List.mem_of_mem_take (ao x hx))
  have sr : ∀ x ∈ srt acc,0≤x∧x<N:=fun x hx=>ar' x ((Ac2 acc).mem_iff.1 hx)
  have ln:=(Ac2 acc).length_eq
  have nv:=Akp (g:=g) (lv:=lv) G pv sr (by omega)
  have hl:=Aio N E g s t lv (srt acc)
  have h1:=G.len; have h3:=G.le; have h4:=pv.sl
  obtain ⟨f',g1,g2,g3⟩:=AkZ nv _ (AnC G.inE pv.sr sr nv) (by omega) (by omega) (acc.length : Int)
  rw [fm] at g1
  obtain rfl : f=f':=by simpa using g1
  refine ⟨acc,f,R,?_,an,ar',by omega,g2,fv⟩
  rw [Aba.L1,if_neg (by omega),Aq4 G pv an ar' (by omega),Aa7,g3,Aa7]
 | m+1,i,n+1,acc,R,e,hn,an,ao,al,Rl,full=>by
  have hi : i<o.length:=by omega
  have ih:=fun acc R=>AsT G pv o on or ol m (i+1) n acc R (by omega) (by omega)
  have mi : o[i] ∉ acc:=fun hx=>by
   obtain ⟨j,hj,q⟩:=List.mem_iff_getElem.1 (ao _ hx)
   rw [List.getElem_take] at q
   rw [List.length_take] at hj
   have:=(List.getElem_inj on).1 q
   omega
  have an' : (acc++[o[i]]).Nodup:=by
   rw [List.nodup_append]
   exact ⟨an,by simp,fun a ha b hb=>by simp at hb; subst hb; exact fun z=>mi (z ▸ ha)⟩
  have ao' : ∀ x ∈ acc++[o[i]],x ∈ o.take (i+1):=by
   intro x hx
   rw [List.take_succ_eq_append_getElem hi]
   rcases List.mem_append.1 hx with z | z
   ·exact List.mem_append_left _ (ao x z)
   ·exact List.mem_append_right _ z
  have ar' : ∀ x ∈ acc++[o[i]],0≤x∧x<N:=fun x hx=>or x (List.mem_of_mem_take (ao' x hx))
  have sr : ∀ x ∈ srt (acc++[o[i]]),0≤x∧x<N:=fun x hx=>ar' x ((Ac2 _).mem_iff.1 hx)
  have al' : (acc++[o[i]]).length=acc.length+1:=by simp
  have ln:=(Ac2 (acc++[o[i]])).length_eq
  have nv:=Akp (g:=g) (lv:=lv) G pv sr (by omega)
  have hl:=Aio N E g s t lv (srt (acc++[o[i]]))
  have h1:=G.len; have h3:=G.le; have h4:=pv.sl
  obtain ⟨f,g1,g2,g3⟩:=AkZ nv _ (AnC G.inE pv.sr sr nv) (by omega) (by omega) ((acc++[o[i]]).length : Int)
  have aw : AfK 1000000000 acc o[i]=some (acc++[o[i]]):=by
   unfold AfK
   rw [AaT (by omega),show ((acc.length : Int)).toNat=acc.length by omega,List.take_length,AaT (by simp only [List.length_cons,List.length_nil]; omega)]
  rw [Aba.L1,if_pos (by omega),Aae hi,aw,AaJ,Aq4 G pv an' ar' (by omega),Aa7,g3,Aa7]
  unfold Aba.J2
  simp only [Acv i (by omega)]
  by_cases q : Mf.val (ar (AeS N E g s t lv (srt (acc++[o[i]])))) f=((acc++[o[i]]).length : Int)
  ·rw [if_pos (by simpa using q)]
   exact ih _ R an' ao' (by omega) (by omega) ⟨f,g1,q⟩
  ·obtain ⟨V,v1,_,_⟩:=AnN 1000000000 (2+2*N) _ f nv g2.fl (by omega) (by omega)
   rw [show ((2+2*N : Nat) : Int)=2+2*(N : Int) by omega] at v1
   rw [if_neg (by simpa using q),v1,AaJ,AaT (by simp only [List.length_cons,List.length_nil]; omega)]
   exact ih _ _ an (fun x hx=>by
    rw [List.take_succ_eq_append_getElem hi]
    exact List.mem_append_left _ (ao x hx)) (by omega) (by simp; omega) full
theorem AwD (G : GV N E g) (pv : PV N s t lv) : ∃ acc f R,Aba 1000000000 (N : Int) E g s t lv=some (acc,f,R,0)∧acc.Nodup∧(∀ x ∈ acc,0≤x∧x<N)∧acc.length≤12∧AnW (2+2*N) (AeS N E g s t lv (srt acc)) f∧Mf.val (ar (AeS N E g s t lv (srt acc))) f=acc.length:=by
 have h1:=G.len; have h2:=G.glen; have h3:=G.le; have h4:=pv.sl
 obtain ⟨o,e,on,or,ol⟩:=AvK N E g s t lv G.gw (by omega) (by omega) pv.sr
 have sr : ∀ x ∈ srt ([] : List Int),0≤x∧x<N:=fun x hx=>by have:=(Ac2 []).mem_iff.1 hx; simp at this
 have ln : (srt []).length=0:=(Ac2 []).length_eq
 have nv:=Akp (g:=g) (lv:=lv) G pv sr (by omega)
 have hl:=Aio N E g s t lv (srt [])
 have vb:=AnC G.inE pv.sr sr nv
 obtain ⟨f,g1,g2,g3⟩:=AkZ nv _ vb (by omega) (by omega) 0
 have v0:=AoU nv g2.fl
 have v1:=vb f g2.fl
 have:=AsT G pv o on or (by omega) o.length 0 1000000000 [] [] (by omega) (by omega) .nil (by simp) (by simp) (by simp) ⟨f,g1,by rw [List.length_nil]; omega⟩
 unfold Aba
 rw [AmX 1000000000 N E g s t lv (by omega) (by omega) (by omega) (by omega) (by omega),AaJ,if_pos G.ok,if_pos pv.pol,if_neg (by simp),e,AaJ]
 exact this
end
end Go.TF
set_option linter.unusedVariables false
set_option linter.unusedSimpArgs false
set_option maxRecDepth 100000
namespace Go.TF
open Go Go.Abs
theorem As1 {L : List Nat} {f g : Nat→Int} (h : ∀ x ∈ L,f x≤g x) : (L.map f).sum≤(L.map g).sum:=by
 induction L with
 | nil=>simp
 | cons a L ih =>
  have h1:=h a List.mem_cons_self
  have h2:=ih fun x hx=>h x (List.mem_cons_of_mem _ hx)
  simp only [List.map_cons,List.sum_cons]; omega
theorem As2 {L : List Int} {f g : Int→Int} (h : ∀ x ∈ L,f x≤g x) (e : (L.map g).sum≤(L.map f).sum) : ∀ x ∈ L,f x=g x:=by
 have le : ∀ {L : List Int},(∀ x ∈ L,f x≤g x)→(L.map f).sum≤(L.map g).sum:=by
  intro L
  induction L with
  | nil=>simp
  | cons a L ih =>
   intro h
   have h1:=h a List.mem_cons_self
   have h2:=ih fun x hx=>h x (List.mem_cons_of_mem _ hx)
   simp only [List.map_cons,List.sum_cons]; omega
 induction L with
 | nil=>simp
 | cons a L ih =>
  have h1:=h a List.mem_cons_self
  have h3:=fun x hx=>h x (List.mem_cons_of_mem _ hx)
  have h2:=le h3
  simp only [List.map_cons,List.sum_cons] at e
  intro x hx
  rcases List.mem_cons.1 hx with rfl | hx
  ·omega
  ·exact ih h3 (by omega) x hx
theorem AsO (N : Nat) : ∀ {ks : List Int},ks.Nodup→(∀ x ∈ ks,0≤x∧x<N)→((AgJ N).map fun x=>if x ∈ ks then (1 : Int) else 0).sum=ks.length
 | [],_,_=>by
  simp only [List.not_mem_nil,if_false,List.length_nil]
  generalize AgJ N=L
  induction L with
  | nil=>rfl
  | cons a L ih=>rw [List.map_cons,List.sum_cons,ih]; rfl
 | k::ks,hn,hr=>by
  rw [List.nodup_cons] at hn
  have ih:=AsO N hn.2 fun x hx=>hr x (List.mem_cons_of_mem _ hx)
  have o:=AhT (Ae5 N) k 1
  rw [if_pos (Ad3.2 (hr k List.mem_cons_self))] at o
  have e : ∀ L : List Int,(L.map fun x=>if x ∈ k::ks then (1 : Int) else 0).sum=(L.map fun x=>if x=k then (1 : Int) else 0).sum+(L.map fun x=>if x ∈ ks then (1 : Int) else 0).sum:=by
   intro L
   induction L with
   | nil=>rfl
   | cons a L ih =>
    simp only [List.mem_cons] at ih ⊢
    simp only [List.map_cons,List.sum_cons,ih]
    by_cases z : a=k
    ·subst z; simp only [true_or,if_true,if_neg hn.1]; omega
    ·simp only [z,false_or,if_false]; omega
  rw [e,o,ih,List.length_cons]; omega
def pC (A : List AaC) (p : AaC→Bool) (L : List Int) : Int:=((L.countP fun a=>p (gA A a) : Nat) : Int)
theorem Ans (A : List AaC) (p : AaC→Bool) : pC A p []=0:=rfl
theorem Akl (A : List AaC) (p : AaC→Bool) (a : Int) (L : List Int) : pC A p (a::L)=(if p (gA A a)=true then 1 else 0)+pC A p L:=by
 unfold pC
 rw [List.countP_cons]
 split <;> omega
theorem AsV (A : List AaC) (p : AaC→Bool) (L M : List Int) : pC A p (L++M)=pC A p L+pC A p M:=by
 unfold pC; rw [List.countP_append]; omega
theorem AvF (A : List AaC) (p : AaC→Bool) (L : List Int) : 0≤pC A p L∧pC A p L≤L.length:=by
 unfold pC; have:=List.countP_le_length (p:=fun a=>p (gA A a)) (l:=L); omega
theorem AsU (A : List AaC) (p : AaC→Bool) : ∀ (L : List Int),(∀ a ∈ L,0≤a∧a<A.length)→pC A p L=((List.range A.length).map fun (j : Nat)=>(if p (gA A j)=true then (1 : Int) else 0)*((L.count (j : Int) : Nat) : Int)).sum
 | [],_=>by
  rw [Ans]
  generalize List.range A.length=R
  induction R with
  | nil=>rfl
  | cons a R ih=>rw [List.map_cons,List.sum_cons,← ih]; simp
 | a::L,h=>by
  have ih:=AsU A p L fun x hx=>h x (List.mem_cons_of_mem _ hx)
  have ha:=h a List.mem_cons_self
  rw [Akl,ih]
  have o:=AhT (Ae5 A.length) a (if p (gA A a)=true then (1 : Int) else 0)
  rw [if_pos (Ad3.2 ha)] at o
  unfold AgJ at o
  rw [List.map_map] at o
  rw [← o]
  generalize List.range A.length=R
  induction R with
  | nil=>rfl
  | cons j R ih2 =>
   simp only [List.map_cons,List.sum_cons,Function.comp_apply] at ih2 ⊢
   rw [← ih2,List.count_cons]
   by_cases z : (j : Int)=a
   ·subst z; simp only [beq_self_eq_true,if_true,if_pos]
    split <;> omega
   ·have z' : (a==(j : Int))=false:=by
     rw [beq_eq_false_iff_ne]; exact fun e=>z e.symm
    simp only [z',Bool.false_eq_true,if_false,if_neg z,Nat.add_zero]; omega
theorem AsR : ∀ (A : List AaC) (f : List Int) (w : Mf.Arc→Int),f.length=A.length→Mf.sm (ar A) f w=((List.range A.length).map fun (j : Nat)=>w ⟨(gA A j).From,(gA A j).To,(gA A j).Cap⟩*f.getD j 0).sum
 | [],f,w,_=>by simp [ar,Mf.sm_nil]
 | a::A,[],w,h=>by cases h
 | a::A,x::f,w,h=>by
  have e : ar (a::A)=⟨a.From,a.To,a.Cap⟩::ar A:=by simp [ar]
  have ih:=AsR A f w (by simpa using h)
  rw [e,Mf.sm_cons,ih,List.length_cons,List.range_succ_eq_map,List.map_cons,List.sum_cons,List.map_map]
  rfl
theorem AvG {A : List AaC} {f L : List Int} (p : AaC→Bool) (w : Mf.Arc→Int) (hw : ∀ a : AaC,w ⟨a.From,a.To,a.Cap⟩=if p a=true then 1 else 0) (hL : ∀ a ∈ L,0≤a∧a<A.length) (hf : f.length=A.length) (hu : ∀ j : Nat,j<A.length→((L.count (j : Int) : Nat) : Int)≤f.getD j 0) : pC A p L≤Mf.sm (ar A) f w:=by
 rw [AsU A p L hL,AsR A f w hf]
 refine As1 fun j hj=>?_
 have:=hu j (List.mem_range.1 hj)
 rw [hw]
 split <;> omega
def toK (x : Int) (a : AaC) : Bool:=decide (a.To=2+2*x)
def Ami (x : Int) (a : AaC) : Bool:=decide (a.To=1∧a.From=2+2*x)
def toE (a : AaC) : Bool:=decide (a.To=1)
section
variable {N : Nat} {E : List AaB} {g s t : List Int} {lv : Int} {ks : List Int}
theorem AtP (hE : inE N E) (hs : ∀ x ∈ s,0≤x∧x<N) (hk : ∀ x ∈ ks,0≤x∧x<N) : ∀ a ∈ AeS N E g s t lv ks,
 (∃ x,a=arS (cF N E g s t lv) x∧0≤x∧x<N∧x ∈ s)∨(∃ x,a=arI (cF N E g s t lv) x∧0≤x∧x<N)∨(∃ x,a=arT x∧0≤x∧x<N)∨(∃ e,a=arE e∧e ∈ E.filter (lvE lv)∧0≤e.From∧e.From<N∧0≤e.To∧e.To<N):=by
 intro a ha
 unfold AeS AnT at ha
 simp only [List.mem_append,List.mem_map] at ha
 rcases ha with ((⟨x,h,rfl⟩ | ⟨x,h,rfl⟩) | ⟨x,h,rfl⟩) | ⟨e,h,rfl⟩
 ·have h:=(List.mem_filter.1 h).1; exact .inl ⟨x,rfl,(hs x h).1,(hs x h).2,h⟩
 ·have h:=Ad3.1 (List.mem_filter.1 h).1; exact .inr (.inl ⟨x,rfl,h.1,h.2⟩)
 ·have h:=hk x (List.mem_filter.1 h).1; exact .inr (.inr (.inl ⟨x,rfl,h.1,h.2⟩))
 ·have h:=(List.mem_filter.1 h).1; have q:=hE e (List.mem_filter.1 h).1; exact .inr (.inr (.inr ⟨e,rfl,h,q.1,q.2.1,q.2.2.1,q.2.2.2⟩))
theorem Atn (hE : inE N E) (hs : ∀ x ∈ s,0≤x∧x<N) (ha : ks.Pairwise (· < ·)) (k : Int) : AhP (AeS N E g s t lv ks) (fun a=>Mf.b2 (a.To=1∧a.From=2+2*k))≤if k ∈ ks then 1 else 0:=by
 have e1 : AhP ((s.filter (Aem N E g s lv)).map (arS (cF N E g s t lv))) (fun a=>Mf.b2 (a.To=1∧a.From=2+2*k))=0:=Ads fun a ha=>by
  obtain ⟨x,hx,rfl⟩:=List.mem_map.1 ha
  exact Aqv (by simp only [arS]; omega)
 have e4 : AhP (((E.filter (lvE lv)).filter fun e=>Aem N E g s lv e.From).map arE) (fun a=>Mf.b2 (a.To=1∧a.From=2+2*k))=0:=Ads fun a ha=>by
  obtain ⟨x,hx,rfl⟩:=List.mem_map.1 ha
  exact Aqv (by simp only [arE]; omega)
 have e2 : AhP (((AgJ N).filter (Aem N E g s lv)).map (arI (cF N E g s t lv))) (fun a=>Mf.b2 (a.To=1∧a.From=2+2*k))=0:=Ads fun a ha=>by
  obtain ⟨x,hx,rfl⟩:=List.mem_map.1 ha
  have:=Ad3.1 (List.mem_filter.1 hx).1
  exact Aqv (by simp only [arI]; omega)
 have e3 : AhP ((ks.filter (Aem N E g s lv)).map arT) (fun a=>Mf.b2 (a.To=1∧a.From=2+2*k))=if k ∈ ks.filter (Aem N E g s lv) then 1 else 0:=by
  rw [← AhT ((Aft ha).sublist List.filter_sublist)]
  unfold AhP
  rw [List.map_map]
  congr 1
  refine List.map_congr_left fun x _=>?_
  show Mf.b2 ((arT x).To=1∧(arT x).From=2+2*k)*(arT x).Cap=_
  by_cases z : x=k
  ·subst z; rw [Awx (show (arT x).To=1∧(arT x).From=2+2*x from ⟨rfl,rfl⟩),if_pos rfl,Int.one_mul]; rfl
  ·rw [Aqv (by simp only [arT]; omega),if_neg z,Int.zero_mul]
 unfold AeS AnT
 rw [Ad6,Ad6,Ad6,e1,e2,e3,e4]
 by_cases r : k ∈ ks
 ·rw [if_pos r]; split <;> omega
 ·rw [if_neg r,if_neg (fun z=>r (List.mem_filter.1 z).1)]; omega
theorem AxL (hE : inE N E) (pv : PV N s t lv) (hk : ∀ x ∈ ks,0≤x∧x<N) (ha : ks.Pairwise (· < ·)) {f : List Int} (fl : Mf.Flow (2+2*N) (ar (AeS N E g s t lv ks)) f) {L : List Int} (hL : ∀ a ∈ L,0≤a∧a<(AeS N E g s t lv ks).length) (hu : ∀ j : Nat,j<(AeS N E g s t lv ks).length→((L.count (j : Int) : Nat) : Int)≤f.getD j 0) (x : Int) (x0 : 0≤x) :
 pC (AeS N E g s t lv ks) (toK x) L≤cF N E g s t lv x:=by
 have lf:=fl.len
 rw [Ab6] at lf
 have fb:=FB.of fl
 have a:=AoW fl (2+2*x) (by omega) (by omega)
 have b:=Ags (A:=AeS N E g s t lv ks) (f:=f) (w:=fun a=>Mf.b2 (a.fr=2+2*x)) (fun _ _=>by unfold Mf.b2; split <;> omega) lf fb.hi
 have c:=AtH (g:=g) (lv:=lv) hE pv.sr hk ha (fun y hy=>(pv.tr y hy).1) (fun x=>(Aik (fun y hy=>by have:=pv.tr y hy; omega) _).1) x x0
 have d:=AvG (toK x) (fun a=>Mf.b2 (a.to=2+2*x)) (fun a=>by unfold toK Mf.b2; simp) hL lf hu
 rw [a] at d
 exact Int.le_trans d (Int.le_trans b c)
theorem Avn (hE : inE N E) (hs : ∀ x ∈ s,0≤x∧x<N) (ha : ks.Pairwise (· < ·)) {f : List Int} (fl : Mf.Flow (2+2*N) (ar (AeS N E g s t lv ks)) f) {L : List Int} (hL : ∀ a ∈ L,0≤a∧a<(AeS N E g s t lv ks).length) (hu : ∀ j : Nat,j<(AeS N E g s t lv ks).length→((L.count (j : Int) : Nat) : Int)≤f.getD j 0) (x : Int) :
 pC (AeS N E g s t lv ks) (Ami x) L≤if x ∈ ks then 1 else 0:=by
 have lf:=fl.len
 rw [Ab6] at lf
 have fb:=FB.of fl
 have b:=Ags (A:=AeS N E g s t lv ks) (f:=f) (w:=fun a=>Mf.b2 (a.to=1∧a.fr=2+2*x)) (fun _ _=>by unfold Mf.b2; split <;> omega) lf fb.hi
 have d:=AvG (Ami x) (fun a=>Mf.b2 (a.to=1∧a.fr=2+2*x)) (fun a=>by unfold Ami Mf.b2; simp) hL lf hu
 exact Int.le_trans d (Int.le_trans b (Atn hE hs ha x))
theorem AqO {A : List AaC} (hA : ∀ a ∈ A,a.To=1→∃ y : Int,a.From=2+2*y∧0≤y∧y<N) : ∀ (L : List Int),(∀ a ∈ L,0≤a∧a<A.length)→((AgJ N).map fun x=>pC A (Ami x) L).sum=pC A toE L
 | [],_=>by
  simp only [Ans]
  generalize AgJ N=R
  induction R with
  | nil=>rfl
  | cons a R ih=>rw [List.map_cons,List.sum_cons,ih]; rfl
 | a::L,h=>by
  have ih:=AqO hA L fun x hx=>h x (List.mem_cons_of_mem _ hx)
  obtain ⟨q,hq⟩:=Int.eq_ofNat_of_zero_le (h a List.mem_cons_self).1
  have hq' : q<A.length:=by have:=(h a List.mem_cons_self).2; omega
  have ea : gA A a=A[q]:=by rw [hq]; exact AgT hq'
  simp only [Akl,ea]
  have key : ((AgJ N).map fun x=>if Ami x A[q]=true then (1 : Int) else 0).sum=if toE A[q]=true then 1 else 0:=by
   have m:=hA A[q] (List.getElem_mem hq')
   generalize A[q]=b at m
   by_cases z : b.To=1
   ·obtain ⟨y,y1,y2,y3⟩:=m z
    have o:=AhT (Ae5 N) y 1
    rw [if_pos (Ad3.2 ⟨y2,y3⟩)] at o
    rw [if_pos (by unfold toE; simpa using z)]
    refine Eq.trans ?_ o
    congr 1
    refine List.map_congr_left fun x _=>?_
    unfold Ami
    by_cases w : x=y
    ·rw [if_pos w,if_pos (by simp; omega)]
    ·rw [if_neg w,if_neg (by simp; omega)]
   ·rw [if_neg (by unfold toE; simpa using z)]
    generalize AgJ N=R
    induction R with
    | nil=>rfl
    | cons x R ih=>rw [List.map_cons,List.sum_cons,ih,if_neg (by unfold Ami; simp; omega)]; rfl
  rw [← ih,← key]
  generalize AgJ N=R
  induction R with
  | nil=>rfl
  | cons x R ih=>simp only [List.map_cons,List.sum_cons]; rw [ih]; omega
theorem Asx {A : List AaC} {W : List Int} (hw : Wy A W 1) : pC A toE W=1:=by
 have h0 : W≠[]:=by
  rintro rfl
  have:=hw.last
  simp [nds] at this
 have hm : (1 : Int) ∈ W.map fun a=>(gA A a).To:=by
  have h1:=hw.last
  have : (nds A W).getD W.length 0 ∈ nds A W:=Ars (by rw [Aen]; omega)
  rw [h1] at this
  unfold nds at this
  rcases List.mem_cons.1 this with z | z
  ·omega
  ·exact z
 have nd:=hw.nd
 unfold nds at nd
 rw [List.nodup_cons] at nd
 have c:=nd.2.count (a:=(1 : Int))
 rw [if_pos hm,List.count_eq_countP,List.countP_map] at c
 unfold pC toE
 have e : (W.countP fun a=>decide ((gA A a).To=1))=W.countP ((fun x=>x==(1 : Int)) ∘ fun a=>(gA A a).To):=by
  congr 1
 rw [e,c]; rfl
theorem Ana {A : List AaC} : ∀ {out : List (List Int)},(∀ W ∈ out,Wy A W 1)→pC A toE out.flatten=out.length
 | [],_=>rfl
 | W::out,h=>by
  rw [List.flatten_cons,AsV,Asx (h W List.mem_cons_self),Ana fun V hV=>h V (List.mem_cons_of_mem _ hV),List.length_cons]; omega
end
theorem Alb (k : Nat) (E : List AaB) (x : Int) (h9 : E.length≤1000000) : ∀ (m i n : Nat) (acc : List Int),i+m=E.length→m<n→acc.length≤i→Abu.L1 k E x n (i : Int) acc=some (acc++outs (E.drop i) x)
 | 0,i,n+1,acc,e,_,_=>by rw [Abu.L1,if_neg (by omega),List.drop_of_length_le (by omega)]; simp [outs]
 | m+1,i,n+1,acc,e,hn,la=>by
  have hi : i<E.length:=by omega
  have ih:=fun acc=>Alb k E x h9 m (i+1) n acc (by omega) (by omega)
  rw [Abu.L1,if_pos (by omega),Aae hi,List.drop_eq_getElem_cons hi]
  unfold Abu.J2
  simp only [Acv i (by omega)]
  by_cases q : E[i].From=x
  ·rw [if_pos q,AaT (by simp only [List.length_cons,List.length_nil]; omega),ih _ (by simp; omega)]
   unfold outs
   rw [List.filter_cons,if_pos (by simpa using q),List.map_cons,List.append_assoc]; rfl
  ·rw [if_neg q,ih _ (by omega)]
   unfold outs
   rw [List.filter_cons,if_neg (by simpa using q)]
theorem Au1 (k j : Nat) (hj : j≤1000000) (N : Nat) (F : Int→Int) (G : List Int) (b : AaC) (x : Int) (hb : b.To=2+2*x) (hx : 0≤x∧x<N) (hN : N≤64) (hF : 0≤F x∧F x≤1000000000000) (kb : Int→Int→List Int→List Int→Option Bool) :
 AaG.J5 k (j : Int) (tab N F) G b kb=kb x ((j+1 : Nat) : Int) (tab N fun v=>if v=x then F x+1 else F v) G:=by
 unfold AaG.J5 AaG.J4
 rw [hb,AtZ (by omega),AaT (by rw [AfB]; omega),AdH hx.1 hx.2,AaT (by rw [AfB]; omega),w64 (n:=F x+1) (by omega) (by omega),AkP hx.1,Acv j (by omega)]
theorem tm0 {x : Int} (h : 0≤x∧x≤1001) : ¬ (Int.tmod (IntKind.wrap .i64 (2+2*x-2)) 2=1):=by
 rw [w64 (n:=2+2*x-2) (by omega) (by omega),Int.tmod_eq_emod_of_nonneg (by omega)]; omega
theorem tm1 {x : Int} (h : 0≤x∧x≤1001) : Int.tmod (IntKind.wrap .i64 (3+2*x-2)) 2=1:=by
 rw [w64 (n:=3+2*x-2) (by omega) (by omega),Int.tmod_eq_emod_of_nonneg (by omega)]; omega
def Amg (N : Nat) (v l : Int) : Prop:=(v=0∧l = -1)∨(0≤l∧l<N∧(v=2+2*l∨v=3+2*l))∨v=1
theorem Arg {A : List AaC} {W : List Int} {j : Nat} (hj : j<W.length) : (nds A W).getD (j+1) 0=(gA A W[j]).To:=by
 unfold nds
 rw [List.getD_cons_succ,List.getD_eq_getElem?_getD,List.getElem?_eq_getElem (by simpa using hj),Option.getD_some,List.getElem_map]
theorem Auy (k N : Nat) (hN : N≤64) (hk : 900<k) (E : List AaB) (g s : List Int) (lv : Int) (c : Int→Int) (hE9 : E.length≤500) (hg9 : g.length≤64) (hs9 : s.length≤200) (A : List AaC)
 (gd : ∀ a ∈ A,(∃ x,a=arS c x∧0≤x∧x<N∧x ∈ s)∨(∃ x,a=arI c x∧0≤x∧x<N)∨(∃ x,a=arT x∧0≤x∧x<N)∨(∃ e,a=arE e∧e ∈ E.filter (lvE lv)∧0≤e.From∧e.From<N∧0≤e.To∧e.To<N))
 (out : List (List Int)) (i : Nat) (hi : i<out.length) (hi9 : out.length≤1000000) (hw : Wy A out[i] 1) (hw9 : out[i].length≤900) (kb : Int→List Int→List Int→Option Bool) : ∀ (m j n : Nat) (l : Int) (F G : Int→Int),j+m=out[i].length→m<n→Amg N ((nds A out[i]).getD j 0) l→(∀ x,0≤F x∧F x+m≤1000000000000)→(∀ x,0≤G x∧G x+m≤1000000000000) →
 AaG.L3 k (N : Int) E g s lv A out (i : Int) kb n l (j : Int) (tab N F) (tab N G)=kb ((i+1 : Nat) : Int) (tab N fun x=>F x+pC A (toK x) (out[i].drop j)) (tab N fun x=>G x+pC A (Ami x) (out[i].drop j))
 | 0,j,n+1,l,F,G,e,_,_,_,_=>by
  rw [AaG.L3,Aae hi,if_neg (by omega),List.drop_of_length_le (by omega),Acv i (by omega)]
  simp only [Ans,Int.add_zero]
 | m+1,j,n+1,l,F,G,e,hn,lo,hF,hG=>by
  have hj : j<out[i].length:=by omega
  have rg:=hw.rng _ (List.getElem_mem hj)
  have fr:=hw.fr j hj
  rw [List.getD_eq_getElem?_getD,List.getElem?_eq_getElem hj,Option.getD_some] at fr
  have nx:=Arg (A:=A) hj
  have ih:=fun l F G=>Auy k N hN hk E g s lv c hE9 hg9 hs9 A gd out i hi hi9 hw hw9 kb m (j+1) n l F G (by omega) (by omega)
  rw [nx] at ih
  have hon : ∀ x,pC A (toK x) (out[i].drop j)=(if (gA A out[i][j]).To=2+2*x then 1 else 0)+pC A (toK x) (out[i].drop (j+1)):=fun x=>by
   rw [List.drop_eq_getElem_cons hj,Akl]; unfold toK; simp only [decide_eq_true_eq]
  have hen : ∀ x,pC A (Ami x) (out[i].drop j)=(if (gA A out[i][j]).To=1∧(gA A out[i][j]).From=2+2*x then 1 else 0)+pC A (Ami x) (out[i].drop (j+1)):=fun x=>by
   rw [List.drop_eq_getElem_cons hj,Akl]; unfold Ami; simp only [decide_eq_true_eq]
  simp only [hon,hen]
  rw [AaG.L3,Aae hi,if_pos (by omega),Aae hj]
  generalize out[i][j]=a at *
  obtain ⟨q,rfl⟩:=Int.eq_ofNat_of_zero_le rg.1
  have hq : q<A.length:=by omega
  rw [AgT hq] at *
  rw [Aae hq]
  have memb:=gd A[q] (List.getElem_mem hq)
  generalize A[q]=b at *
  generalize (nds A out[i]).getD j 0=v at *
  rcases memb with ⟨x,eb,x0,x1,xs⟩ | ⟨x,eb,x0,x1⟩ | ⟨x,eb,x0,x1⟩ | ⟨d,eb,de,d0,d1,d2,d3⟩
  ·have bF : b.From=0:=by rw [eb]; rfl
   have bT : b.To=2+2*x:=by rw [eb]; rfl
   rw [bF] at fr
   rw [bT] at ih
   rw [bF,bT]
   have hl : l = -1:=by unfold Amg at lo; omega
   subst hl
   rw [if_neg (show ¬ (2+2*x=1) by omega),if_neg (tm0 (x:=x) (by omega)),if_pos (show (-1 : Int)<0 by omega),AtZ (by omega),Aha k s x (by omega) (by omega),AaJ,decide_eq_true xs,if_neg (by simp),if_neg (show ¬ (0 : Int) ≤ -1 by omega),Au1 k j (by omega) N F (tab N G) b x bT ⟨x0,x1⟩ hN (by have:=hF x; omega)]
   refine Eq.trans (ih x _ G (.inr (.inl ⟨x0,x1,.inl rfl⟩)) (fun y=>by have:=hF y; have:=hF x; split <;> omega) (fun y=>by have:=hG y; omega)) ?_
   congr 1
   ·refine Abq fun y _ _=>?_
    by_cases z : y=x
    ·subst z; rw [if_pos rfl,if_pos rfl]; omega
    ·rw [if_neg z,if_neg (by omega)]; omega
   ·refine Abq fun y _ _=>?_
    rw [if_neg (by omega)]; omega
  ·have bF : b.From=2+2*x:=by rw [eb]; rfl
   have bT : b.To=3+2*x:=by rw [eb]; rfl
   rw [bF] at fr
   rw [bT] at ih
   rw [bF,bT]
   have hl : l=x:=by unfold Amg at lo; omega
   subst hl
   rw [if_neg (show ¬ (3+2*l=1) by omega),if_pos (tm1 (x:=l) (by omega))]
   unfold AaG.J4
   simp only [Acv j (by omega)]
   refine Eq.trans (ih l F G (.inr (.inl ⟨x0,x1,.inr rfl⟩)) (fun y=>by have:=hF y; omega) (fun y=>by have:=hG y; omega)) ?_
   congr 1
   ·refine Abq fun y _ _=>?_
    rw [if_neg (by omega)]; omega
   ·refine Abq fun y _ _=>?_
    rw [if_neg (by omega)]; omega
  ·have bF : b.From=2+2*x:=by rw [eb]; rfl
   have bT : b.To=1:=by rw [eb]; rfl
   rw [bF] at fr
   rw [bT] at ih
   rw [bF,bT]
   have hl : l=x:=by unfold Amg at lo; omega
   subst hl
   rw [if_pos rfl,AaT (by rw [AfB]; omega),AdH x0 x1,AaT (by rw [AfB]; omega),w64 (n:=G l+1) (by have:=hG l; omega) (by have:=hG l; omega),AkP x0]
   unfold AaG.J4
   simp only [Acv j (by omega)]
   refine Eq.trans (ih l F _ (.inr (.inr rfl)) (fun y=>by have:=hF y; omega) (fun y=>by have:=hG y; have:=hG l; split <;> omega)) ?_
   congr 1
   ·refine Abq fun y _ _=>?_
    rw [if_neg (by omega)]; omega
   ·refine Abq fun y _ _=>?_
    by_cases z : y=l
    ·subst z; rw [if_pos rfl,if_pos (by simp)]; omega
    ·rw [if_neg z,if_neg (by omega)]; omega
  ·have bF : b.From=3+2*d.From:=by rw [eb]; rfl
   have bT : b.To=2+2*d.To:=by rw [eb]; rfl
   rw [bF] at fr
   rw [bT] at ih
   rw [bF,bT]
   have hl : l=d.From:=by unfold Amg at lo; omega
   subst hl
   have hf : (E.filter (lvE lv)).length≤500:=Nat.le_trans (List.length_filter_le _ _) hE9
   have o:=Alb k (E.filter (lvE lv)) d.From (by omega) (E.filter (lvE lv)).length 0 k [] (by omega) (by omega) (by simp)
   rw [List.drop_zero,List.nil_append] at o
   have mo : d.To ∈ outs (E.filter (lvE lv)) d.From:=by
    unfold outs
    exact List.mem_map.2 ⟨d,List.mem_filter.2 ⟨de,by simp⟩,rfl⟩
   have lo : (outs (E.filter (lvE lv)) d.From).length≤500:=by
    unfold outs; rw [List.length_map]; exact Nat.le_trans (List.length_filter_le _ _) hf
   rw [if_neg (show ¬ (2+2*d.To=1) by omega),if_neg (tm0 (x:=d.To) (by omega)),if_neg (show ¬ d.From<0 by omega),if_pos d0,ApZ k (N : Int) E g lv (by omega) (by omega) (by omega),AdN,AtZ (by omega)]
   unfold Abu
   rw [show (0 : Int)=((0 : Nat) : Int) from rfl,o,AaJ,Aha k _ _ (by omega) (by omega),AaJ,decide_eq_true mo,if_neg (by simp),Au1 k j (by omega) N F (tab N G) b d.To bT ⟨d2,d3⟩ hN (by have:=hF d.To; omega)]
   refine Eq.trans (ih d.To _ G (.inr (.inl ⟨d2,d3,.inl rfl⟩)) (fun y=>by have:=hF y; have:=hF d.To; split <;> omega) (fun y=>by have:=hG y; omega)) ?_
   congr 1
   ·refine Abq fun y _ _=>?_
    by_cases z : y=d.To
    ·subst z; rw [if_pos rfl,if_pos rfl]; omega
    ·rw [if_neg z,if_neg (by omega)]; omega
   ·refine Abq fun y _ _=>?_
    rw [if_neg (by omega)]; omega
theorem Auz (k N : Nat) (hN : N≤64) (hk : 900<k) (E : List AaB) (g s : List Int) (lv : Int) (c : Int→Int) (hE9 : E.length≤500) (hg9 : g.length≤64) (hs9 : s.length≤200) (A : List AaC)
 (gd : ∀ a ∈ A,(∃ x,a=arS c x∧0≤x∧x<N∧x ∈ s)∨(∃ x,a=arI c x∧0≤x∧x<N)∨(∃ x,a=arT x∧0≤x∧x<N)∨(∃ e,a=arE e∧e ∈ E.filter (lvE lv)∧0≤e.From∧e.From<N∧0≤e.To∧e.To<N))
 (out : List (List Int)) (hi9 : out.length≤1000000) (hw : ∀ W ∈ out,Wy A W 1) (hw9 : ∀ W ∈ out,W.length≤900) (ks cl : List Int) : ∀ (m i n : Nat) (F G : Int→Int),i+m=out.length→m<n→(∀ x,0≤F x∧F x+900*m≤1000000000000)→(∀ x,0≤G x∧G x+900*m≤1000000000000) →
 AaG.L2 k (N : Int) E g s lv ks A out cl n (i : Int) (tab N F) (tab N G)=AaG.L6 k (N : Int) ks cl (tab N fun x=>F x+pC A (toK x) (out.drop i).flatten) (tab N fun x=>G x+pC A (Ami x) (out.drop i).flatten) k 0
 | 0,i,n+1,F,G,e,_,_,_=>by
  rw [AaG.L2,if_neg (by omega),List.drop_of_length_le (by omega),List.flatten_nil]
  simp only [Ans,Int.add_zero]
 | m+1,i,n+1,F,G,e,hn,hF,hG=>by
  have hi : i<out.length:=by omega
  have wl:=hw9 _ (List.getElem_mem hi)
  have l3:=Auy k N hN hk E g s lv c hE9 hg9 hs9 A gd out i hi hi9 (hw _ (List.getElem_mem hi)) wl (fun v29_ v30_ v31_=>AaG.L2 k (N : Int) E g s lv ks A out cl n v29_ v30_ v31_) out[i].length 0 k (-1) F G (by omega) (by omega) (.inl ⟨rfl,rfl⟩) (fun x=>by have:=hF x; omega) (fun x=>by have:=hG x; omega)
  rw [List.drop_zero] at l3
  have ih:=Auz k N hN hk E g s lv c hE9 hg9 hs9 A gd out hi9 hw hw9 ks cl m (i+1) n (fun x=>F x+pC A (toK x) out[i]) (fun x=>G x+pC A (Ami x) out[i]) (by omega) (by omega) (fun x=>by have:=hF x; have:=AvF A (toK x) out[i]; omega) (fun x=>by have:=hG x; have:=AvF A (Ami x) out[i]; omega)
  rw [AaG.L2,if_pos (by omega)]
  refine Eq.trans l3 (Eq.trans ih ?_)
  rw [List.drop_eq_getElem_cons hi,List.flatten_cons]
  simp only [AsV,Int.add_assoc]
theorem Aux (k N : Nat) (hN : N≤64) (ks : List Int) (hks : ks.length<k) (hks9 : ks.length≤1000000) (c F G : Int→Int) (hF : ∀ x : Int,0≤x→x<N→F x≤c x) (hG : ∀ x : Int,0≤x→x<N→G x=if x ∈ ks then 1 else 0) : ∀ (m x n : Nat),x+m=N→m<n→AaG.L6 k (N : Int) ks (tab N c) (tab N F) (tab N G) n (x : Int)=some true
 | 0,x,n+1,e,_=>by rw [AaG.L6,if_neg (by omega)]; rfl
 | m+1,x,n+1,e,hn=>by
  have ih:=Aux k N hN ks hks hks9 c F G hF hG m (x+1) n (by omega) (by omega)
  have f:=hF x (by omega) (by omega)
  have gg:=hG x (by omega) (by omega)
  have fin : AaG.J7 k (N : Int) (tab N c) (tab N F) (tab N G) (x : Int) (fun v50_=>AaG.L6 k (N : Int) ks (tab N c) (tab N F) (tab N G) n v50_) (G x)=some true:=by
   unfold AaG.J7
   rw [AdH (by omega) (by omega),if_neg (by simp),AfB,if_neg (by simp),AdH (by omega) (by omega),AdH (by omega) (by omega),if_neg (show ¬ (c (x : Int)<F (x : Int)) by omega),Acv x (by omega)]
   exact ih
  rw [AaG.L6,if_pos (by omega),Aha k ks x hks hks9,AaJ]
  rw [gg] at fin
  by_cases z : (x : Int) ∈ ks
  ·rw [if_pos (by simpa using z)]; rwa [if_pos z] at fin
  ·rw [if_neg (by simpa using z)]; rwa [if_neg z] at fin
theorem Auw (N : Nat) (E : List AaB) (g s t : List Int) (lv : Int) (G : GV N E g) (hN : N≤9) (pv : PV N s t lv) (ks f : List Int) (ka : ks.Pairwise (· < ·)) (kr : ∀ x ∈ ks,0≤x∧x<N) (kl : ks.length≤20) (d : AnW (2+2*N) (AeS N E g s t lv ks) f) (hv : Mf.val (ar (AeS N E g s t lv ks)) f=ks.length) (n : Nat) (acc : List Int) (i : Nat) (hi : acc.length≤i) :
 AaG.L1 1000000000 (N : Int) E g s t lv acc f 0 (n+1) ks (i : Int)=some true:=by
 have h1:=G.len; have h2:=G.glen; have h4:=pv.sl; have h5:=pv.t9; have h6:=G.pos
 have nv:=Akp (g:=g) (lv:=lv) G pv kr kl
 have hl:=Aio N E g s t lv ks
 have net:=Apf N E g s t lv ks G.gw (by omega) (by omega) pv.pol
 rw [if_pos ((Af1 _ _).2 ⟨kr,ka⟩)] at net
 obtain ⟨out,o1,pw⟩:=AqK 1000000000 (2+2*N) _ f nv d.fl (by omega) (by omega) (by omega)
 have ol : out.length=ks.length:=by have:=pw.len; omega
 have ok:=ApY 1000000000 (2+2*N) _ nv f d.fl (by omega) out pw (by omega) (by omega)
 rw [show ((2+2*N : Nat) : Int)=2+2*(N : Int) by omega] at o1 ok
 have hL : ∀ a ∈ out.flatten,0≤a∧a<(AeS N E g s t lv ks).length:=fun a ha=>by
  obtain ⟨W,hW,ha⟩:=List.mem_flatten.1 ha
  exact (pw.wy W hW).rng a ha
 have gd:=AtP (g:=g) (t:=t) (lv:=lv) G.inE pv.sr kr
 have sums:=As2 (L:=AgJ N) (f:=fun x=>pC (AeS N E g s t lv ks) (Ami x) out.flatten) (g:=fun x=>if x ∈ ks then 1 else 0) (fun x _=>Avn G.inE pv.sr ka d.fl hL pw.use x) (by
  rw [AsO N (Aft ka) kr,AqO (N:=N) (fun a ha ht=>by
   rcases gd a ha with ⟨x,rfl,p⟩ | ⟨x,rfl,p⟩ | ⟨x,rfl,p⟩ | ⟨e,rfl,p⟩
   ·simp only [arS] at ht; omega
   ·simp only [arI] at ht; omega
   ·exact ⟨x,rfl,p.1,p.2⟩
   ·simp only [arE] at ht; omega) _ hL,Ana pw.wy]
  omega)
 have l2:=Auz 1000000000 N (by omega) (by omega) E g s lv _ (by omega) (by omega) (by omega) _ gd out (by omega) pw.wy (fun W hW=>by have:=(pw.wy W hW).len nv; omega) ks (AyT N E g s t lv) out.length 0 1000000000 (fun _=>0) (fun _=>0) (by omega) (by omega) (fun x=>by omega) (fun x=>by omega)
 rw [List.drop_zero] at l2
 have l6:=Aux 1000000000 N (by omega) ks (by omega) (by omega) (cF N E g s t lv) (fun x=>0+pC (AeS N E g s t lv ks) (toK x) out.flatten) (fun x=>0+pC (AeS N E g s t lv ks) (Ami x) out.flatten) (fun x x0 _=>by have:=AxL G.inE pv kr ka d.fl hL pw.use x x0; omega) (fun x x0 x1=>by have:=sums x (Ad3.2 ⟨x0,x1⟩); omega) N 0 1000000000 (by omega) (by omega)
 have rep : List.replicate ((N : Int)).toNat (0 : Int)=tab N fun _=>0:=by
  rw [show ((N : Int)).toNat=N by omega]
  unfold tab
  rw [List.map_const',List.length_range]
 rw [AaG.L1,if_neg (by omega),net,AdN,o1,Aa7,if_neg (by simp),if_neg (by simp),if_neg (by simp),if_neg (by rw [ol]; simp),ok,AaJ,if_neg (by simp),AvH N E g s t lv G.gw (by omega) (by omega) pv.sr,AaJ,AaT (by omega),AaT (by omega),rep]
 exact Eq.trans l2 l6
theorem Au0 (N : Nat) (E : List AaB) (g s t : List Int) (lv : Int) (G : GV N E g) (hN : N≤9) (pv : PV N s t lv) (acc f : List Int) (an : acc.Nodup) (hr : ∀ x ∈ acc,0≤x∧x<N) (al : acc.length≤12) (d : AnW (2+2*N) (AeS N E g s t lv (srt acc)) f) (hv : Mf.val (ar (AeS N E g s t lv (srt acc))) f=acc.length) : ∀ (m i n : Nat) (S : List Int),i+m=acc.length→m<n→S.Pairwise (· < ·)→(∀ y,y ∈ S↔y ∈ acc.take i)→S.length≤i →
 AaG.L1 1000000000 (N : Int) E g s t lv acc f 0 n S (i : Int)=some true
 | 0,i,n+1,S,e,_,sa,sm,_=>by
  have : S=srt acc:=Av5 sa (ApL an) fun y=>by rw [sm y,List.take_of_length_le (by omega),(Ac2 acc).mem_iff]
  subst this
  have ln:=(Ac2 acc).length_eq
  exact Auw N E g s t lv G hN pv (srt acc) f sa (fun x hx=>hr x ((Ac2 acc).mem_iff.1 hx)) (by omega) d (by rw [hv,ln]) n acc i (by omega)
 | m+1,i,n+1,S,e,hn,sa,sm,sl=>by
  have hi : i<acc.length:=by omega
  obtain ⟨S',p1,p2,p3,p4⟩:=Ast 1000000000 S acc[i] (by omega) (by omega) sa
  have ih:=Au0 N E g s t lv G hN pv acc f an hr al d hv m (i+1) n S' (by omega) (by omega) p2 (fun y=>by
   rw [p3 y,sm y,List.take_succ_eq_append_getElem hi,List.mem_append,List.mem_singleton]) (by omega)
  rw [AaG.L1,if_pos (by omega),Aae hi,p1,AaJ,Acv i (by omega)]
  exact ih
theorem AjH (v0 : List Int) (h0 : Fit (.lst false false (v0.map (.int .i64)))) : ∃ k,AaG k v0=some true:=by
 refine ⟨1000000000,?_⟩
 unfold AaG
 rw [AsK,AaJ]
 by_cases h : (v0.length : Int)≤400
 ·rw [if_neg (by simpa using h),AuG,Aa7]
  obtain ⟨N,E,g,q,e,hq,n1,n2,ok⟩:=AsM v0 0 (by omega) ⟨by omega,by omega⟩
  have G : GV N E g:=⟨by omega,by omega,ok⟩
  obtain ⟨s,t,lv,q2,e2,hq2,pv⟩:=Aq7 v0 q N E g (by omega) hq (by omega) (by omega)
  obtain ⟨acc,f,R,r,an,hr,al,d,hv⟩:=AwD G pv
  rw [e,AhK,e2,AhK,r,AhK]
  exact Au0 N E g s t lv G n2 pv acc f an hr al d hv acc.length 0 1000000000 [] (by omega) (by omega) .nil (by simp) (by simp)
 ·rw [if_pos (by simpa using h)]; rfl
end Go.TF
