import Derived.Test.YthiodjlppahmkaaGreatExtLay26
set_option linter.unusedVariables false
set_option linter.unusedSimpArgs false
namespace Go.Abs
def AcD (es : Nat) (ids : List Nat) (css : List (List AV)) : List AV:=List.zipWith (fun i c=>AV.slc i 0 es c.length false) ids css
def Aed (ids : List Nat) (css : List (List AV)) : List (Nat×AaZ):=List.zipWith (fun i c=>(i,AaZ.grow (AaI c))) ids css
def Af6 (N m : Nat) : List Nat:=(List.range m).map (N + ·)
structure Fam (H : Aac) (ids : List Nat) (css : List (List AV)) : Prop where
 len : ids.length=css.length
 nd : ids.Nodup
 get : ∀ (j : Nat) (h1 : j<ids.length) (h2 : j<css.length),H ids[j]=some (.grow (AaI css[j]))
theorem AiG {ids : List Nat} {css : List (List AV)} {p : Nat×AaZ} (hp : p ∈ Aed ids css) : ∃ (j : Nat) (h1 : j<ids.length) (h2 : j<css.length),p=(ids[j],.grow (AaI css[j])):=by
 obtain ⟨j,hj,rfl⟩:=List.mem_iff_getElem.1 hp
 have hj':=hj
 unfold Aed at hj'
 rw [List.length_zipWith] at hj'
 exact ⟨j,by omega,by omega,by simp [Aed]⟩
theorem Fam.mem {H : Aac} {ids : List Nat} {css : List (List AV)} (h : Fam H ids css) : ∀ p ∈ Aed ids css,H p.1=some p.2:=by
 intro p hp
 obtain ⟨j,h1,h2,rfl⟩:=AiG hp
 exact h.get j h1 h2
theorem AoC : ∀ (ids : List Nat) (css : List (List AV)),ids.length=css.length→ids.Nodup→∀ (j : Nat) (h1 : j<ids.length) (h2 : j<css.length),(Aed ids css).find? (fun p=>p.1==ids[j])=some (ids[j],.grow (AaI css[j]))
 | [],_,_,_,j,h1,_=>by cases h1
 | i::ids,[],h,_,_,_,_=>by cases h
 | i::ids,c::css,h,hn,0,h1,h2=>by simp [Aed]
 | i::ids,c::css,h,hn,j+1,h1,h2=>by
  rw [List.nodup_cons] at hn
  have ih:=AoC ids css (by simpa using h) hn.2 j (by simpa using h1) (by simpa using h2)
  have hne : (i==ids[j]'(by simpa using h1))=false:=by
   rw [beq_eq_false_iff_ne]; intro e; exact hn.1 (e ▸ List.getElem_mem _)
  simp only [Aed,List.zipWith_cons_cons,List.getElem_cons_succ] at ih ⊢
  rw [List.find?_cons]; simp only [hne]; exact ih
theorem AdL {l : List (Nat×AaZ)} {ids : List Nat} {css : List (List AV)} (hl : ids.length=css.length) (hn : ids.Nodup) (hd : ∀ p ∈ l,p.1 ∉ ids) : Fam (mkH (l++Aed ids css)) ids css:=by
 refine ⟨hl,hn,fun j h1 h2=>?_⟩
 unfold mkH
 have : l.find? (fun p=>p.1==ids[j])=none:=by
  rw [List.find?_eq_none]; intro p hp e
  rw [beq_iff_eq] at e
  exact hd p hp (e ▸ List.getElem_mem h1)
 rw [List.find?_append,this,Option.none_or,AoC ids css hl hn j h1 h2]; rfl
theorem Fam.congr {H H' : Aac} {ids : List Nat} {css : List (List AV)} (h : Fam H ids css) (e : ∀ i ∈ ids,H' i=H i) : Fam H' ids css :=
 ⟨h.len,h.nd,fun j h1 h2=>by rw [e _ (List.getElem_mem h1)]; exact h.get j h1 h2⟩
theorem Fam.put {H H' : Aac} {ids : List Nat} {css : List (List AV)} (h : Fam H ids css) {x M : Nat} {c : List AV} (hM : M ∉ ids) (hx : H' M=some (.grow (AaI c))) (e : ∀ i ∈ ids,(∀ h1 : x<ids.length,i≠ids[x])→H' i=H i) : Fam H' (ids.set x M) (css.set x c):=by
 refine ⟨by simp [h.len],?_,fun j h1 h2=>?_⟩
 ·have:=h.nd
  clear hx e
  rw [List.nodup_iff_pairwise_ne,List.pairwise_iff_getElem] at this ⊢
  intro a b ha hb hab
  rw [List.getElem_set,List.getElem_set]
  have ha' : a<ids.length:=by simpa using ha
  have hb' : b<ids.length:=by simpa using hb
  by_cases e1 : x=a
  ·rw [if_pos e1,if_neg (by omega)]; intro q; exact hM (q ▸ List.getElem_mem hb')
  ·rw [if_neg e1]
   by_cases e2 : x=b
   ·rw [if_pos e2]; intro q; exact hM (q ▸ List.getElem_mem ha')
   ·rw [if_neg e2]; exact this a b ha' hb' hab
 ·have j1 : j<ids.length:=by simpa using h1
  have j2 : j<css.length:=by simpa using h2
  rw [List.getElem_set,List.getElem_set]
  by_cases e1 : x=j
  ·rw [if_pos e1,if_pos e1]; exact hx
  ·rw [if_neg e1,if_neg e1,e _ (List.getElem_mem j1) (fun hx' q=>e1 ?_)]
   ·exact h.get j j1 j2
   ·have:=h.nd
    rw [List.nodup_iff_pairwise_ne,List.pairwise_iff_getElem] at this
    rcases Nat.lt_trichotomy x j with z | z | z
    ·exact absurd q.symm (this x j hx' j1 z)
    ·exact z
    ·exact absurd q (this j x j1 hx' z)
theorem AhA {es : Nat} {ids : List Nat} {css : List (List AV)} (h : ids.length=css.length) : (AcD es ids css).length=css.length:=by simp [AcD,h]
theorem AiH {es : Nat} {ids : List Nat} {css : List (List AV)} {x : Nat} (h1 : x<ids.length) (h2 : x<css.length) : (AcD es ids css)[x]? = some (.slc ids[x] 0 es css[x].length false):=by
 rw [List.getElem?_eq_getElem (by simp [AcD]; omega)]; simp [AcD]
theorem Aee {es : Nat} {ids : List Nat} {css : List (List AV)} {x M : Nat} {c : List AV} : AcD es (ids.set x M) (css.set x c)=(AcD es ids css).set x (.slc M 0 es c.length false):=by
 induction ids generalizing css x with
 | nil=>cases css <;> cases x <;> rfl
 | cons i ids ih =>
  cases css with
  | nil=>cases x <;> rfl
  | cons d css=>cases x with
   | zero=>rfl
   | succ x=>simp only [List.set_cons_succ]; unfold AcD at ih ⊢; simp only [List.zipWith_cons_cons,List.set_cons_succ]; rw [ih]
theorem Adf (N m : Nat) : (Af6 N m).length=m:=by simp [Af6]
theorem Alw (N m : Nat) : Af6 N (m+1)=Af6 N m++[N+m]:=by simp [Af6,List.range_succ]
theorem Ade {N m i : Nat} : i ∈ Af6 N m↔N≤i∧i<N+m:=by
 simp only [Af6,List.mem_map,List.mem_range]
 constructor
 ·rintro ⟨a,h,rfl⟩; omega
 ·rintro ⟨h1,h2⟩; exact ⟨i-N,by omega,by omega⟩
theorem AdW (N m : Nat) : (Af6 N m).Nodup:=by
 unfold Af6
 rw [List.nodup_iff_pairwise_ne,List.pairwise_map]
 exact List.nodup_range.imp (fun h e=>h (by omega))
theorem Apw (a : Nat) (o : AaZ) (l : List (Nat×AaZ)) (i : Nat) : mkH ((a,o)::l) i=if a=i then some o else mkH l i:=by
 unfold mkH
 by_cases h : a=i
 ·subst h; simp
 ·have e : (a==i)=false:=by simpa using h
  rw [List.find?_cons]; simp [h,e]
theorem Al0 {l : List (Nat×AaZ)} {ids : List Nat} {css : List (List AV)} {i : Nat} (h : i ∉ ids) : mkH (l++Aed ids css) i=mkH l i:=by
 unfold mkH
 rw [List.find?_append]
 have : (Aed ids css).find? (fun p=>p.1==i)=none:=by
  rw [List.find?_eq_none]; intro p hp e
  obtain ⟨j,h1,h2,rfl⟩:=AiG hp
  rw [beq_iff_eq] at e
  exact h (e ▸ List.getElem_mem h1)
 rw [this,Option.or_none]
theorem AoB {l : List (Nat×AaZ)} {ids : List Nat} {css : List (List AV)} (hl : ids.length=css.length) (hn : ids.Nodup) (hd : ∀ p ∈ l,p.1 ∉ ids) (hm : ∀ p ∈ l,mkH (l++Aed ids css) p.1=some p.2) : ∀ p ∈ l++Aed ids css,mkH (l++Aed ids css) p.1=some p.2:=by
 intro p hp
 rcases List.mem_append.1 hp with hp | hp
 ·exact hm p hp
 ·exact (AdL hl hn hd).mem p hp
theorem Ahg : ∀ n : Nat,AaI (List.replicate n (AV.lst true true []))=List.replicate n (AV.lst true true [])
 | 0=>rfl
 | n+1=>by rw [List.replicate_succ,AaI,List.flatMap_cons]; exact congrArg _ (Ahg n)
theorem Ak5 {l : List (Nat×AaZ)} {ids : List Nat} {css : List (List AV)} {d : Nat} {c : List AV} {x : Nat} (hl : ids.length=css.length) (hn : ids.Nodup) (hd : ∀ p ∈ l,p.1 ∉ ids) (h1 : x<ids.length) (h2 : x<css.length) (ed : ids[x]=d) (ec : css[x]=c) : Fam (mkH (((d,.grow (AaI c))::l)++Aed ids css)) ids css:=by
 have F:=AdL hl hn hd
 refine ⟨hl,hn,fun j j1 j2=>?_⟩
 rw [List.cons_append,Apw]
 by_cases e : d=ids[j]
 ·rw [if_pos e]
  have : x=j:=by
   have q:=hn
   rw [List.nodup_iff_pairwise_ne,List.pairwise_iff_getElem] at q
   rcases Nat.lt_trichotomy x j with z | z | z
   ·exact absurd (ed.trans e) (q x j h1 j1 z)
   ·exact z
   ·exact absurd (ed.trans e).symm (q j x j1 h1 z)
  subst this; rw [ec]
 ·rw [if_neg e]; exact F.get j j1 j2
theorem AqG {α : Type} (F : α→AV) (css : List (List α)) {m : Nat} (h : css.length=m) : AaI (css.map (sl F))=(((css.map (List.map F)).map (AV.lst false false)).drop 0).take (m*1):=by
 rw [List.drop_zero,List.take_of_length_le (by simp [h])]
 clear h
 induction css with
 | nil=>rfl
 | cons c css ih =>
  simp only [AaI,List.map_cons,List.flatMap_cons] at ih ⊢
  rw [ih]; rfl
theorem AfF {ops : List Oper} (lg : List (List Nat×List Nat)) (f : Nat→Nat) (S : List Nat) (hi : ∀ a ∈ S,∀ b ∈ S,f a=f b→a=b) (hS : (lg.all fun p=>p.1.all (S.contains ·)&&p.2.all (S.contains ·))=true) (h : Abi ops lg=true) :
 Abi ops (lg.map fun p=>(p.1.map f,p.2.map f))=true:=by
 have hm : ∀ i,(∀ a ∈ (lg.getD i ([],[])).1,a ∈ S)∧(∀ a ∈ (lg.getD i ([],[])).2,a ∈ S):=by
  intro i
  by_cases hl : i<lg.length
  ·have:=List.all_eq_true.1 hS _ (List.getElem_mem hl)
   simp only [Bool.and_eq_true,List.all_eq_true,List.contains_iff_mem] at this
   rw [List.getD_eq_getElem?_getD,List.getElem?_eq_getElem hl]; exact this
  ·rw [List.getD_eq_getElem?_getD,List.getElem?_eq_none (by omega)]; simp
 have hg : ∀ i,(lg.map fun p=>(p.1.map f,p.2.map f)).getD i ([],[])=((lg.getD i ([],[])).1.map f,(lg.getD i ([],[])).2.map f):=by
  intro i
  rw [List.getD_eq_getElem?_getD,List.getElem?_map,List.getD_eq_getElem?_getD]
  cases lg[i]? <;> rfl
 have hc : ∀ x y : List Nat×List Nat,(∀ a ∈ x.1,a ∈ S)∧(∀ a ∈ x.2,a ∈ S)→(∀ a ∈ y.1,a ∈ S)∧(∀ a ∈ y.2,a ∈ S)→AfQ (x.1.map f,x.2.map f) (y.1.map f,y.2.map f)=true→AfQ x y=true:=by
  intro x y hx hy h
  unfold AfQ at h ⊢
  simp only [Bool.or_eq_true,List.any_eq_true,List.contains_iff_mem,List.mem_map] at h ⊢
  rcases h with ⟨_,⟨a,ha,rfl⟩,h⟩ | ⟨_,⟨a,ha,rfl⟩,h⟩
  ·refine .inl ⟨a,ha,?_⟩
   rcases h with ⟨b,hb,e⟩ | ⟨b,hb,e⟩
   ·exact .inl (hi b (hy.1 b hb) a (hx.2 a ha) e ▸ hb)
   ·exact .inr (hi b (hy.2 b hb) a (hx.2 a ha) e ▸ hb)
  ·obtain ⟨b,hb,e⟩:=h
   exact .inr ⟨a,ha,hi b (hx.1 b hb) a (hy.2 a ha) e ▸ hb⟩
 unfold Abi at h ⊢
 rw [Bool.or_eq_true] at h ⊢
 rcases h with h | h
 ·left
  rw [List.all_map]
  rw [List.all_eq_true] at h ⊢
  intro p hp
  have:=h p hp
  simp only [List.isEmpty_iff] at this
  simp [this]
 ·right
  simp only [List.all_eq_true,Bool.or_eq_true,Bool.not_eq_true'] at h ⊢
  intro j hj i hi'
  rcases h j hj i hi' with q | q
  ·left
   rw [hg,hg]
   cases z : AfQ ((lg.getD i ([],[])).1.map f,(lg.getD i ([],[])).2.map f) ((lg.getD j ([],[])).1.map f,(lg.getD j ([],[])).2.map f) with
   | false=>rfl
   | true=>rw [hc _ _ (hm i) (hm j) z] at q; cases q
  ·exact .inr q
variable {P : Program} {n : Nat} {c0 : Cx} {w0 : World} {Q : AcH} {x : Code}
theorem AW.wkF {s : Nat→AV} {H : Aac} {N : Nat} (l : List (Nat×AV)) (fx : List (Nat×AaZ)) (ids : List Nat) (css : List (List AV)) (N' : Nat) (h1 : ∀ p ∈ l,s p.1=p.2) (h2 : ∀ p ∈ fx,H p.1=some p.2) (hf : Fam H ids css) (hN : N≤N') (h : AW P n c0 w0 x Q (mkS l) (mkH (fx++Aed ids css)) N') : AW P n c0 w0 x Q s H N :=
 AW.wk l _ N' h1 (fun p hp=>by rcases List.mem_append.1 hp with hp | hp; exact h2 p hp; exact hf.mem p hp) hN h
theorem AW.ownAll (L : List (Nat×AV)) (O : List (Nat×AaZ)) (A es m N : Nat) (hO : ∀ p ∈ O,p.1≠A∧p.1<N∧mkH O p.1=some p.2) (hA : A<N)
 (h : AW P n c0 w0 x Q (mkS L) (mkH (((A,.cells (AcD es (Af6 N m) (List.replicate m [])))::O)++Aed (Af6 N m) (List.replicate m []))) (N+m))
 (hL : ∀ p ∈ L,mkS L p.1=p.2) :
 AW P n c0 w0 x Q (mkS L) (mkH ((A,.cells (List.replicate m (.lst true true [])))::O)) N:=by
 have key : ∀ d j,j+d=m→AW P n c0 w0 x Q (mkS L) (mkH (((A,.cells (AcD es (Af6 N j) (List.replicate j [])++List.replicate d (AV.lst true true [])))::O)++Aed (Af6 N j) (List.replicate j []))) (N+j):=by
  intro d
  induction d with
  | zero =>
   intro j hj
   have : j=m:=by omega
   subst this
   simpa using h
  | succ d ih =>
   intro j hj
   have hfl : (AcD es (Af6 N j) (List.replicate j ([] : List AV))).length=j:=by rw [AhA (by simp [Adf])]; simp
   refine AW.ownC A j es true (cs:=AcD es (Af6 N j) (List.replicate j [])++List.replicate (d+1) (AV.lst true true [])) ?_ ?_ ?_
   ·rw [List.cons_append,Apw,if_pos rfl]
   ·rw [List.getElem?_append_right (by omega),hfl,Nat.sub_self]; simp
   ·have e1 : (AcD es (Af6 N j) (List.replicate j [])++List.replicate (d+1) (AV.lst true true [])).set j (.slc (N+j) 0 es 0 false)=AcD es (Af6 N (j+1)) (List.replicate (j+1) [])++List.replicate d (AV.lst true true []):=by
     rw [List.set_append,if_neg (by omega),hfl,Nat.sub_self,List.replicate_succ,List.set_cons_zero,Alw,List.replicate_succ',AcD,AcD,List.zipWith_append (by simp [Adf])]
     simp
    rw [e1]
    refine AW.wk L _ (N+(j+1)) hL ?_ (by omega) (ih (j+1) (by omega))
    intro p hp
    rw [List.mem_append,List.mem_cons] at hp
    have hAn : A ∉ Af6 N j:=fun q=>by have:=Ade.1 q; omega
    have F : Fam (mkH (((A,.cells (AcD es (Af6 N j) (List.replicate j [])++List.replicate (d+1) (AV.lst true true [])))::O)++Aed (Af6 N j) (List.replicate j []))) (Af6 N j) (List.replicate j []) :=
     AdL (by simp [Adf]) (AdW _ _) (fun p hp q=>by
      have:=Ade.1 q
      rcases List.mem_cons.1 hp with rfl | hp
      ·omega
      ·have:=hO p hp; omega)
    rcases hp with (rfl | hp) | hp
    ·simp
    ·obtain ⟨o1,o2,o3⟩:=hO p hp
     rw [AbV _ _ o1,AbV _ _ (by omega),List.cons_append,Apw,if_neg (fun e=>o1 e.symm),Al0 (fun q=>by have:=Ade.1 q; omega),o3]
    ·rw [Alw,List.replicate_succ',Aed,List.zipWith_append (by simp [Adf]),List.mem_append] at hp
     rcases hp with hp | hp
     ·have:=F.mem p hp
      obtain ⟨q,h1,h2,rfl⟩:=AiG hp
      have h3:=Ade.1 (List.getElem_mem h1)
      rw [AbV _ _ (by simp only []; omega),AbV _ _ (by simp only []; omega)]
      exact this
     ·simp only [List.zipWith_cons_cons,List.zipWith_nil_left,List.mem_singleton] at hp
      subst hp
      rw [AbV _ _ (by simp only []; omega)]; simp [AaI]
 have:=key m 0 (by omega)
 simpa [Af6,AcD,Aed] using this
theorem Ah5.refl (id : Nat) (o : AaZ) (cs : List AV) : ∀ xs,Ah5 id o cs xs xs
 | [] => .nil
 | x::xs => .cons (.same x) (Ah5.refl id o cs xs)
theorem Ah5.mid {id : Nat} {o : AaZ} {cs : List AV} {a b : AV} (h : Frz id o cs a b) (ys : List AV) : ∀ xs,Ah5 id o cs (xs++a::ys) (xs++b::ys)
 | [] => .cons h (Ah5.refl id o cs ys)
 | x::xs => .cons (.same x) (Ah5.mid h ys xs)
theorem AgU {es : Nat} : ∀ {c : List AV},sized es c→(AaI c).length=c.length*es
 | [],_=>by simp [AaI]
 | a::c,h=>by
  have:=AgU (c:=c) (fun y hy=>h y (by simp [hy]))
  have ha:=h a (by simp)
  simp only [AaI,List.flatMap_cons,List.length_append,List.length_cons] at this ⊢
  rw [this,Nat.add_mul,Nat.one_mul]
  have : a.cells.length=es:=ha.2
  omega
theorem AW.frzAll (L : List (Nat×AV)) (O : List (Nat×AaZ)) (A es N : Nat) (hO : ∀ p ∈ O,p.1≠A∧mkH O p.1=some p.2) (hL : ∀ p ∈ L,mkS L p.1=p.2) : ∀ (ids : List Nat) (css : List (List AV)) (pre : List AV),ids.length=css.length→ids.Nodup→A ∉ ids→(∀ p ∈ O,p.1 ∉ ids)→(∀ c ∈ css,okEls es c) →
 AW P n c0 w0 x Q (mkS L) (mkH ((A,.cells (pre++css.map (AV.lst false false)))::O)) N →
 AW P n c0 w0 x Q (mkS L) (mkH (((A,.cells (pre++AcD es ids css))::O)++Aed ids css)) N
 | [],[],pre,_,_,_,_,_,h=>by simpa [AcD,Aed] using h
 | i::ids,[],pre,hl,_,_,_,_,_=>by cases hl
 | [],_::_,pre,hl,_,_,_,_,_=>by cases hl
 | i::ids,c::css,pre,hl,hn,hA,hd,hc,h=>by
  rw [List.nodup_cons] at hn
  have F:=AdL (l:=(A,.cells (pre++AcD es (i::ids) (c::css)))::O) (ids:=i::ids) (css:=c::css) hl (List.nodup_cons.2 hn) (fun p hp=>by
   rcases List.mem_cons.1 hp with rfl | hp
   ·exact hA
   ·exact hd p hp)
  have hi:=F.get 0 (by simp) (by simp)
  simp only [List.getElem_cons_zero] at hi
  have hAi : A≠i:=fun e=>hA (by simp [e])
  have hok:=hc c (by simp)
  refine AW.frz i hi rfl [] [(A,.cells (pre++AV.lst false false c::AcD es ids css))] trivial ⟨⟨hAi,.cells (pre++AcD es (i::ids) (c::css)),?_,?_⟩,trivial⟩ ?_
  ·rw [List.cons_append,Apw,if_pos rfl]
  ·refine Ao7.mk ?_
   rw [show AcD es (i::ids) (c::css)=AV.slc i 0 es c.length false::AcD es ids css from rfl]
   refine Ah5.mid (.lst (by simp) hok rfl ?_ rfl) _ pre
   rw [List.drop_zero,List.take_of_length_le (by rw [AgU hok.1]; omega)]
  ·have ih:=AW.frzAll L O A es N hO hL ids css (pre++[AV.lst false false c]) (by simpa using hl) hn.2 (fun q=>hA (by simp [q])) (fun p hp q=>hd p hp (by simp [q])) (fun d hd'=>hc d (by simp [hd'])) (by simpa using h)
   refine AW.wk L _ N hL ?_ (Nat.le_refl _) ih
   intro p hp
   rw [List.mem_append,List.mem_cons] at hp
   rw [ApF,AkM]
   rcases hp with (rfl | hp) | hp
   ·simp
   ·obtain ⟨o1,o3⟩:=hO p hp
    rw [AbV _ _ o1,AbV _ _ (fun e=>hd p hp (by simp [e])),List.cons_append,Apw,if_neg (fun e=>o1 e.symm),Al0 (hd p hp),o3]
   ·obtain ⟨j,h1,h2,rfl⟩:=AiG hp
    have:=F.get (j+1) (by simpa using h1) (by simpa using h2)
    simp only [List.getElem_cons_succ] at this
    have hm:=List.getElem_mem h1
    rw [AbV _ _ (fun e=>hA (by simp only [] at e; rw [← e]; simp)),AbV _ _ (fun e=>hn.1 (by simp only [] at e; rw [← e]; exact hm))]
    exact this
@[simp] theorem Aru (S : Nat→Prop) (n m : Nat) (k : IntKind) (x y : Int) (l : List Int) : gdL S (((l.map (AV.int k)).set n (AV.int k x)).set m (AV.int k y))↔True:=iff_true_intro (AqA (by simp) (by simp))
@[simp] theorem Axg (S : Nat→Prop) (k : IntKind) (l : List (List Int)) : gdL S (l.map (sl (AV.int k)))↔True:=iff_true_intro ((Aeq _ _).2 fun y hy=>by obtain ⟨z,_,rfl⟩:=List.mem_map.1 hy; simp)
@[simp] theorem AwS (σ : Nat→Nat) (k : IntKind) (l : List (List Int)) : AdP σ (l.map (sl (AV.int k)))=l.map (sl (AV.int k)):=Anp _ _ (by simp) _
@[simp] theorem AyI (σ : Nat→Nat) (k k2 : IntKind) (i v : Int) : AeR σ (.mp (Aeo [] (.int k i) (.int k2 v))) = .mp (Aeo [] (.int k i) (.int k2 v)):=rfl
@[simp] theorem AyJ (S : Nat→Prop) (k k2 : IntKind) (i v : Int) : gdO S (.mp (Aeo [] (.int k i) (.int k2 v)))↔True:=iff_true_intro (by simp [gdO,Aeo,Air])
theorem Can.shr {s : Nat→AV} {H : Aac} {N : Nat} {T : Act→World→Prop} {α : Type} (id m : Nat) {F : α→AV} {L : List α} (ho : H id=some (.grow (L.map F))) (hne : L.take m≠[]) (h : Can n c0 w0 s (upd H id (some (.grow ((L.take m).map F)))) N T) : Can n c0 w0 s H N T:=by
 intro a w ⟨cx,hr,hd,g,hu⟩
 have k5:=hr.hr.reobj id (.grow ((L.take m).map F)) (fun o ho' he=>by
  rw [ho] at ho'; cases ho'
  rw [AaZ.grow.injEq,List.map_eq_nil_iff] at he
  exact absurd (by rw [he]; simp) hne) (by rw [ho]; rfl) (fun o b base sz ho' hl hor=>by
  rw [ho] at ho'; cases ho'
  obtain ⟨hn0,cur,T,fr,vs,h1,h2,h3,h4,h5,h6⟩:=hor
  refine ⟨by simpa using hne,cur,T,fr,vs.take m,h1,h2,h3,?_,by rw [List.map_take]; exact h5.take m,h6.take m⟩
  simp only [List.length_map,List.length_take] at h4 ⊢; omega)
 exact h a w ⟨cx,⟨k5,hr.size,hr.slot⟩,hd,g,hu⟩
theorem AW.shr {s : Nat→AV} {H : Aac} {N : Nat} {α : Type} (id m : Nat) {F : α→AV} {L : List α} (ho : H id=some (.grow (L.map F))) (hne : L.take m≠[]) (h : AW P n c0 w0 x Q s (upd H id (some (.grow ((L.take m).map F)))) N) : AW P n c0 w0 x Q s H N:=Can.shr id m ho hne h
theorem Asy {α : Type} {L : List α} {m : Nat} (h1 : 0<L.length) (h2 : 0<m) : L.take m≠[]:=by
 intro e; have:=congrArg List.length e; rw [List.length_take,List.length_nil] at this; omega
theorem AW.loopV {s : Nat→AV} {H : Aac} {N : Nat} {c : Code} {α : Type} (F : Nat→α→Prop) (L : α→List (Nat×AV)) (O : α→List (Nat×AaZ)) (M : α→Nat) (k : Nat) (x0 : α) (h0 : F k x0) (h1 : ∀ p ∈ L x0,s p.1=p.2) (h2 : ∀ p ∈ O x0,H p.1=some p.2) (hN : N≤M x0)
 (round : ∀ k x,F k x→∀ K : (Nat→AV)→Aac→Nat→Prop,(∀ s' H' N',Can n c0 w0 s' H' N' (fun a w=>∃ k' y,k'<k∧F k' y∧St n c0 w0 (mkS (L y)) (mkH (O y)) (M y) a w)→K s' H' N') →
  AW P n c0 w0 c (AcH.then K Q) (mkS (L x)) (mkH (O x)) (M x)) : AW P n c0 w0 (.loop c) Q s H N:=by
 classical
 intro a w hs
 let J : Nat→Act→World→Prop:=fun k a w=>∃ x,F k x∧St n c0 w0 (mkS (L x)) (mkH (O x)) (M x) a w
 have key : ∀ k a w,J k a w→(Code.loop c).wp P (Q.real n c0 w0) a w:=by
  intro k0 a w hJ
  let μ : Act→World→Nat:=fun a w=>if h : ∃ k,J k a w then Classical.choose (least _ h) else 0
  have hμ : ∀ a w,(∃ k,J k a w)→J (μ a w) a w∧∀ j,J j a w→μ a w≤j:=by
   intro a w h
   have : μ a w=Classical.choose (least _ h):=by simp only [μ,h,dif_pos]
   rw [this]
   exact Classical.choose_spec (least _ h)
  refine wp_loop (fun a w=>∃ k,J k a w) μ ⟨k0,hJ⟩ ?_
  intro a w hk
  obtain ⟨x,hx,hst⟩:=(hμ a w hk).1
  refine wp_mono (round _ x hx (fun s' H' N'=>Can n c0 w0 s' H' N' (fun a' w'=>∃ k' y,k'<μ a w∧F k' y∧St n c0 w0 (mkS (L y)) (mkH (O y)) (M y) a' w')) (fun s' H' N' h=>h) a w hst) ?_
  intro e a' w' ⟨s',H',N',q,st⟩
  cases e with
  | normal =>
   obtain ⟨k',y,k1,k2,k3⟩:=q a' w' st
   have hJy : J k' a' w':=⟨y,k2,k3⟩
   refine ⟨⟨k',hJy⟩,?_⟩
   have:=(hμ a' w' ⟨_,hJy⟩).2 _ hJy
   omega
  | _=>exact ⟨s',H',N',q,st⟩
 exact key k a w ⟨x0,h0,hs.weak (L x0) (O x0) (M x0) h1 h2 hN⟩
theorem Can.nextV {s : Nat→AV} {H : Aac} {N : Nat} {α : Type} {F : Nat→α→Prop} {L : α→List (Nat×AV)} {O : α→List (Nat×AaZ)} {M : α→Nat} {k k' : Nat} (y : α) (hk : k'<k) (hF : F k' y) (h1 : ∀ p ∈ L y,s p.1=p.2) (h2 : ∀ p ∈ O y,H p.1=some p.2) (hN : N≤M y) :
 Can n c0 w0 s H N (fun a w=>∃ k' y,k'<k∧F k' y∧St n c0 w0 (mkS (L y)) (mkH (O y)) (M y) a w) :=
 fun a w hs=>⟨k',y,hk,hF,hs.weak (L y) (O y) (M y) h1 h2 hN⟩
end Go.Abs
