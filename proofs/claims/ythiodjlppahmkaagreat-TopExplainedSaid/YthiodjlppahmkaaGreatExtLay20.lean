import Derived.Test.YthiodjlppahmkaaGreatExtLay19
set_option linter.unusedVariables false
set_option linter.unusedSimpArgs false
namespace Go.Abs
open Go.RowKit (Below)
mutual
inductive Frz (id : Nat) (o : AaZ) (cs : List AV) : AV→AV→Prop
 | same (x : AV) : Frz id o cs x x
 | lst {off es len : Nat} {full nl fl : Bool} {xs : List AV} (hf : fl=true→full=true) (hel : okEls es xs) (hlen : xs.length=len) (he : AaI xs=(cs.drop off).take (len*es)) (hnl : nl=false) : Frz id o cs (.slc id off es len full) (.lst nl fl xs)
 | agg {xs ys : List AV} (h : Ah5 id o cs xs ys) : Frz id o cs (.agg xs) (.agg ys)
 | tup {xs ys : List AV} (h : Ah5 id o cs xs ys) : Frz id o cs (.tup xs) (.tup ys)
inductive Ah5 (id : Nat) (o : AaZ) (cs : List AV) : List AV→List AV→Prop
 | nil : Ah5 id o cs [] []
 | cons {x y : AV} {xs ys : List AV} (h : Frz id o cs x y) (t : Ah5 id o cs xs ys) : Ah5 id o cs (x::xs) (y::ys)
end
theorem Ah5.length {id : Nat} {o : AaZ} {cs : List AV} : ∀ {xs ys : List AV},Ah5 id o cs xs ys→xs.length=ys.length
 | _,_,.nil=>rfl
 | _,_,.cons _ t=>by simp [Ah5.length t]
def Ao7 (id : Nat) (o : AaZ) (cs : List AV) : AaZ→AaZ→Prop
 | .cells xs,.cells ys=>Ah5 id o cs xs ys
 | .grow xs,.grow ys=>Ah5 id o cs xs ys
 | _,_=>False
theorem Ao7.mk {id : Nat} {o : AaZ} {cs xs ys : List AV} (h : Ah5 id o cs xs ys) : Ao7 id o cs (.cells xs) (.cells ys):=h
def ApG (s : Nat→AV) : List (Nat×AV)→Nat→AV
 | []=>s
 | p::l=>upd (ApG s l) p.1 p.2
@[simp] theorem AwJ (s : Nat→AV) : ApG s []=s:=rfl
@[simp] theorem Auu (s : Nat→AV) (t : Nat) (x : AV) (l : List (Nat×AV)) : ApG s ((t,x)::l)=upd (ApG s l) t x:=rfl
def AkN (H : Aac) : List (Nat×AaZ)→Aac
 | []=>H
 | p::l=>upd (AkN H l) p.1 (some p.2)
@[simp] theorem AkM (s : Aac) : AkN s []=s:=rfl
@[simp] theorem ApF (s : Aac) (t : Nat) (x : AaZ) (l : List (Nat×AaZ)) : AkN s ((t,x)::l)=upd (AkN s l) t (some x):=rfl
def Awz (id : Nat) (o : AaZ) (cs : List AV) (s : Nat→AV) : List (Nat×AV)→Prop
 | []=>True
 | p::l=>Frz id o cs (s p.1) p.2∧Awz id o cs s l
def AwH (id : Nat) (o : AaZ) (cs : List AV) (H : Aac) : List (Nat×AaZ)→Prop
 | []=>True
 | p::l=>(p.1≠id∧∃ x,H p.1=some x∧Ao7 id o cs x p.2)∧AwH id o cs H l
theorem AcX.reobj {c : Cx} {H : Aac} {w : World} (h : AcX c H w) (j : Nat) (o' : AaZ) (he : ∀ o,H j=some o→(o = .grow []→o' = .grow [])) (hs : (H j).isSome=true)
 (ho : ∀ o b base sz,H j=some o→c.ι j = .live b base sz→AbQ c o b base sz→AbQ c o' b base sz) : AcX c (upd H j (some o')) w:=by
 refine ⟨h.heap,?_,?_,?_,h.inj,h.sep,h.zlt,h.fin⟩
 ·intro i b x y hl
  by_cases e : i=j
  ·subst e
   obtain ⟨oi,h1,h2⟩:=h.obj i b x y hl
   exact ⟨o',by simp,ho oi b x y h1 hl h2⟩
  ·obtain ⟨oi,h1,h2⟩:=h.obj i b x y hl
   exact ⟨oi,by rw [AbV _ _ e]; exact h1,h2⟩
 ·intro i hi
  by_cases e : i=j
  ·subst e; rw [AbR,he _ (h.emp i hi) rfl]
  ·rw [AbV _ _ e]; exact h.emp i hi
 ·intro i hi hm
  by_cases e : i=j
  ·subst e
   rw [h.non i hi hm] at hs; cases hs
  ·rw [AbV _ _ e]; exact h.non i hi hm
section
variable {n : Nat} {c0 : Cx} {w0 : World} {s : Nat→AV} {H : Aac} {N : Nat} {T : Act→World→Prop}
mutual
theorem Frz.rep {id : Nat} {o : AaZ} {cs : List AV} {c c' : Cx} (L : c.Le c') (hslc : ∀ off es len full nl fl xs v,(fl=true→full=true)→okEls es xs→xs.length=len→AaI xs=(cs.drop off).take (len*es)→nl=false→Rep c (.slc id off es len full) v→Rep c' (.lst nl fl xs) v) :
 ∀ {x y : AV} {v : Value},Frz id o cs x y→Rep c x v→Rep c' y v
 | x,_,v,.same _,h=>h.mono L
 | _,_,v,.lst hf hel hlen he hnl,h=>hslc _ _ _ _ _ _ _ v hf hel hlen he hnl h
 | _,_,v,.agg hl,h=>by
  simp only [Rep] at h ⊢
  obtain ⟨vs,hv,hr⟩:=h
  exact ⟨vs,hv,Ah5.rep L hslc hl hr⟩
 | _,_,v,.tup hl,h=>by
  simp only [Rep] at h ⊢
  obtain ⟨vs,hv,hr⟩:=h
  exact ⟨vs,hv,Ah5.rep L hslc hl hr⟩
theorem Ah5.rep {id : Nat} {o : AaZ} {cs : List AV} {c c' : Cx} (L : c.Le c') (hslc : ∀ off es len full nl fl xs v,(fl=true→full=true)→okEls es xs→xs.length=len→AaI xs=(cs.drop off).take (len*es)→nl=false→Rep c (.slc id off es len full) v→Rep c' (.lst nl fl xs) v) :
 ∀ {xs ys : List AV} {vs : List Value},Ah5 id o cs xs ys→AaD c xs vs→AaD c' ys vs
 | _,_,vs,.nil,h=>by simpa [AaD] using h
 | _,_,vs,.cons hx ht,h=>by
  simp only [AaD] at h ⊢
  obtain ⟨v,rest,hv,h1,h2⟩:=h
  exact ⟨v,rest,hv,Frz.rep L hslc hx h1,Ah5.rep L hslc ht h2⟩
end
theorem Ao7.rep {id : Nat} {o : AaZ} {cs : List AV} {c c' : Cx} (L : c.Le c') (hslc : ∀ off es len full nl fl xs v,(fl=true→full=true)→okEls es xs→xs.length=len→AaI xs=(cs.drop off).take (len*es)→nl=false→Rep c (.slc id off es len full) v→Rep c' (.lst nl fl xs) v)
 {x y : AaZ} (hx : Ao7 id o cs x y) {b base sz : Nat} (e : c'.h=c.h) (h : AbQ c x b base sz) : AbQ c' y b base sz:=by
 cases x <;> cases y <;> simp only [Ao7] at hx
 ·obtain ⟨cur,T,fr,vs,h1,h2,h3,h4,h5,h6⟩:=h
  exact ⟨cur,T,fr,vs,by rw [e]; exact h1,h2,h3,by rw [← hx.length]; exact h4,hx.rep L hslc h5,by rw [e]; exact h6⟩
 ·obtain ⟨hne,cur,T,fr,vs,h1,h2,h3,h4,h5,h6⟩:=h
  refine ⟨fun k=>hne ?_,cur,T,fr,vs,by rw [e]; exact h1,h2,h3,by rw [← hx.length]; exact h4,hx.rep L hslc h5,by rw [e]; exact h6⟩
  subst k
  exact List.length_eq_zero_iff.1 hx.length
theorem AqC {id : Nat} {o : AaZ} {cs : List AV} (ho : H id=some o) (hc : o.cs? = some cs) {c : Cx} {a : Act} {w : World} (hr : Rel n c s H a w) (hu : AcF c N) :
 ∃ c',c.Le c'∧c'.h=c.h∧AcX c' (upd H id none) w∧Aeu c w c' w∧AcF c' N∧(∀ i,i≠id→c'.ι i=c.ι i) ∧
  (∀ off es len full nl fl xs v,(fl=true→full=true)→okEls es xs→xs.length=len→AaI xs=(cs.drop off).take (len*es)→nl=false→Rep c (.slc id off es len full) v→Rep c' (.lst nl fl xs) v):=by
 rcases AdX hr.hr ho with ⟨hemp,rfl⟩ | ⟨b,base,sz,hlive,hor⟩
 ·obtain ⟨k1,k2⟩:=hr.hr.kill (id:=id) (by rw [hemp]; simp)
  refine ⟨_,k2.le,rfl,k1,k2,fun i hi=>?_,fun i hi=>by simp [upd,hi],?_⟩
  ·have:=hu i hi
   have hne : i≠id:=by intro e; subst e; rw [hemp] at this; cases this
   simp only [upd,hne,if_false]; exact this
  ·intro off es len full nl fl xs v hf hel hlen he hnl hv
   simp only [Rep] at hv
   obtain ⟨rfl,a0,rfl⟩:=hv.2.2.1 hemp
   have : xs = []:=List.length_eq_zero_iff.1 hlen
   subst this
   subst hnl
   exact Akf _ _ _
 ·have hng : o ≠ .grow []:=by intro e; subst e; obtain ⟨hne,_⟩:=hor; exact hne rfl
  obtain ⟨cur,Ty,fr,vs,q1,q2,q3,q4,q5,q6⟩:=hor.cs hc
  obtain ⟨k1,k2⟩:=hr.hr.freeze hlive
  refine ⟨_,k2.le,rfl,k1,k2,fun i hi=>?_,fun i hi=>by simp [upd,hi],?_⟩
  ·have:=hu i hi
   have hne : i≠id:=by intro e; subst e; rw [hlive] at this; cases this
   simp only [upd,hne,if_false]; exact this
  ·intro off es len full nl fl xs v hf hel hlen he hnl hv
   have hn' : nl=false:=hnl
   obtain ⟨cap,p,rfl,hp,h1,h2,h3,h4⟩:=Abd hv hlive
   have hr2 : AaD ⟨fun k=>c.Z k∨k=b,upd c.ι id .dead,c.h⟩ (AaI xs) ((vs.drop off).take (len*es)):=by rw [he]; exact ((q5.drop off).take _).mono k2.le
   obtain ⟨us,u1,u2,u3⟩:=Ajg hel.1 hr2 (AaD.oneCell hr2 (List.all_eq_true.2 hel.2))
   have hul : us.length=len:=by rw [u1.length,hlen]
   subst hul
   simp only [Rep]
   refine .inr ⟨hn',_,b,p,cap,es,us,rfl,h1,h2,fun k=>h4 (hf k),fun _=>⟨rfl,.inr rfl⟩,?_,u1⟩
   by_cases hcap : 0<cap
   ·rw [Ab5 u3,u2,hp hcap]
    exact (q6.drop off).take _
   ·have : us = []:=List.length_eq_zero_iff.1 (by omega)
    subst this
    intro i hi; simp at hi
theorem Can.freeze (id : Nat) {o : AaZ} {cs : List AV} (ho : H id=some o) (hc : o.cs? = some cs) (l : List (Nat×AV)) (lo : List (Nat×AaZ)) (hl : Awz id o cs s l) (hlo : AwH id o cs H lo)
 (h : Can n c0 w0 (ApG s l) (AkN (upd H id none) lo) N T) : Can n c0 w0 s H N T:=by
 intro a w ⟨c,hr,hd,g,hu⟩
 obtain ⟨c',L,hh,h1,g',hu',hi,hslc⟩:=AqC ho hc hr hu
 refine h a w ⟨c',⟨?_,hr.size,fun t ht=>?_⟩,hd,g.trans g',hu'⟩
 ·clear h hl
  have key : ∀ lo,AwH id o cs H lo→AcX c' (AkN (upd H id none) lo) w∧∀ j x,AkN (upd H id none) lo j=some x→j≠id→∃ y,H j=some y∧(x=y∨Ao7 id o cs y x):=by
   intro lo
   induction lo with
   | nil=>exact fun _=>⟨h1,fun j x hj hne=>⟨x,by simp only [AkM] at hj; rwa [AbV _ _ hne] at hj,.inl rfl⟩⟩
   | cons p lo ih =>
    rintro ⟨⟨hne,x,hx,hf⟩,ht⟩
    obtain ⟨i1,i2⟩:=ih ht
    have hsome : (AkN (upd H id none) lo p.1).isSome=true:=by
     clear i1 i2 ih
     induction lo with
     | nil=>simp only [AkM]; rw [AbV _ _ hne,hx]; rfl
     | cons q lo ih2 =>
      simp only [AkN]
      by_cases e : p.1=q.1
      ·rw [e,AbR]; rfl
      ·rw [AbV _ _ e]; exact ih2 ht.2
    refine ⟨i1.reobj p.1 p.2 (fun o1 ho1 he=>?_) hsome (fun o1 b base sz ho1 hl1 _=>?_),fun j y hj hnj=>?_⟩
    ·obtain ⟨y,hy,hxy⟩:=i2 p.1 o1 ho1 hne
     rw [hx] at hy; cases hy
     subst he
     have hxg : x = .grow []:=by
      rcases hxy with rfl | hxy
      ·rfl
      ·cases x <;> simp only [Ao7] at hxy
       have:=hxy.length
       simp only [List.length_nil] at this
       rw [List.length_eq_zero_iff.1 this]
     subst hxg
     cases hp : p.2 <;> rw [hp] at hf <;> simp only [Ao7] at hf
     have:=hf.length
     simp only [List.length_nil] at this
     rw [List.length_eq_zero_iff.1 this.symm]
    ·rw [hi p.1 hne] at hl1
     obtain ⟨y,hy,hor⟩:=hr.hr.obj p.1 b base sz hl1
     rw [hx] at hy; cases hy
     exact hf.rep L hslc hh hor
    ·by_cases e : j=p.1
     ·subst e
      simp only [AkN,AbR,Option.some.injEq] at hj
      subst hj
      exact ⟨x,hx,.inr hf⟩
     ·simp only [AkN] at hj
      rw [AbV _ _ e] at hj
      exact i2 j y hj hnj
  exact (key lo hlo).1
 ·clear h
  induction l with
  | nil=>exact (hr.slot t ht).mono L _ _
  | cons p l ih =>
   simp only [ApG]
   by_cases e : t=p.1
   ·subst e; rw [AbR]; exact hl.1.rep L hslc (hr.slot _ ht)
   ·rw [AbV _ _ e]; exact ih hl.2
end
theorem Frz.l {id : Nat} {o : AaZ} {cs : List AV} {es len : Nat} {full fl : Bool} {xs : List AV} (hf : fl=true→full=true) (hel : okEls es xs) (hlen : xs.length=len) (hcs : AaI xs=cs) : Frz id o cs (.slc id 0 es len full) (.lst false fl xs):=by
 refine .lst hf hel hlen ?_ rfl
 subst hcs
 rw [List.drop_zero,List.take_of_length_le]
 have : ∀ l : List AV,okEls es l→(AaI l).length=l.length*es:=by
  intro l
  induction l with
  | nil=>intro _; simp [AaI]
  | cons x l ih =>
   intro hl
   rw [Aom] at hl
   have:=ih hl.2
   simp only [AaI,List.flatMap_cons,List.length_append,List.length_cons] at this ⊢
   rw [this,hl.1.2.1,Nat.add_mul]; omega
 rw [this xs hel,hlen]; exact Nat.le_refl _
mutual
inductive Fl : AV→AV→Prop
 | same (x : AV) : Fl x x
 | lst {nl fl : Bool} {xs ys : List AV} (h : xs=ys) : Fl (.lst nl fl xs) (.lst false false ys)
 | els {nl fl : Bool} {xs ys : List AV} (h : FlL xs ys) : Fl (.lst nl fl xs) (.lst nl fl ys)
 | agg {xs ys : List AV} (h : FlL xs ys) : Fl (.agg xs) (.agg ys)
 | tup {xs ys : List AV} (h : FlL xs ys) : Fl (.tup xs) (.tup ys)
 | slc {id off es len : Nat} {f : Bool} : Fl (.slc id off es len f) (.slc id off es len false)
 | nn {x : AV} : Fl (.nn x) x
 | rm {x : AV} : Fl (.rm x) x
inductive FlL : List AV→List AV→Prop
 | nil : FlL [] []
 | cons {x y : AV} {xs ys : List AV} (h : Fl x y) (t : FlL xs ys) : FlL (x::xs) (y::ys)
end
theorem FlL.refl : ∀ xs : List AV,FlL xs xs
 | [] => .nil
 | x::xs => .cons (.same x) (FlL.refl xs)
theorem FlL.length : ∀ {xs ys : List AV},FlL xs ys→xs.length=ys.length
 | _,_,.nil=>rfl
 | _,_,.cons _ t=>by simp [FlL.length t]
mutual
theorem Fl.rep {c : Cx} : ∀ {x y : AV} {v : Value},Fl x y→Rep c x v→Rep c y v
 | _,_,v,.same _,h=>h
 | .lst nl fl xs,_,v,.lst hx,h=>by
  subst hx
  simp only [Rep] at h ⊢
  rcases h with h | ⟨_,a,b,off,cap,es,vs,h1,h2,h3,h4,h5⟩
  ·exact .inl h
  ·exact .inr ⟨trivial,a,b,off,cap,es,vs,h1,h2,h3,(fun h=>by cases h),h5⟩
 | .lst nl fl xs,_,v,.els hx,h=>by
  simp only [Rep] at h ⊢
  rcases h with ⟨rfl,h⟩ | ⟨h0,a,b,off,cap,es,vs,h1,h2,h3,h4,h5,h6,h7⟩
  ·cases hx; exact .inl ⟨rfl,h⟩
  ·exact .inr ⟨h0,a,b,off,cap,es,vs,h1,h2,h3,h4,h5,h6,FlL.rep hx h7⟩
 | _,_,v,.agg hl,h=>by
  simp only [Rep] at h ⊢
  obtain ⟨vs,hv,hr⟩:=h
  exact ⟨vs,hv,FlL.rep hl hr⟩
 | _,_,v,.tup hl,h=>by
  simp only [Rep] at h ⊢
  obtain ⟨vs,hv,hr⟩:=h
  exact ⟨vs,hv,FlL.rep hl hr⟩
 | .slc id off es len f,_,v,.slc,h=>by
  simp only [Rep] at h ⊢
  exact ⟨h.1,h.2.1,h.2.2.1,fun b base sz hl=>by
   obtain ⟨cap,o,k1,k2,k3,k4,k5,_⟩:=h.2.2.2 b base sz hl
   exact ⟨cap,o,k1,k2,k3,k4,k5,fun h=>by cases h⟩⟩
 | .nn x,_,v,.nn,h=>by simp only [Rep] at h; exact h.1
 | .rm x,_,v,.rm,h=>by simp only [Rep] at h; exact h.1
theorem FlL.rep {c : Cx} : ∀ {xs ys : List AV} {vs : List Value},FlL xs ys→AaD c xs vs→AaD c ys vs
 | _,_,vs,.nil,h=>h
 | _,_,vs,.cons hx ht,h=>by
  simp only [AaD] at h ⊢
  obtain ⟨v,rest,hv,h1,h2⟩:=h
  exact ⟨v,rest,hv,Fl.rep hx h1,FlL.rep ht h2⟩
end
def FlS (s : Nat→AV) : List (Nat×AV)→Prop
 | []=>True
 | p::l=>Fl (s p.1) p.2∧FlS s l
def FlO : AaZ→AaZ→Prop
 | .cells xs,.cells ys=>FlL xs ys
 | .cells xs,.grow ys=>FlL xs ys∧ys≠[]
 | _,_=>False
theorem FlO.mk {xs ys : List AV} (h : FlL xs ys) : FlO (.cells xs) (.cells ys):=h
theorem FlO.gr {xs : List AV} (h : xs≠[]) : FlO (.cells xs) (.grow xs):=⟨FlL.refl xs,h⟩
def FlH (H : Aac) : List (Nat×AaZ)→Prop
 | []=>True
 | p::l=>(∃ x,H p.1=some x∧FlO x p.2)∧FlH H l
theorem AcX.flg {c : Cx} {H : Aac} {w : World} (h : AcX c H w) : ∀ {lo : List (Nat×AaZ)},FlH H lo→(lo.map (·.1)).Nodup→AcX c (AkN H lo) w
 | [],_,_=>h
 | p::lo,hl,hn=>by
  simp only [List.map_cons,List.nodup_cons] at hn
  have ih:=AcX.flg h hl.2 hn.2
  obtain ⟨x,hx,hf⟩:=hl.1
  have hj : AkN H lo p.1=some x:=by
   have : ∀ lo : List (Nat×AaZ),p.1 ∉ lo.map (·.1)→AkN H lo p.1=H p.1:=by
    intro lo
    induction lo with
    | nil=>intro _; rfl
    | cons q lo ih2 =>
     intro hq
     simp only [List.map_cons,List.mem_cons,not_or] at hq
     simp only [AkN]
     rw [AbV _ _ hq.1]; exact ih2 hq.2
   rw [this lo hn.1,hx]
  refine ih.reobj p.1 p.2 (fun o ho he=>?_) (by rw [hj]; rfl) (fun o b base sz ho _ hor=>?_)
  ·rw [hj] at ho; cases ho
   subst he
   cases hp : p.2 <;> rw [hp] at hf <;> simp only [FlO] at hf
  ·rw [hj] at ho; cases ho
   cases x <;> cases hp : p.2 <;> rw [hp] at hf <;> simp only [FlO] at hf
   ·obtain ⟨cur,T,fr,vs,h1,h2,h3,h4,h5,h6⟩:=hor
    exact ⟨cur,T,fr,vs,h1,h2,h3,by rw [← hf.length]; exact h4,hf.rep h5,h6⟩
   ·obtain ⟨cur,T,fr,vs,h1,h2,h3,h4,h5,h6⟩:=hor
    exact ⟨hf.2,cur,T,fr,vs,h1,h2,h3,by rw [← hf.1.length]; exact h4,hf.1.rep h5,h6⟩
theorem Can.flg {n : Nat} {c0 : Cx} {w0 : World} {s : Nat→AV} {H : Aac} {N : Nat} {T : Act→World→Prop} (l : List (Nat×AV)) (lo : List (Nat×AaZ)) (hl : FlS s l) (hlo : FlH H lo) (hn : (lo.map (·.1)).Nodup)
 (h : Can n c0 w0 (ApG s l) (AkN H lo) N T) : Can n c0 w0 s H N T:=by
 intro a w ⟨c,hr,hd,g,hu⟩
 refine h a w ⟨c,⟨hr.hr.flg hlo hn,hr.size,fun t ht=>?_⟩,hd,g,hu⟩
 clear h
 induction l with
 | nil=>exact hr.slot t ht
 | cons p l ih =>
  simp only [ApG]
  by_cases e : t=p.1
  ·subst e; rw [AbR]; exact hl.1.rep (hr.slot _ ht)
  ·rw [AbV _ _ e]; exact ih hl.2
def nth (O : List (Option AaZ)) (i : Nat) : Option AaZ:=(O[i]?).getD none
structure ArB (E : Value→Ending) (P : Program) (f : FuncId) (args : List AV) (O : List AaZ) (r : AV) (O' : List (Option AaZ)) : Prop where
 len : O.length≤O'.length
 ga : gdL (· < O.length) args
 gO : ∀ o ∈ O,gdO (· < O.length) o
 gr : gd (fun i=>(nth O' i).isSome=true) r
 gO' : ∀ o,some o ∈ O'→gdO (fun i=>(nth O' i).isSome=true) o
 call : ∀ (c : Cx) (w : World) (vs : Array Value),AcX c (fun i=>O[i]?) w→AcF c O.length→AaD c args vs.toList →
  Calls P f vs w fun e w'=>∃ v c' H',e=E v∧AcX c' H' w'∧(∀ i,i<O'.length→H' i=nth O' i)∧Rep c' r v∧Aeu c w c' w'
abbrev Aab (P : Program) (f : FuncId) (args : List AV) (O : List AaZ) (r : AV) (O' : List (Option AaZ)) : Prop:=ArB .returned P f args O r O'
theorem Aab.enter {P : Program} {f : FuncId} {fn : Func} {code : Code} {args : List AV} {O : List AaZ} {r : AV} {O' : List (Option AaZ)} (hf : P.funcs[f]? = some fn) (hb : fn.body=some code) (hm : args.length≤fn.ntmps) (hin : AhY fn.ntmps fn.results.toList=true)
 (len : O.length≤O'.length) (ga : gdL (· < O.length) args) (gO : ∀ o ∈ O,gdO (· < O.length) o) (gr : gd (fun i=>(nth O' i).isSome=true) r) (gO' : ∀ o,some o ∈ O'→gdO (fun i=>(nth O' i).isSome=true) o)
 (h : ∀ (c0 : Cx) (w0 : World) (Q : AcH),AcF c0 O.length→(∀ s H N,Ad2 P s H fn.results.toList r→(∀ i,i<O'.length→H i=nth O' i)→Q .ret s H N∧Q .normal s H N)→AW P fn.ntmps c0 w0 code Q (Aqy args) (fun i=>O[i]?) O.length) : ArB .returned P f args O r O' where
 len:=len
 ga:=ga
 gO:=gO
 gr:=gr
 gO':=gO'
 call:=by
  intro c w vs hr hu ha
  refine Calls.mono (Abs.enter hf hb hm hin hr ha (N:=O.length) hu (fun s H N r'=>r'=r∧∀ i,i<O'.length→H i=nth O' i) (fun Q hQ=>h c w Q hu (fun s H N h1 h2=>hQ s H N r h1 ⟨rfl,h2⟩))) ?_
  intro e w' ⟨v,c',s,H,N,r',he,hr',g,hu',hx,hrr,hH⟩
  subst hrr
  exact ⟨v,c',H,he,hr',hH,hx,g⟩
mutual
inductive Coe (H : Aac) (σ : Nat→Nat) : AV→AV→List Nat→Prop
 | same {x y : AV} (h : x=ren σ y) : Coe H σ x y []
 | flags {nl fl : Bool} {xs : List AV} : Coe H σ (.lst nl fl xs) (.lst false false xs) []
 | lst {id off es len : Nat} {full : Bool} {o : AaZ} {cs xs : List AV} (ho : H id=some o) (hc : o.cs? = some cs) (hel : okEls es xs) (hn : Afk xs) (hl : xs.length=len) (he : AaI xs=(cs.drop off).take (len*es)) : Coe H σ (.slc id off es len full) (.lst false false xs) [id]
 | ptr {id off : Nat} {o : AaZ} {cs ys : List AV} (ho : H id=some o) (hc : o.cs? = some cs) (hn : Afk cs) (hne : cs≠[]) (hy : ys=cs.drop off) : Coe H σ (.ptr id off) (.cptr ys) [id]
 | agg {xs ys : List AV} {T : List Nat} (h : AjI H σ xs ys T) : Coe H σ (.agg xs) (.agg ys) T
inductive AjI (H : Aac) (σ : Nat→Nat) : List AV→List AV→List Nat→Prop
 | nil : AjI H σ [] [] []
 | cons {x y : AV} {xs ys : List AV} {T U : List Nat} (h : Coe H σ x y T) (t : AjI H σ xs ys U) : AjI H σ (x::xs) (y::ys) (T++U)
end
theorem Rep.flags {c : Cx} {nl fl : Bool} {xs : List AV} {v : Value} (h : Rep c (.lst nl fl xs) v) : Rep c (.lst false false xs) v:=by
 simp only [Rep] at h ⊢
 rcases h with h | ⟨_,a,b,off,cap,es,vs,h1,h2,h3,h4,h5⟩
 ·exact .inl h
 ·exact .inr ⟨trivial,a,b,off,cap,es,vs,h1,h2,h3,(fun h=>by cases h),h5⟩
mutual
theorem Coe.rep {H H1 : Aac} {σ : Nat→Nat} {c c0 : Cx} {w : World} {S : Nat→Prop} (hr : AcX c H1 w) (hι : ∀ id,S id→c0.ι id=c.ι (σ id)) (hh : c0.h=c.h) (hz : ∀ b,c.Z b→c0.Z b) :
 ∀ {x y : AV} {T : List Nat} {v : Value},(∀ id ∈ T,H1 id=H id)→(∀ id ∈ T,∀ b p q,c.ι id = .live b p q→c0.Z b)→gd S y→Coe H σ x y T→Rep c x v→Rep c0 y v
 | _,y,_,v,hT,hl,hg,.same h,hv=>by
  subst h
  exact Rep.pull hι hz (fun b _ o v h=>by rw [hh]; exact h) y v hg hv
 | .lst nl fl xs,_,_,v,hT,hl,hg,.flags,hv=>by
  exact Rep.noIds (Rep.flags hv) (by simpa [noIds,idsIn,gd] using hg) hz (fun b _ o v h=>by rw [hh]; exact h)
 | .slc id off es len full,.lst _ _ xs,_,v,hT,hl,hg,.lst (o:=o) (cs:=cs) ho hc hel hn hlen he,hv=>by
  have hcell : ∀ b,c.Z b→∀ o v,Aa6 c.h b o=some v→Aa6 c0.h b o=some v:=fun b _ o v h=>by rw [hh]; exact h
  have ho1:=(hT id (by simp)).trans ho
  rcases AdX hr ho1 with ⟨hemp,rfl⟩ | ⟨b,base,sz,hlive,hor⟩
  ·simp only [Rep] at hv
   obtain ⟨rfl,a0,rfl⟩:=hv.2.2.1 hemp
   have : xs = []:=List.length_eq_zero_iff.1 hlen
   subst this
   exact Akf _ _ _
  ·obtain ⟨cap,p,rfl,hp,h1,h2,h3,h4⟩:=Abd hv hlive
   obtain ⟨cur,Ty,fr,vs,k1,k2,k3,k4,k5,k6⟩:=hor.cs hc
   have hbz : c0.Z b:=hl id (by simp) b base sz hlive
   have hr2 : AaD c (AaI xs) ((vs.drop off).take (len*es)):=by rw [he]; exact (k5.drop off).take _
   have hr3 : AaD c0 (AaI xs) ((vs.drop off).take (len*es)):=by
    refine hr2.noIds ?_ hz hcell
    refine Aby.2 fun z hz'=>?_
    simp only [AaI,List.mem_flatMap] at hz'
    obtain ⟨u,hu,hz'⟩:=hz'
    have hu':=Aby.1 hn u hu
    cases u <;> simp only [AV.cells,List.mem_singleton] at hz' <;> first | (subst hz'; exact hu') | skip
    exact Aby.1 (by simpa [idsIn] using hu') z hz'
   obtain ⟨us,u1,u2,u3⟩:=Ajg hel.1 hr3 (AaD.oneCell hr3 (List.all_eq_true.2 hel.2))
   have hul : us.length=len:=by rw [u1.length,hlen]
   subst hul
   simp only [Rep]
   refine .inr ⟨trivial,_,b,p,cap,es,us,rfl,h1,h2,(fun h=>by cases h),fun _=>⟨rfl,hbz⟩,?_,u1⟩
   by_cases hcap : 0<cap
   ·rw [Ab5 u3,u2,hp hcap,hh]
    exact (k6.drop off).take _
   ·have : us = []:=List.length_eq_zero_iff.1 (by omega)
    subst this
    intro i hi; simp at hi
 | .ptr id off,.cptr ys,_,v,hT,hl,hg,.ptr (o:=o) (cs:=cs) ho hc hn hne hy,hv=>by
  subst hy
  have hcell : ∀ b,c.Z b→∀ o v,Aa6 c.h b o=some v→Aa6 c0.h b o=some v:=fun b _ o v h=>by rw [hh]; exact h
  have ho1:=(hT id (by simp)).trans ho
  have hng : o ≠ .grow []:=by
   intro e; subst e; simp only [AaZ.cs?,Option.some.injEq] at hc; exact hne hc.symm
  obtain ⟨b,base,sz,hlive,hor⟩:=hr.live_of ho1 hng
  obtain ⟨cur,Ty,fr,vs,k1,k2,k3,k4,k5,k6⟩:=hor.cs hc
  have:=Ab3 hv hlive
  subst this
  simp only [Rep]
  refine ⟨b,base+off,vs.drop off,rfl,hl id (by simp) b base sz hlive,by rw [hh]; exact k6.drop off,?_⟩
  refine (k5.drop off).noIds ?_ hz hcell
  exact Aby.2 fun z hz'=>Aby.1 hn z (List.mem_of_mem_drop hz')
 | _,_,_,v,hT,hl,hg,.agg h,hv=>by
  simp only [Rep,gd] at hv hg ⊢
  obtain ⟨vs,hvs,hrv⟩:=hv
  exact ⟨vs,hvs,AjI.rep hr hι hh hz hT hl hg h hrv⟩
theorem AjI.rep {H H1 : Aac} {σ : Nat→Nat} {c c0 : Cx} {w : World} {S : Nat→Prop} (hr : AcX c H1 w) (hι : ∀ id,S id→c0.ι id=c.ι (σ id)) (hh : c0.h=c.h) (hz : ∀ b,c.Z b→c0.Z b) :
 ∀ {xs ys : List AV} {T : List Nat} {vs : List Value},(∀ id ∈ T,H1 id=H id)→(∀ id ∈ T,∀ b p q,c.ι id = .live b p q→c0.Z b)→gdL S ys→AjI H σ xs ys T→AaD c xs vs→AaD c0 ys vs
 | _,_,_,vs,hT,hl,hg,.nil,hv=>by simpa [AaD] using hv
 | _,_,_,vs,hT,hl,hg,.cons hx ht,hv=>by
  simp only [AaD,gdL] at hv hg ⊢
  obtain ⟨v,rest,rfl,h1,h2⟩:=hv
  exact ⟨v,rest,rfl,Coe.rep hr hι hh hz (fun id hid=>hT id (by simp [hid])) (fun id hid=>hl id (by simp [hid])) hg.1 hx h1,
   AjI.rep hr hι hh hz (fun id hid=>hT id (by simp [hid])) (fun id hid=>hl id (by simp [hid])) hg.2 ht h2⟩
end
mutual
def fresh : AV→Bool
 | .lst nl _ _=>nl
 | .cptr _=>false
 | .agg cs=>Ac7 cs
 | .tup cs=>Ac7 cs
 | .fn _ cs=>Ac7 cs
 | .ifc _ x=>fresh x
 | .nn _=>false
 | .rm _=>false
 | _=>true
def Ac7 : List AV→Bool
 | []=>true
 | x::xs=>fresh x&&Ac7 xs
end
def Ae6 : AaZ→Bool
 | .cells cs=>Ac7 cs
 | .grow cs=>Ac7 cs
 | .mp es=>es.all fun p=>fresh p.1&&fresh p.2
 | .it _ _=>true
mutual
theorem Rep.fresh {c c' : Cx} (hι : c'.ι=c.ι) : ∀ (x : AV) (v : Value),Abs.fresh x=true→Rep c x v→Rep c' x v
 | .ptr id off,v,i,h=>by simp only [Rep] at *; rw [hι]; exact h
 | .slc id off es len f,v,i,h=>by simp only [Rep] at *; rw [hι]; exact h
 | .map id,v,i,h=>by simp only [Rep] at *; rw [hι]; exact h
 | .agg cs,v,i,h=>by
  simp only [Rep,Abs.fresh] at *
  obtain ⟨vs,hv,hr⟩:=h
  exact ⟨vs,hv,AaD.fresh hι cs _ i hr⟩
 | .tup cs,v,i,h=>by
  simp only [Rep,Abs.fresh] at *
  obtain ⟨vs,hv,hr⟩:=h
  exact ⟨vs,hv,AaD.fresh hι cs _ i hr⟩
 | .fn f cs,v,i,h=>by
  simp only [Rep,Abs.fresh] at *
  obtain ⟨vs,hv,hr⟩:=h
  exact ⟨vs,hv,AaD.fresh hι cs _ i hr⟩
 | .ifc t x,v,i,h=>by
  simp only [Rep,Abs.fresh] at *
  obtain ⟨u,hv,hr⟩:=h
  exact ⟨u,hv,Rep.fresh hι x u i hr⟩
 | .undef,_,_,_=>by simp [Rep]
 | .skip,_,_,h=>by simpa [Rep] using h
 | .bool _,_,_,h=>by simpa [Rep] using h
 | .int _ _,_,_,h=>by simpa [Rep] using h
 | .str _,_,_,h=>by simpa [Rep] using h
 | .lst a b xs,v,i,h=>by
  simp only [Abs.fresh] at i
  subst i
  simp only [Rep,Bool.true_eq_false,false_and,or_false] at h ⊢
  exact h
 | .cptr cs,v,i,h=>by simp [Abs.fresh] at i
 | .nilptr,_,_,h=>by simpa [Rep] using h
 | .nilfn,_,_,h=>by simpa [Rep] using h
 | .nilmap,_,_,h=>by simpa [Rep] using h
 | .nilifc,_,_,h=>by simpa [Rep] using h
 | .nn x,v,i,h=>by simp [Abs.fresh] at i
 | .rm x,v,i,h=>by simp [Abs.fresh] at i
theorem AaD.fresh {c c' : Cx} (hι : c'.ι=c.ι) : ∀ (xs : List AV) (vs : List Value),Ac7 xs=true→AaD c xs vs→AaD c' xs vs
 | [],_,_,h=>by simpa [AaD] using h
 | x::xs,vs,i,h=>by
  simp only [AaD,Ac7,Bool.and_eq_true] at *
  obtain ⟨v,rest,hv,h1,h2⟩:=h
  exact ⟨v,rest,hv,Rep.fresh hι x v i.1 h1,AaD.fresh hι xs rest i.2 h2⟩
end
theorem AbQ.fresh {c c' : Cx} (hι : c'.ι=c.ι) (hh : c'.h=c.h) {o : AaZ} {b base sz : Nat} (i : Ae6 o=true) (H : AbQ c o b base sz) : AbQ c' o b base sz:=by
 cases o with
 | cells cs =>
  obtain ⟨cur,T,fr,vs,h1,h2,h3,h4,h5,h6⟩:=H
  exact ⟨cur,T,fr,vs,by rw [hh]; exact h1,h2,h3,h4,AaD.fresh hι _ _ i h5,by rw [hh]; exact h6⟩
 | grow cs =>
  obtain ⟨hne,cur,T,fr,vs,h1,h2,h3,h4,h5,h6⟩:=H
  exact ⟨hne,cur,T,fr,vs,by rw [hh]; exact h1,h2,h3,h4,AaD.fresh hι _ _ i h5,by rw [hh]; exact h6⟩
 | mp es =>
  obtain ⟨ents,clock,h1,h2,h3⟩:=H
  simp only [Ae6,List.all_eq_true,Bool.and_eq_true] at i
  exact ⟨ents,clock,by rw [hh]; exact h1,h2,fun j a k=>⟨Rep.fresh hι _ _ (i _ (List.getElem_mem k)).1 (h3 j a k).1,Rep.fresh hι _ _ (i _ (List.getElem_mem k)).2 (h3 j a k).2⟩⟩
 | it _ _=>exact ⟨H.1,H.2.1,by rw [hh]; exact H.2.2⟩
end Go.Abs
