import Derived.Test.YtomgdcnbceiggaaSrzLay15
set_option linter.unusedVariables false
set_option linter.unusedSimpArgs false
namespace Go.Abs
open Go.RowKit (Below)
section
variable {P : Program} {o : Oper} {s : Nat→AV} {H : Aae} {N : Nat} {K : CK} {mu : List Nat}
def Aog (P : Program) (o : Oper) (s : Nat→AV) (H : Aae) (N : Nat) (K : CK) : Prop:=∃ x H' N' T W,Aar P o s H N x H' N' T W∧K x H' N' T W
theorem Abt {α : Type} {a : Array α} {l : List α} (h : a.toList=l) : a=l.toArray:=by cases a; simpa using h
theorem Aib (hc : Aag o=true) (m : Bool) (b : Builtin) (args : Array Operand) (ts : Array TypeId) (ho : o.op = .call { callee := .builtin b,args:=args,argTypes:=ts })
 (h : Ags P m b ts.toList (args.toList.map (ev s)) H N K) : Aog P o s H N K:=by
 generalize hx : args.toList.map (ev s)=xs at h
 generalize ht : ts.toList=tl at h
 have one : ∀ y,[y]=xs→∃ z,args = #[z]∧ev s z=y:=by
  intro y h; rw [← hx] at h
  cases ha : args.toList with
  | nil=>simp [ha] at h
  | cons z l =>
   cases l with
   | nil=>simp [ha] at h; exact ⟨z,Abt ha,h.symm⟩
   | cons=>simp [ha] at h
 have two : ∀ y y',[y,y']=xs→∃ z z',args = #[z,z']∧ev s z=y∧ev s z'=y':=by
  intro y y' h; rw [← hx] at h
  match ha : args.toList,h with
  | [z,z'],h=>simp at h; exact ⟨z,z',Abt ha,h.1.symm,h.2.symm⟩
  | [],h=>simp at h
  | [_],h=>simp at h
  | _::_::_::_,h=>simp at h
 unfold Ags at h
 split at h
 ·rename_i t nl fl ys
  obtain ⟨z,rfl,hz⟩:=one _ rfl
  have:=Abt ht; subst this
  obtain ⟨e,he⟩:=AjL h.1
  exact ⟨_,_,_,_,_,Alj hc t e z ho nl fl ys hz he,h.2⟩
 ·rename_i t b
  obtain ⟨z,rfl,hz⟩:=one _ rfl
  have:=Abt ht; subst this
  exact ⟨_,_,_,_,_,Alh hc t z ho b hz (Adb h.1),h.2⟩
 ·rename_i t id off es len full
  obtain ⟨z,rfl,hz⟩:=one _ rfl
  have:=Abt ht; subst this
  obtain ⟨e,he⟩:=AjL h.1
  obtain ⟨o',ho'⟩:=h.2.2.1
  exact ⟨_,_,_,_,_,Ali hc t e z ho id off es len full hz h.2.1 o' ho' he,h.2.2.2⟩
 ·rename_i k a k' b
  obtain ⟨z,z',rfl,hz,hz'⟩:=two _ _ rfl
  obtain ⟨rfl,h⟩:=h
  exact ⟨_,_,_,_,_,An0 hc ts z z' ho k a b hz hz',h⟩
 ·rename_i k a k' b
  obtain ⟨z,z',rfl,hz,hz'⟩:=two _ _ rfl
  obtain ⟨rfl,h⟩:=h
  exact ⟨_,_,_,_,_,Anz hc ts z z' ho k a b hz hz',h⟩
 ·rename_i t t' nl fl ys z
  obtain ⟨y,z',rfl,hy,hz⟩:=two _ _ rfl
  have:=Abt ht; subst this
  obtain ⟨h2,h⟩:=h
  split at h
  ·rcases h with ⟨hfl,hnl,h⟩ | ⟨hnf,h⟩
   ·split at h
    ·rename_i e es by_ hE
     obtain ⟨h3,h4,h⟩:=h
     obtain ⟨zs,T,k1,k2,⟨k0,k3,k4,k5,k6,k7⟩,k8⟩:=Ad5 h
     refine ⟨_,_,_,_,_,AjD hc t t' y z' ho nl fl ys hy hfl e es by_ hE h2 zs T ⟨by rw [hz]; exact k1,k3.1,k3.2,?_,k2⟩ h3 k0 h4.1 h4.2 k5 k6,k7⟩
     intro hs
     rw [hz] at hs
     obtain ⟨id,rfl⟩:=k8 hs
     exact List.all_eq_true.1 (k4 (by simp))
    ·exact h.elim
   split at h
   ·rename_i e es by_ hE
    obtain ⟨h3,h⟩:=h
    obtain ⟨zs,T,k1,k2,⟨k3,k4,k5,k6,k7⟩,k8⟩:=Ad5 h
    refine ⟨_,_,_,_,_,AjB hc t t' y z' ho nl fl ys hy hnf e es by_ hE h2 zs T ⟨by rw [hz]; exact k1,k3.1,k3.2,?_,k2⟩ h3 k5 k6,k7⟩
    intro hs
    rw [hz] at hs
    obtain ⟨id,rfl⟩:=k8 hs
    exact List.all_eq_true.1 (k4 (by simp))
   ·exact h.elim
  ·obtain ⟨h1,h⟩:=h
   split at h
   ·rename_i e es by_ hE
    obtain ⟨h3,h⟩:=h
    obtain ⟨zs,T,k1,k2,⟨k3,k4,k5,k6,k7⟩,k8⟩:=Ad5 h
    refine ⟨_,_,_,_,_,AjC hc t t' y z' ho nl fl ys hy h1 e es by_ hE h2 zs T ⟨by rw [hz]; exact k1,k3.1,k3.2,?_,k2⟩ h3.1 h3.2 k5 k6,k7⟩
    intro hs
    rw [hz] at hs
    obtain ⟨id,rfl⟩:=k8 hs
    exact List.all_eq_true.1 (k4 (by simp))
   ·exact h.elim
 ·rename_i t t' id off es len full z
  obtain ⟨y,z',rfl,hy,hz⟩:=two _ _ rfl
  have:=Abt ht; subst this
  obtain ⟨h0,h2,h⟩:=h
  split at h
  ·rename_i e es' by_ obj hE hob
   split at h
   ·rename_i cs hcs
    obtain ⟨rfl,h3,h4,h5,h6,h⟩:=h
    obtain ⟨zs,T,k1,k2,⟨k3,k4,k5,k6,k7⟩,k8⟩:=Ad5 h
    refine ⟨_,_,_,_,_,AjA hc t t' y z' ho id off es' len full hy h0 obj hob cs hcs h4 h5 e by_ hE h2 zs T ⟨by rw [hz]; exact k1,k3.1,k3.2,?_,k2⟩ (List.all_eq_true.1 h6) h3 k5 k6,k7⟩
    intro hs
    rw [hz] at hs
    obtain ⟨id,rfl⟩:=k8 hs
    exact List.all_eq_true.1 (k4 (by simp))
   ·exact h.elim
  ·exact h.elim
 ·rename_i t id off es len full
  obtain ⟨z,rfl,hz⟩:=one _ rfl
  have:=Abt ht; subst this
  split at h
  ·rename_i e es' by_ hE
   split at h
   ·rename_i x hx0
    obtain ⟨h0,obj,cs,e1,e2,h1,rfl,h2,h3,h4,h⟩:=Ab6 h
    exact ⟨_,_,_,_,_,Aln hc t z ho id off es' len full hz h0 obj e1 cs e2 h1 e by_ hE x hx0 h2 h3 h4,h⟩
   ·exact h.elim
  ·exact h.elim
 ·rename_i t t' id off es len full z
  obtain ⟨y,z',rfl,hy,hz⟩:=two _ _ rfl
  have:=Abt ht; subst this
  split at h
  ·rename_i e es' by_ hE
   obtain ⟨h0,obj,cs,e1,e2,h1,rfl,h2,h⟩:=Ab6 h
   obtain ⟨zs,T,k1,k2,⟨k3,k4,k5,k6⟩,k8⟩:=Ad5 h
   refine ⟨_,_,_,_,_,Am0 hc t t' y z' ho id off es' len full hy h0 obj e1 cs e2 h1 e by_ hE h2 zs T (by rw [hz]; exact k1) k2 k3.1 k3.2 ?_ k5,k6⟩
   rintro ⟨i1,i2,i3,i4,i5,hs⟩
   rw [hz] at hs; subst hs
   obtain ⟨id,rfl⟩:=k8 ⟨_,_,_,_,_,rfl⟩
   exact List.all_eq_true.1 (k4 (by simp))
  ·exact h.elim
 ·rename_i t t' id z
  obtain ⟨y,z',rfl,hy,hz⟩:=two _ _ rfl
  have:=Abt ht; subst this
  obtain ⟨h0,h⟩:=h
  split at h
  ·rename_i es kd zv e1 e2
   subst hz
   exact ⟨_,_,_,_,_,Akz hc t t' y z' ho id hy h0 es e1 kd zv e2 h.1 h.2.1,h.2.2⟩
  ·exact h.elim
 ·exact h.elim
theorem AmR (hc : Aag o=true) (h : aop P mu o s H N K) : Aog P o s H N K:=by
 unfold aop at h
 split at h
 ·rename_i y ho; exact ⟨_,_,_,_,_,AkU hc y (.inl ho),h⟩
 ·rename_i y ho; exact ⟨_,_,_,_,_,AkU hc y (.inr ho),h⟩
 ·rename_i t x y ho
  split at h
  ·rename_i b hb; exact ⟨_,_,_,_,_,Amy hc t x y ho b hb,h⟩
  ·exact h.elim
 ·rename_i op xt x y yt ho
  split at h
  ·rename_i r hr; exact ⟨_,_,_,_,_,An2 hc op xt yt x y ho r hr h.1,h.2⟩
  ·exact h.elim
 ·rename_i op xt x ho
  split at h
  ·rename_i r hr; exact ⟨_,_,_,_,_,Apa hc op xt x ho r hr,h⟩
  ·exact h.elim
 ·rename_i t y ho
  split at h
  ·rename_i cs hy
   split at h
   ·rename_i x hx; exact ⟨_,_,_,_,_,Aky hc t y ho cs hy x hx,h⟩
   ·exact h.elim
  ·rename_i id off hy
   obtain ⟨hid,obj,cs,hob,hcs,h⟩:=Ab6 h
   split at h
   ·rename_i x hx; exact ⟨_,_,_,_,_,Akx hc t y ho id off hy hid obj hob cs hcs x hx,h⟩
   ·exact h.elim
  ·exact h.elim
 ·rename_i t y z ho
  split at h
  ·rename_i id off hy
   obtain ⟨hid,obj,cs,hob,hcs,h0,h1,h2,h⟩:=Ab6 h
   exact ⟨_,_,_,_,_,Ale hc t y z ho id off hy hid obj hob cs hcs h1 h2 h0,h⟩
  ·exact h.elim
 ·rename_i t y ho; exact ⟨_,_,_,_,_,An1 hc t y ho h.1,h.2⟩
 ·rename_i t ho
  split at h
  ·rename_i z hz; exact ⟨_,_,_,_,_,Alp t ho z hz,h⟩
  ·exact h.elim
 ·rename_i t y f ho
  split at h
  ·rename_i d hd
   split at h
   ·rename_i cs hy; exact ⟨_,_,_,_,_,Ajr hc t y f ho cs hy d hd,h⟩
   ·rename_i id off hy
    obtain ⟨hid,obj,cs,hob,hcs,h0,h⟩:=Ab6 h
    exact ⟨_,_,_,_,_,Ajq hc t y f ho id off hy hid obj hob (Ack hcs h0) d hd,h⟩
   ·exact h.elim
  ·exact h.elim
 ·rename_i y ho
  split at h
  ·rename_i cs hy; exact ⟨_,_,_,_,_,Ahd hc y ho cs hy,h⟩
  ·rename_i f cs hy; exact ⟨_,_,_,_,_,Ahc hc y ho f cs hy,h⟩
  ·rename_i id off hy
   obtain ⟨hid,obj,cs,hob,hcs,h0,h⟩:=Ab6 h
   exact ⟨_,_,_,_,_,Ahb hc y ho id off hy hid obj hob (Ack hcs h0),h⟩
  ·exact h.elim
 ·rename_i t y z ho
  unfold Arj at h
  split at h
  ·rename_i k i hz
   split at h
   ·rename_i nl fl xs hy
    split at h
    ·rename_i e es by_ hE
     obtain ⟨h0,h1,h2,h3,h⟩:=h
     exact ⟨_,_,_,_,_,Ajn hc t y z ho nl fl xs hy k i hz e es by_ hE h0 h1 _ (by simp [h1]) h2 h3,h⟩
    ·exact h.elim
   ·rename_i id off es len full hy
    split at h
    ·rename_i e es' by_ hE
     obtain ⟨hid,obj,cs,hob,hcs,h0,rfl,h1,h2,h⟩:=Ab6 h
     exact ⟨_,_,_,_,_,Ajm hc t y z ho id off _ len full hy hid obj hob (Ack hcs h0) k i hz e by_ hE h1 h2,h⟩
    ·exact h.elim
   ·rename_i cs hy
    split at h
    ·rename_i m es hE; exact ⟨_,_,_,_,_,Ai6 hc t y z ho cs hy k i hz m es hE h.1 h.2.1,h.2.2⟩
    ·exact h.elim
   ·rename_i id off hy
    split at h
    ·rename_i m es hE
     obtain ⟨hid,obj,cs,hob,hcs,h0,h1,h2,h⟩:=Ab6 h
     exact ⟨_,_,_,_,_,Ai5 hc t y z ho id off hy hid obj hob (Ack hcs h0) k i hz m es hE h1 h2,h⟩
    ·exact h.elim
   ·exact h.elim
  ·exact h.elim
 ·rename_i t y z ho
  split at h
  ·rename_i b k i hy hz
   exact ⟨_,_,_,_,_,Ajo hc t y z ho b hy k i hz (Adb h.1) h.2.1 h.2.2.1,h.2.2.2⟩
  ·rename_i xs k i hy hz
   split at h
   ·rename_i m kk hE
    obtain ⟨e,hu,ha,hs⟩:=AnI hE
    exact ⟨_,_,_,_,_,Ajp hc t y z ho xs hy k i hz m e hu ha hs h.1 h.2.1 _ (by rw [List.getElem?_eq_getElem h.2.2.1]; rfl),h.2.2.2⟩
   ·exact h.elim
  ·exact h.elim
 ·rename_i y i ho
  split at h
  ·rename_i xs hy
   split at h
   ·rename_i x hx; exact ⟨_,_,_,_,_,Ajs hc y i ho xs hy x hx,h⟩
   ·exact h.elim
  ·exact h.elim
 ·rename_i f first caps ho
  have : first = #[]:=Array.size_eq_zero_iff.1 h.1
  subst this
  exact ⟨_,_,_,_,_,Ai4 hc f caps ho,h.2⟩
 ·rename_i t y l hh m ho
  split at h
  ·rename_i nl fl xs hy
   split at h
   ·rename_i e es by_ hE
    obtain ⟨h0,h⟩:=h
    obtain ⟨lo,hlo,h⟩:=AfO h
    obtain ⟨hi,hhi,hm,h1,h2,h⟩:=AfO h
    exact ⟨_,_,_,_,_,Ajk hc t y l hh m ho nl fl xs hy e es by_ hE h0.1 lo hi hlo hhi hm h1 h2,h⟩
   ·exact h.elim
  ·rename_i b hy
   obtain ⟨h0,rfl,h⟩:=h
   obtain ⟨lo,hlo,h⟩:=AfO h
   obtain ⟨hi,hhi,h1,h2,h⟩:=AfO h
   exact ⟨_,_,_,_,_,Aji hc t y l hh ho b hy (Adb h0) lo hi hlo hhi h1 h2,h⟩
  ·rename_i id off es len full hy
   split at h
   ·rename_i e es' by_ hE
    obtain ⟨hid,obj,cs,hob,hcs,h0,rfl,h⟩:=Ab6 h
    obtain ⟨lo,hlo,h⟩:=AfO h
    obtain ⟨hi,hhi,hm,h1,h2,h⟩:=AfO h
    exact ⟨_,_,_,_,_,Ajj hc t y l hh m ho id off _ len full hy hid obj hob (Ack hcs h0) e by_ hE lo hi hlo hhi hm h1 h2,h⟩
   ·exact h.elim
  ·exact h.elim
 ·rename_i t n parts ho
  split at h
  ·rename_i e es by_ hE
   obtain ⟨h1,h2,h3,h4,h5,h⟩:=h
   split at h
   ·exact ⟨_,_,_,_,_,Agg hc t n parts ho e es by_ hE h1 h2 h3.1 h3.2 h4 h5,h⟩
   ·exact ⟨_,_,_,_,_,Agh hc t n parts ho e es by_ hE h1 h2 h3.1 h3.2 h4 h5,h⟩
  ·exact h.elim
 ·rename_i t y z ho
  split at h
  ·rename_i e es by_ hE
   split at h
   ·rename_i k m k' m' x hy hz hx
    obtain ⟨rfl,h0,h1,h2,h⟩:=h
    split at h
    ·exact ⟨_,_,_,_,_,Ag8 hc t y z ho e es by_ hE k k' _ hy hz h0 h1 h2 x hx,h⟩
    ·exact ⟨_,_,_,_,_,Ag9 hc t y z ho e es by_ hE k k' _ hy hz h0 h1 h2 x hx,h⟩
   ·exact h.elim
  ·exact h.elim
 ·rename_i t parts ho
  obtain ⟨h0,h⟩:=h
  split at h
  ·rename_i cs hb; exact ⟨_,_,_,_,_,Alo hc t parts ho h0 cs hb,h⟩
  ·exact h.elim
 ·rename_i src dst y ho
  split at h
  ·rename_i k n hy
   obtain ⟨h0,h⟩:=h
   split at h
   ·rename_i k' hk; exact ⟨_,_,_,_,_,Ai8 hc src dst y ho k k' n hy h0 (Ak8 hk),h⟩
   ·exact h.elim
  ·rename_i b hy
   obtain ⟨h0,h1,h2,h⟩:=h
   obtain ⟨e,he,he2⟩:=Afy h1
   split at h2
   ·rename_i e' es by_ hE
    subst h2
    obtain ⟨i,hu,_⟩:=AbP hE
    rw [he] at hu
    simp only [Option.some.injEq,Go.TypeDesc.slice.injEq] at hu
    subst hu
    split at h
    ·exact ⟨_,_,_,_,_,AiT hc src dst e by_ y ho (Adb h0) hE he2 b hy,h⟩
    ·exact ⟨_,_,_,_,_,Ai9 hc src dst e by_ y ho (Adb h0) hE he2 b hy,h⟩
   ·exact h2.elim
  ·rename_i id off es len full hy
   rcases h with ⟨rfl,rfl,h1,h⟩ | ⟨h0,h1,h⟩
   ·obtain ⟨e,he,he2⟩:=Afy h1
    obtain ⟨hid,obj,cs,hob,hcs,hne,h⟩:=Ab6 h
    exact ⟨_,_,_,_,_,Ai7 hc src e y ho he he2 id off len full hy hid obj hob (Ack hcs hne) cs hcs,h⟩
   ·obtain ⟨e,he,he2⟩:=Afy h0
    obtain ⟨ys,T,k1,k2,⟨k3,k4⟩,k5⟩:=Ad5 h
    exact ⟨_,_,_,_,_,Ahr hc src dst e y ho he he2 (Adb h1) ys T (by rw [hy]; exact k1) (fun b hb=>by rw [hy] at hb; cases hb) k3 k2,k4⟩
  ·rename_i hn1 hn2 hn3
   obtain ⟨h0,h1,h⟩:=h
   obtain ⟨e,he,he2⟩:=Afy h0
   obtain ⟨ys,T,k1,k2,⟨k3,k4⟩,k5⟩:=Ad5 h
   exact ⟨_,_,_,_,_,Ahr hc src dst e y ho he he2 (Adb h1) ys T k1 (fun b hb=>hn2 b hb) k3 k2,k4⟩
 ·rename_i t y f ho
  split at h
  ·rename_i cs hy
   split at h
   ·rename_i x hx; exact ⟨_,_,_,_,_,Alk hc t y f ho cs hy x hx,h⟩
   ·exact h.elim
  ·exact h.elim
 ·rename_i t ho; exact ⟨_,_,_,_,_,Ajl t ho,h⟩
 ·rename_i t y ho
  split at h
  ·rename_i b hy; exact ⟨_,_,_,_,_,Alf hc t y ho b hy (Adb h.1),h.2⟩
  ·exact h.elim
 ·rename_i y ho
  split at h
  ·rename_i id hy
   obtain ⟨hid,h⟩:=h
   split at h
   ·rename_i b p hob
    split at h
    ·rename_i hp; exact ⟨_,_,_,_,_,Amz hc y ho id hy hid b p hob hp h.1,h.2⟩
    ·rename_i hp; exact ⟨_,_,_,_,_,Ai3 hc y ho id hy hid b p hob hp,h⟩
   ·exact h.elim
  ·exact h.elim
 ·rename_i t y z ok ho
  split at h
  ·rename_i id hy
   obtain ⟨hid,h⟩:=h
   split at h
   ·rename_i es kd zv hob ht
    refine ⟨_,_,_,_,_,Akw hc t y z ok ho id hy hid es hob kd zv ht h.1 h.2.1,?_⟩
    have h:=h.2.2
    cases ok
    ·simpa [AjJ] using h
    ·simpa [AjJ] using h
   ·exact h.elim
  ·exact h.elim
 ·rename_i t y z v ho
  split at h
  ·rename_i id hy
   obtain ⟨hid,h⟩:=h
   split at h
   ·rename_i es kd zv hob ht
    exact ⟨_,_,_,_,_,Afu hc t y z v (.inl ho) id hy hid es hob kd zv ht h.1 h.2.1,h.2.2⟩
   ·exact h.elim
  ·exact h.elim
 ·rename_i t y z v ho
  split at h
  ·rename_i id hy
   obtain ⟨hid,h⟩:=h
   split at h
   ·rename_i es kd zv hob ht
    exact ⟨_,_,_,_,_,Afu hc t y z v (.inr ho) id hy hid es hob kd zv ht h.1 h.2.1,h.2.2⟩
   ·exact h.elim
  ·exact h.elim
 ·rename_i c ho
  split at h
  ·rename_i b hb
   exact Aib hc _ b c.args c.argTypes (by rw [ho]; cases c; simp_all) h
  ·rename_i g hg
   split at h
   ·rename_i f caps hf
    obtain ⟨x,H',N',T,W,h1,h2⟩:=h
    exact ⟨x,H',N',T,W,h1 o s g c.args c.argTypes caps hc (by rw [ho]; cases c; simp_all) hf rfl,h2⟩
   ·exact h.elim
  ·exact h.elim
 ·exact h.elim
def oCs (o : Option Aaq) : Option (Aaq×List AV):=o.bind fun o=>o.cs?.map fun cs=>(o,cs)
@[simp] theorem Apf (cs : List AV) : oCs (some (.cells cs))=some (.cells cs,cs):=rfl
@[simp] theorem AqX (cs : List AV) : oCs (some (.grow cs))=some (.grow cs,cs):=rfl
theorem Acg {H : Aae} {N id : Nat} {o : Aaq} {cs : List AV} (h : oCs (H id)=some (o,cs)) {k : Aaq→List AV→Prop} (hN : id<N) (hk : k o cs) : Aek H N id k:=by
 unfold oCs at h
 cases hh : H id with
 | none=>simp [hh] at h
 | some o' =>
  simp only [hh,Option.bind_some,Option.map_eq_some_iff,Prod.mk.injEq] at h
  obtain ⟨cs',h1,rfl,rfl⟩:=h
  refine ⟨hN,?_⟩
  simp only [hh,h1]; exact hk
def AoO (K : CK) (H : Aae) (N : Nat) (x y : AV) : AV→Prop
 | .bool b=>K (Ai1 b x y) H N [] []
 | _=>False
def Al8 (K : CK) (H : Aae) (N : Nat) (T : List Nat) : Option AV→Prop
 | some r=>K r H N T []
 | none=>False
def AmE (P : Program) (t : TypeId) (K : CK) (H : Aae) (N id off : Nat) : Option (Aaq×List AV)→Prop
 | some (_,cs)=>id<N∧Al8 K H N [id] (Aeo P t (cs.drop off))
 | none=>False
def AoR (P : Program) (t : TypeId) (K : CK) (H : Aae) (N : Nat) : AV→Prop
 | .cptr cs=>Al8 K H N [] (Aeo P t cs)
 | .ptr id off=>AmE P t K H N id off (oCs (H id))
 | _=>False
def Aj5 (P : Program) (t : TypeId) (z : AV) (K : CK) (H : Aae) (N id off : Nat) : Option (Aaq×List AV)→Prop
 | some (obj,cs)=>id<N∧cs≠[]∧z.fits P t=true∧off+z.cells.length≤cs.length∧K .skip (upd H id (some (obj.with (AhU cs off z.cells)))) N [id] [id]
 | none=>False
def Al5 (P : Program) (t : TypeId) (z : AV) (K : CK) (H : Aae) (N : Nat) : AV→Prop
 | .ptr id off=>Aj5 P t z K H N id off (oCs (H id))
 | _=>False
def AmN (K : CK) (H : Aae) (N : Nat) : Option (List AV)→Prop
 | some z=>K (.ptr N 0) (upd H N (some (.cells z))) (N+1) [] [N]
 | none=>False
def Af3 (x : AV) (K : CK) (H : Aae) (N id : Nat) : Option (Aaq×List AV)→Prop
 | some (_,cs)=>id<N∧cs≠[]∧K x H N [id] []
 | none=>False
def AmH (K : CK) (H : Aae) (N : Nat) : Option Nat→AV→Prop
 | some d,.cptr cs=>K (.cptr (cs.drop d)) H N [] []
 | some d,.ptr id off=>Af3 (.ptr id (off+d)) K H N id (oCs (H id))
 | _,_=>False
def ArT (K : CK) (H : Aae) (N : Nat) : AV→Prop
 | .cptr cs=>K (.cptr cs) H N [] []
 | .fn f cs=>K (.fn f cs) H N [] []
 | .ptr id off=>Af3 (.ptr id off) K H N id (oCs (H id))
 | _=>False
def ArV (P : Program) (t : TypeId) (K : CK) (H : Aae) (N : Nat) : AV→AV→Option (TypeId×Nat×Nat)→Option (Nat×Nat)→Prop
 | .lst _ _ xs,.int _ i,some (_,es,_),_=>0≤i∧i.toNat<xs.length∧((xs[i.toNat]?).getD .undef).okc=true∧((xs[i.toNat]?).getD .undef).cells.length=es∧K (.cptr ((xs[i.toNat]?).getD .undef).cells) H N [] []
 | .slc id off es len _,.int _ i,some (_,es',_),_=>es'=es∧0≤i∧i.toNat<len∧Af3 (.ptr id (off+i.toNat*es)) K H N id (oCs (H id))
 | .cptr cs,.int _ i,_,some (m,es)=>0≤i∧i<m∧K (.cptr (cs.drop (i.toNat*es))) H N [] []
 | .ptr id off,.int _ i,_,some (m,es)=>0≤i∧i<m∧Af3 (.ptr id (off+i.toNat*es)) K H N id (oCs (H id))
 | _,_,_,_=>False
def AmF (P : Program) (t : TypeId) (K : CK) (H : Aae) (N : Nat) : AV→AV→Option (Nat×Ab5)→Prop
 | .str b,.int _ i,_=>AjK P t=true∧0≤i∧i.toNat<b.size∧K (.int .u8 (b.data.toList.getD i.toNat 0).toNat) H N [] []
 | .agg xs,.int _ i,some (m,_)=>0≤i∧i<m∧i.toNat<xs.length∧K ((xs[i.toNat]?).getD .undef) H N [] []
 | _,_,_=>False
def Aid (i : Nat) (K : CK) (H : Aae) (N : Nat) : AV→Prop
 | .tup xs=>Al8 K H N [] xs[i]?
 | _=>False
def AnF (s : Nat→AV) : Option Operand→Prop
 | none=>True
 | some y=>match ev s y with
  | .int _ n=>0≤n
  | _=>False
def Ahf (s : Nat→AV) (d : Nat) : Option Operand→Nat
 | none=>d
 | some y=>match ev s y with
  | .int _ n=>n.toNat
  | _=>0
theorem Ah1 {s : Nat→AV} {d : Nat} {x : Option Operand} {k : Nat→Prop} (h : AnF s x) (hk : k (Ahf s d x)) : bnd s d x k:=by
 unfold AnF at h; unfold Ahf at hk; unfold bnd
 cases x with
 | none=>exact hk
 | some y =>
  simp only [] at h hk ⊢
  split at h
  ·rename_i hy; simp only [hy] at hk ⊢; exact ⟨h,hk⟩
  ·exact h.elim
def AoN (s : Nat→AV) (l h m : Option Operand) (K : CK) (H : Aae) (N id off es len : Nat) (full : Bool) : Option (Aaq×List AV)→Prop
 | some (_,cs)=>id<N∧cs≠[]∧AnF s l∧AnF s h∧(m=none∨(h.isSome=true∧AcQ s 0 m=some (Ahf s len h)))∧Ahf s 0 l≤Ahf s len h∧Ahf s len h≤len ∧
  K (.slc id (off+Ahf s 0 l*es) es (Ahf s len h-Ahf s 0 l) (m.isSome||(full&&h.isNone))) H N [id] []
 | none=>False
def Al6 (P : Program) (t : TypeId) (s : Nat→AV) (l h m : Option Operand) (K : CK) (H : Aae) (N : Nat) : AV→Option (TypeId×Nat×Nat)→Prop
 | .lst nl fl xs,some (_,es,_)=>okEls es xs∧AnF s l∧AnF s h∧(m=none∨(h.isSome=true∧AcQ s 0 m=some (Ahf s xs.length h)))∧Ahf s 0 l≤Ahf s xs.length h∧Ahf s xs.length h≤xs.length ∧
  K (.lst nl (m.isSome||(fl&&h.isNone)) ((xs.take (Ahf s xs.length h)).drop (Ahf s 0 l))) H N [] []
 | .str b,_=>AjK P t=true∧m=none∧AnF s l∧AnF s h∧Ahf s 0 l≤Ahf s b.size h∧Ahf s b.size h≤b.size∧K (.str (b.extract (Ahf s 0 l) (Ahf s b.size h))) H N [] []
 | .slc id off es len full,some (_,es',_)=>es'=es∧AoN s l h m K H N id off es len full (oCs (H id))
 | _,_=>False
def AmC (K : CK) (H : Aae) (N : Nat) (x : AV) (y : List AV) (o : Aaq) : Bool→Prop
 | true=>K x (upd H N (some o)) (N+1) [] [N]
 | false=>K (.lst false true y) H N [] []
def ArU (s : Nat→AV) (n : Nat) (parts : List (Nat×Operand)) (mu : Bool) (K : CK) (H : Aae) (N : Nat) : Option (TypeId×Nat×Nat)→Prop
 | some (_,es,_)=>Af0 0 parts=true∧parts.length=n∧okEls es (parts.map fun p=>ev s p.2)∧n*es≤16777216∧0<es ∧
  AmC K H N (.slc N 0 es n true) (parts.map fun p=>ev s p.2) (.cells (AaW (parts.map fun p=>ev s p.2))) mu
 | none=>False
def AmB (P : Program) (mu : Bool) (K : CK) (H : Aae) (N : Nat) : AV→AV→Option (TypeId×Nat×Nat)→Prop
 | .int _ m,.int _ m',some (e,es,by_)=>m'=m∧0≤m∧by_*m.toNat≤281474976710656∧m.toNat≤maxLen∧(Abz P e).isSome=true ∧
  AmC K H N (.slc N 0 es m.toNat true) (List.replicate m.toNat ((Abz P e).getD .undef)) (.cells (AaW (List.replicate m.toNat ((Abz P e).getD .undef)))) mu
 | _,_,_=>False
def AmM (K : CK) (H : Aae) (N : Nat) : Option (List AV)→Prop
 | some cs=>K (.agg cs) H N [] []
 | none=>False
def AmL (n : Int) (K : CK) (H : Aae) (N : Nat) : Option IntKind→Prop
 | some k'=>K (.int k' (k'.wrap n)) H N [] []
 | none=>False
def ArW : Option (TypeId×Nat×Nat)→Prop
 | some (_,es,_)=>es=1
 | none=>False
def AqI (n : Nat) : Option (Aaq×List AV)→Prop
 | some (_,cs)=>n≤cs.length
 | none=>False
theorem AlU {n : Nat} {x : Option (Aaq×List AV)} (h : AqI n x) : ∃ o cs,x=some (o,cs)∧n≤cs.length:=by
 unfold AqI at h; split at h
 ·exact ⟨_,_,rfl,h⟩
 ·exact h.elim
def Amc (H : Aae) (N : Nat) : AV→Prop
 | .lst _ _ _ | .str _=>True
 | .slc id off es len _=>es=1∧id<N∧AqI (off+len) (oCs (H id))
 | _=>False
def Ajd : AV→List Nat
 | .slc id _ _ _ _=>[id]
 | _=>[]
def Aeu (H : Aae) : AV→List AV
 | .lst _ _ ys=>ys
 | .str b=>bytes b.data.toList
 | .slc id off _ len _=>(((oCs (H id)).map (·.2)).getD []).drop off |>.take len
 | _=>[]
theorem Afj {H : Aae} {N : Nat} {X : AV} {k : List AV→List Nat→Prop} (h : Amc H N X) (hk : k (Aeu H X) (Ajd X)) : AmU H N X k:=by
 unfold Amc at h
 split at h
 ·exact hk
 ·exact hk
 ·rename_i id off es len f
  obtain ⟨rfl,h1,hq⟩:=h
  obtain ⟨o,cs,h2,h3⟩:=AlU hq
  simp only [Aeu,h2,Option.map_some,Option.getD_some,Ajd] at hk
  unfold oCs at h2
  cases hh : H id with
  | none=>simp [hh] at h2
  | some o' =>
   simp only [hh,Option.bind_some,Option.map_eq_some_iff,Prod.mk.injEq] at h2
   obtain ⟨cs',q1,rfl,rfl⟩:=h2
   simp only [AmU,hh,q1]
   exact ⟨trivial,h1,h3,hk⟩
 ·exact h.elim
def AmI (K : CK) (H : Aae) (N : Nat) (b : ByteArray) : Bool→Prop
 | true=>K (.slc N 0 1 b.size false) (upd H N (some (.cells (bytes b.data.toList)))) (N+1) [] [N]
 | false=>K (.lst false false (bytes b.data.toList)) H N [] []
def AmK (P : Program) (src : TypeId) (K : CK) (H : Aae) (N id off es len : Nat) (full : Bool) : Option (Aaq×List AV)→Prop
 | some (obj,cs)=>id<N∧cs≠[]∧es=1∧Alx P src=true∧K (.slc id off es len full) (upd H id (some obj)) N [id] [id]
 | none=>False
def AmJ (P : Program) (src dst : TypeId) (K : CK) (H : Aae) (N id off es len : Nat) (full : Bool) : Bool→Prop
 | true=>src=dst∧AmK P src K H N id off es len full (oCs (H id))
 | false=>Alx P src=true∧AjK P dst=true∧Amc H N (.slc id off es len full)∧Ad6 (Aeu H (.slc id off es len full))=true∧K (.str (sOf (Aeu H (.slc id off es len full)))) H N (Ajd (.slc id off es len full)) []
def AoS (P : Program) (mu : Bool) (src dst : TypeId) (K : CK) (H : Aae) (N : Nat) : AV→Prop
 | .int _ n=>(P.underlying src).isSome=true∧AmL n K H N (AhD P dst)
 | .str b=>AjK P src=true∧Alx P dst=true∧ArW (Aa9 P dst)∧AmI K H N b mu
 | .slc id off es len full=>AmJ P src dst K H N id off es len full (decide (src=dst))
 | X=>Alx P src=true∧AjK P dst=true∧Amc H N X∧Ad6 (Aeu H X)=true∧K (.str (sOf (Aeu H X))) H N (Ajd X) []
def Arb (K : CK) (H : Aae) (N : Nat) (nl : Bool) (ys : List AV) (z : AV) : Option (TypeId×Nat×Nat)→Prop
 | some (_,es,by_)=>okEls es ys∧Amc H N z∧okEls es (Aeu H z)∧(Ajd z≠[]→(Aeu H z).all AV.one=true)∧ys.length+(Aeu H z).length≤maxLen∧(ys.length+(Aeu H z).length)*by_≤140737488355328 ∧
  K (.lst (nl&&(Aeu H z).isEmpty) false (ys++Aeu H z)) H N (Ajd z) []
 | none=>False
def AoV (K : CK) (H : Aae) (N id off es len : Nat) (z : AV) : Option (TypeId×Nat×Nat)→Option (Aaq×List AV)→Prop
 | some (_,es',by_),some (obj,cs)=>id<N∧es'=es∧0<es∧off+len*es=cs.length∧(off=0∨∃ x,obj = .cells x)∧cs.all AV.one=true∧Amc H N z∧okEls es (Aeu H z)∧(Ajd z≠[]→(Aeu H z).all AV.one=true) ∧
  len+(Aeu H z).length≤maxLen∧(len+(Aeu H z).length)*by_≤140737488355328 ∧
  K (.slc N 0 es (len+(Aeu H z).length) false) (upd (upd H id none) N (some (obj.with (cs.drop off++AaW (Aeu H z))))) (N+1) (id::Ajd z) [id,N]
 | _,_=>False
def AnG (K : CK) (H : Aae) (N : Nat) (z : AV) : Option (TypeId×Nat×Nat)→Prop
 | some (_,es,by_)=>0<es∧Amc H N z∧okEls es (Aeu H z)∧(Ajd z≠[]→(Aeu H z).all AV.one=true)∧(Aeu H z).length≤maxLen∧(Aeu H z).length*by_≤140737488355328 ∧
  K (.slc N 0 es (Aeu H z).length false) (upd H N (some (.grow (AaW (Aeu H z))))) (N+1) (Ajd z) [N]
 | none=>False
def AnH (K : CK) (H : Aae) (N : Nat) (ys : List AV) (z : AV) : Option (TypeId×Nat×Nat)→Prop
 | some (_,es,by_)=>0<es∧okEls es ys∧Amc H N z∧Aeu H z≠[]∧okEls es (Aeu H z)∧(Ajd z≠[]→(Aeu H z).all AV.one=true)∧ys.length+(Aeu H z).length≤maxLen∧(ys.length+(Aeu H z).length)*by_≤140737488355328 ∧
  K (.slc N 0 es (ys.length+(Aeu H z).length) false) (upd H N (some (.grow (AaW (ys++Aeu H z))))) (N+1) (Ajd z) [N]
 | none=>False
def Ar6 (mu : List Nat) (d : Option Nat) : Bool:=match d with | some d=>mu.contains (d+1000000) | none=>false
def AoW (K : CK) (H : Aae) (N : Nat) (nl fl : Bool) (ys : List AV) (z : AV) (e : Option (TypeId×Nat×Nat)) : Bool→Prop
 | true=>fl=true∧nl=false∧AnH K H N ys z e
 | false=>(nl=true∨(fl=true∧ys = []))∧AnG K H N z e
def AoX (mf : Bool) (K : CK) (H : Aae) (N : Nat) (nl fl : Bool) (ys : List AV) (z : AV) (e : Option (TypeId×Nat×Nat)) : Bool→Prop
 | true=>AoW K H N nl fl ys z e mf
 | false=>(fl=true∨nl=true)∧Arb K H N nl ys z e
def oMp : Option Aaq→Option (List (AV×AV))
 | some (.mp es)=>some es
 | _=>none
@[simp] theorem Arx (es : List (AV×AV)) : oMp (some (.mp es))=some es:=rfl
theorem Agl {o : Option Aaq} {es : List (AV×AV)} (h : oMp o=some es) : o=some (.mp es):=by
 unfold oMp at h; split at h
 ·simp only [Option.some.injEq] at h; rw [h]
 ·cases h
def AoT (K : CK) (H : Aae) (N id off es len : Nat) (obj : Aaq) (cs : List AV) : Option AV→Prop
 | some x=>cs≠[]∧off+len*es≤cs.length∧x.cells.length=es∧x.cells.all AV.one=true∧K (.tup []) (upd H id (some (obj.with (AhU cs off (AaW (List.replicate len x)))))) N [id] [id]
 | none=>False
def ArZ (P : Program) (K : CK) (H : Aae) (N id off es len : Nat) : Option (TypeId×Nat×Nat)→Option (Aaq×List AV)→Prop
 | some (e,es',_),some (obj,cs)=>id<N∧es'=es∧AoT K H N id off es len obj cs (Abz P e)
 | _,_=>False
def ArY (K : CK) (H : Aae) (N id off es len : Nat) (z : AV) : Option (TypeId×Nat×Nat)→Option (Aaq×List AV)→Prop
 | some (_,es',_),some (obj,cs)=>id<N∧es'=es∧cs≠[]∧off+len*es≤cs.length∧Amc H N z∧okEls es (Aeu H z)∧(Ajd z≠[]→(Aeu H z).all AV.one=true)∧(Aeu H z).length≤len ∧
  K (.int .i64 (Aeu H z).length) (upd H id (some (obj.with (AhU cs off (AaW (Aeu H z)))))) N (id::Ajd z) [id]
 | _,_=>False
def ArX (K : CK) (H : Aae) (N id : Nat) (z : AV) : Option (List (AV×AV))→Option (Ab5×AV)→Prop
 | some es,some (kd,_)=>id<N∧kd.has z=true∧(es.all fun p=>kd.has p.1)=true∧K (.tup []) (upd H id (some (.mp (Ajv es z)))) N [id] [id]
 | _,_=>False
def Aie (P : Program) (mu mf : Bool) (K : CK) (H : Aae) (N : Nat) : Builtin→List TypeId→List AV→Prop
 | .len,[t],[.lst _ _ ys]=>Amf P t=true∧K (.int .i64 ys.length) H N [] []
 | .len,[t],[.str b]=>AjK P t=true∧K (.int .i64 b.size) H N [] []
 | .len,[t],[.slc id _ _ len _]=>Amf P t=true∧id<N∧(∃ o,H id=some o)∧K (.int .i64 len) H N [id] []
 | .max,_,[.int k a,.int k' b]=>k=k'∧K (Aph k a b) H N [] []
 | .min,_,[.int k a,.int k' b]=>k=k'∧K (Apg k a b) H N [] []
 | .append,[t,t'],[.lst nl fl ys,z]=>AdY P t'=true∧AoX mf K H N nl fl ys z (Aa9 P t) mu
 | .append,[t,t'],[.slc id off es len _,z]=>AdY P t'=true∧AoV K H N id off es len z (Aa9 P t) (oCs (H id))
 | .clear,[t],[.slc id off es len _]=>ArZ P K H N id off es len (Aa9 P t) (oCs (H id))
 | .copy,[t,_],[.slc id off es len _,z]=>ArY K H N id off es len (AjQ len z) (Aa9 P t) (oCs (H id))
 | .delete,[t,_],[.map id,z]=>ArX K H N id z (oMp (H id)) (Afx P t)
 | _,_,_=>False
def AoU (P : Program) (args : List AV) (K : CK) (H : Aae) (N : Nat) : AV→Prop
 | .fn f caps=>AlH P f (args++caps) H N K
 | _=>False
def Ara (op : BinOp) (x y : AV) (K : CK) (H : Aae) (N : Nat) : Option AV→Prop
 | some r=>Agi op x y∧K r H N [] []
 | none=>False
def Aj6 (K : CK) (H : Aae) (N : Nat) (q : Option (Nat×Option Nat)) : AV→Prop
 | .agg cs=>Al8 K H N [] (AhZ cs q)
 | _=>False
def AmD (K : CK) (H : Aae) (N id : Nat) (z : AV) (ok : Bool) : Option (List (AV×AV))→Option (Ab5×AV)→Prop
 | some es,some (kd,zv)=>id<N∧kd.has z=true∧(es.all fun p=>kd.has p.1)=true∧K (AjJ zv (AiV es z) ok) H N [id] []
 | _,_=>False
def AoQ (K : CK) (H : Aae) (N : Nat) (z : AV) (ok : Bool) (q : Option (Ab5×AV)) : AV→Prop
 | .map id=>AmD K H N id z ok (oMp (H id)) q
 | _=>False
def Aic (K : CK) (H : Aae) (N id : Nat) (z v : AV) : Option (List (AV×AV))→Option (Ab5×AV)→Prop
 | some es,some (kd,_)=>id<N∧kd.has z=true∧(es.all fun p=>kd.has p.1)=true∧K .skip (upd H id (some (.mp (Ahe es z v)))) N [id] [id]
 | _,_=>False
def AjV (K : CK) (H : Aae) (N : Nat) (z v : AV) (q : Option (Ab5×AV)) : AV→Prop
 | .map id=>Aic K H N id z v (oMp (H id)) q
 | _=>False
def Al7 (P : Program) (t : TypeId) (K : CK) (H : Aae) (N : Nat) : AV→Prop
 | .str b=>AjK P t=true∧K (.ptr N 0) (upd H N (some (.it b 0))) (N+1) [] [N]
 | _=>False
def oIt : Option Aaq→Option (ByteArray×Nat)
 | some (.it b p)=>some (b,p)
 | _=>none
@[simp] theorem Ary (b : ByteArray) (p : Nat) : oIt (some (.it b p))=some (b,p):=rfl
theorem Am2 {o : Option Aaq} {b : ByteArray} {p : Nat} (h : oIt o=some (b,p)) : o=some (.it b p):=by
 unfold oIt at h; split at h
 ·simp only [Option.some.injEq,Prod.mk.injEq] at h; rw [h.1,h.2]
 ·cases h
def AmA (K : CK) (H : Aae) (N id : Nat) (b : ByteArray) (p : Nat) : Option UInt8→Prop
 | some x=>x.toNat<128∧K (.tup [.bool true,.int .i64 p,.int .i32 x.toNat]) (upd H id (some (.it b (p+1)))) N [id] [id]
 | none=>K (.tup [.bool false]) H N [id] []
def Al9 (K : CK) (H : Aae) (N id : Nat) : Option (ByteArray×Nat)→Prop
 | some (b,p)=>id<N∧AmA K H N id b p (b.data[p]?)
 | none=>False
def AoP (K : CK) (H : Aae) (N : Nat) : AV→Prop
 | .ptr id 0=>Al9 K H N id (oIt (H id))
 | _=>False
def bop (P : Program) (mu : List Nat) (d : Option Nat) (s : Nat→AV) (H : Aae) (N : Nat) (K : CK) : Op→Prop
 | .move y=>K (ev s y) H N [] []
 | .assign y=>K (ev s y) H N [] []
 | .pick t x y=>AoO K H N (ev s x) (ev s y) (ev s t)
 | .binOp op xt x y _=>Ara op (ev s x) (ev s y) K H N (AqA P op xt (ev s x) (ev s y))
 | .unOp op _ x=>Al8 K H N [] (aun op (ev s x))
 | .load t y=>AoR P t K H N (ev s y)
 | .store t y z=>Al5 P t (ev s z) K H N (ev s y)
 | .box t y=>(ev s y).fits P t=true∧K (.ptr N 0) (upd H N (some (.cells (ev s y).cells))) (N+1) [] [N]
 | .alloc t=>AmN K H N (AcE P t)
 | .fieldAddr t y f=>AmH K H N (AcO P t f) (ev s y)
 | .nilCheck y=>ArT K H N (ev s y)
 | .indexAddr t y z=>ArV P t K H N (ev s y) (ev s z) (Aa9 P t) (AeM P t)
 | .index t y z=>AmF P t K H N (ev s y) (ev s z) (AmP P t)
 | .extract y i=>Aid i K H N (ev s y)
 | .makeFunc (.func f) first caps=>first.size=0∧K (.fn f (caps.toList.map (ev s))) H N [] []
 | .slice t y l h m=>Al6 P t s l h m K H N (ev s y) (Aa9 P t)
 | .buildSlice t n parts=>ArU s n parts.toList (Am9 mu d) K H N (Aa9 P t)
 | .makeSlice t y z=>AmB P (Am9 mu d) K H N (ev s y) (ev s z) (Aa9 P t)
 | .build t parts=>Ac3 P t=true∧AmM K H N (AjY P t (parts.toList.map fun p=>(p.1,ev s p.2)))
 | .convert src dst y=>AoS P (Am9 mu d) src dst K H N (ev s y)
 | .field t y f=>Aj6 K H N (Acf P t f) (ev s y)
 | .makeMap _ none=>K (.map N) (upd H N (some (.mp []))) (N+1) [] [N]
 | .range t y=>Al7 P t K H N (ev s y)
 | .next y true=>AoP K H N (ev s y)
 | .lookup t y z ok=>AoQ K H N (ev s z) ok (Afx P t) (ev s y)
 | .mapUpdate t y z v=>AjV K H N (ev s z) (ev s v) (Afx P t) (ev s y)
 | .insert t y z v=>AjV K H N (ev s z) (ev s v) (Afx P t) (ev s y)
 | .call { callee := .builtin b,args:=as,argTypes:=ts } => Aie P (Am9 mu d) (Ar6 mu d) K H N b ts.toList (as.toList.map (ev s))
 | .call { callee := .value g,args:=as,argTypes:=_ } => AoU P (as.toList.map (ev s)) K H N (ev s g)
 | _=>False
theorem AoK (h : bop P mu o.dst s H N K o.op) : aop P mu o s H N K:=by
 generalize ho : o.op=p at h
 unfold aop
 rw [ho]
 unfold bop at h
 split at h
 ·exact h
 ·exact h
 ·unfold AoO at h; split at h
  ·rename_i hh; simp only [hh]; exact h
  ·exact h.elim
 ·unfold Ara at h; split at h
  ·rename_i hh; simp only [hh]; exact h
  ·exact h.elim
 ·unfold Al8 at h; split at h
  ·rename_i hh; simp only [hh]; exact h
  ·exact h.elim
 ·unfold AoR at h; split at h
  ·rename_i hh; simp only [hh]
   unfold Al8 at h; split at h
   ·rename_i h2; simp only [h2]; exact h
   ·exact h.elim
  ·rename_i hh; simp only [hh]
   unfold AmE at h; split at h
   ·rename_i h2
    refine Acg h2 h.1 ?_
    have h3:=h.2
    unfold Al8 at h3; split at h3
    ·rename_i h4; simp only [h4]; exact h3
    ·exact h3.elim
   ·exact h.elim
  ·exact h.elim
 ·unfold Al5 at h; split at h
  ·rename_i hh; simp only [hh]
   unfold Aj5 at h; split at h
   ·rename_i h2; exact Acg h2 h.1 h.2
   ·exact h.elim
  ·exact h.elim
 ·exact h
 ·unfold AmN at h; split at h
  ·rename_i hh; simp only [hh]; exact h
  ·exact h.elim
 ·unfold AmH at h; split at h
  ·rename_i h1 h2; simp only [h1,h2]; exact h
  ·rename_i h1 h2; simp only [h1,h2]
   unfold Af3 at h; split at h
   ·rename_i h3; exact Acg h3 h.1 h.2
   ·exact h.elim
  ·exact h.elim
 ·unfold ArT at h; split at h
  ·rename_i h1; simp only [h1]; exact h
  ·rename_i h1; simp only [h1]; exact h
  ·rename_i h1; simp only [h1]
   unfold Af3 at h; split at h
   ·rename_i h3; exact Acg h3 h.1 h.2
   ·exact h.elim
  ·exact h.elim
 ·simp only []
  unfold Arj
  unfold ArV at h; split at h
  ·rename_i h1 h2 h3; simp only [h1,h2,h3]; exact h
  ·rename_i h1 h2 h3; simp only [h1,h2,h3]
   obtain ⟨q1,q2,q3,h⟩:=h
   unfold Af3 at h; split at h
   ·rename_i h4; exact Acg h4 h.1 ⟨h.2.1,q1,q2,q3,h.2.2⟩
   ·exact h.elim
  ·rename_i h1 h2 h3; simp only [h1,h2,h3]; exact h
  ·rename_i h1 h2 h3; simp only [h1,h2,h3]
   obtain ⟨q2,q3,h⟩:=h
   unfold Af3 at h; split at h
   ·rename_i h4; exact Acg h4 h.1 ⟨h.2.1,q2,q3,h.2.2⟩
   ·exact h.elim
  ·exact h.elim
 ·unfold AmF at h; split at h
  ·rename_i h1 h2; simp only [h1,h2]; exact h
  ·rename_i h1 h2 h3; simp only [h1,h2,h3]; exact h
  ·exact h.elim
 ·unfold Aid at h; split at h
  ·rename_i h1; simp only [h1]
   unfold Al8 at h; split at h
   ·rename_i h2; simp only [h2]; exact h
   ·exact h.elim
  ·exact h.elim
 ·exact h
 ·unfold Al6 at h; split at h
  ·rename_i h1 h2; simp only [h1,h2]
   obtain ⟨q1,q2,q3,q4,q5,q6,h⟩:=h
   exact ⟨q1,Ah1 q2 (Ah1 q3 ⟨q4,q5,q6,h⟩)⟩
  ·rename_i h1; simp only [h1]
   obtain ⟨q0,q1,q2,q3,q5,q6,h⟩:=h
   exact ⟨q0,q1,Ah1 q2 (Ah1 q3 ⟨q5,q6,h⟩)⟩
  ·rename_i h1 h2; simp only [h1,h2]
   obtain ⟨q1,h⟩:=h
   unfold AoN at h; split at h
   ·rename_i h3
    obtain ⟨q2,q3,q4,q5,q6,q7,q8,h⟩:=h
    exact Acg h3 q2 ⟨q3,q1,Ah1 q4 (Ah1 q5 ⟨q6,q7,q8,h⟩)⟩
   ·exact h.elim
  ·exact h.elim
 ·unfold ArU at h; split at h
  ·rename_i h1; simp only [h1]
   obtain ⟨q1,q2,q3,q4,q5,h⟩:=h
   refine ⟨q1,by simpa using q2,q3,q4,q5,?_⟩
   unfold AmC at h
   split at h
   ·rename_i h2; simp only [h2,if_true]; exact h
   ·rename_i h2; simp only [h2,Bool.false_eq_true,if_false]; exact h
  ·exact h.elim
 ·unfold AmB at h; split at h
  ·rename_i h1 h2 h3; simp only [h1,h2,h3]
   obtain ⟨q1,q2,q3,q4,q5,h⟩:=h
   obtain ⟨x,hx⟩:=Option.isSome_iff_exists.1 q5
   simp only [hx,Option.getD_some] at h ⊢
   refine ⟨q1,q2,q3,q4,?_⟩
   unfold AmC at h
   split at h
   ·rename_i h2; simp only [h2,if_true]; exact h
   ·rename_i h2; simp only [h2,Bool.false_eq_true,if_false]; exact h
  ·exact h.elim
 ·refine ⟨h.1,?_⟩
  have h2:=h.2
  unfold AmM at h2; split at h2
  ·rename_i h3; simp only [h3]; exact h2
  ·exact h2.elim
 ·unfold AoS at h; split at h
  ·rename_i h1; simp only [h1]
   refine ⟨h.1,?_⟩
   have h2:=h.2
   unfold AmL at h2; split at h2
   ·rename_i h3; simp only [h3]; exact h2
   ·exact h2.elim
  ·rename_i h1; simp only [h1]
   obtain ⟨q1,q2,q3,h⟩:=h
   refine ⟨q1,q2,?_,?_⟩
   ·unfold ArW at q3; split at q3
    ·rename_i h3; simp only [h3]; exact q3
    ·exact q3.elim
   ·unfold AmI at h; split at h
    ·rename_i h3; simp only [h3,if_true]; exact h
    ·rename_i h3; simp only [h3,Bool.false_eq_true,if_false]; exact h
  ·rename_i h1; simp only [h1]
   unfold AmJ at h; split at h
   ·left
    obtain ⟨q0,h⟩:=h
    unfold AmK at h; split at h
    ·rename_i h3
     obtain ⟨r1,r2,r3,r4,h⟩:=h
     exact ⟨q0,r3,r4,Acg h3 r1 ⟨r2,h⟩⟩
    ·exact h.elim
   ·right
    obtain ⟨r1,r2,r3,r4,h⟩:=h
    exact ⟨r1,r2,Afj r3 ⟨r4,h⟩⟩
  ·rename_i n1 n2 n3
   obtain ⟨q1,q2,q3,q4,h⟩:=h
   simp only []
   exact ⟨q1,q2,Afj q3 ⟨q4,h⟩⟩
 ·unfold Aj6 at h; split at h
  ·rename_i h1; simp only [h1]
   unfold Al8 at h; split at h
   ·rename_i h2; simp only [h2]; exact h
   ·exact h.elim
  ·exact h.elim
 ·exact h
 ·unfold Al7 at h; split at h
  ·rename_i h1; simp only [h1]; exact h
  ·exact h.elim
 ·unfold AoP at h; split at h
  ·rename_i id h1; simp only [h1]
   unfold Al9 at h; split at h
   ·rename_i b p h2
    obtain ⟨hid,h⟩:=h
    simp only [Am2 h2]
    refine ⟨hid,?_⟩
    unfold AmA at h; split at h
    ·rename_i x hx
     obtain ⟨hp,he⟩:=Array.getElem?_eq_some_iff.1 hx
     rw [dif_pos (show p<b.size from hp)]
     have e : b[p]'hp=x:=he
     rw [e]; exact h
    ·rename_i hx
     rw [dif_neg (show ¬ p<b.size from fun hp=>by rw [Array.getElem?_eq_none_iff] at hx; exact absurd hp (by simpa using hx))]
     exact h
   ·exact h.elim
  ·exact h.elim
 ·unfold AoQ at h; split at h
  ·rename_i h1; simp only [h1]
   unfold AmD at h; split at h
   ·rename_i h2 h3
    simp only [Agl h2,h3]; exact h
   ·exact h.elim
  ·exact h.elim
 ·unfold AjV at h; split at h
  ·rename_i h1; simp only [h1]
   unfold Aic at h; split at h
   ·rename_i h2 h3
    simp only [Agl h2,h3]; exact h
   ·exact h.elim
  ·exact h.elim
 ·unfold AjV at h; split at h
  ·rename_i h1; simp only [h1]
   unfold Aic at h; split at h
   ·rename_i h2 h3
    simp only [Agl h2,h3]; exact h
   ·exact h.elim
  ·exact h.elim
 ·rename_i b as ts
  simp only []
  generalize ts.toList=tl at h ⊢
  generalize as.toList.map (ev s)=xs at h ⊢
  unfold Aie at h
  unfold Ags
  split at h
  ·exact h
  ·exact h
  ·exact h
  ·exact h
  ·exact h
  ·rename_i t t' nl fl ys z
   obtain ⟨q2,h⟩:=h
   simp only []
   refine ⟨q2,?_⟩
   unfold AoX at h; split at h
   ·rename_i hmu
    rw [if_pos hmu]
    have h : (fl=true∧nl=false∧AnH K H N ys z (Aa9 P t))∨((nl=true∨(fl=true∧ys = []))∧AnG K H N z (Aa9 P t)):=by
     unfold AoW at h; split at h
     ·exact .inl h
     ·exact .inr h
    rcases h with ⟨hf,hn,h⟩ | h
    ·left
     refine ⟨hf,hn,?_⟩
     unfold AnH at h; split at h
     ·rename_i h3; simp only [h3]
      obtain ⟨r1,r2,r3,r4,r5,r6,r7,r8,h⟩:=h
      exact ⟨r1,r2,Afj r3 ⟨r4,r5,r6,r7,r8,h⟩⟩
     ·exact h.elim
    right
    refine ⟨h.1,?_⟩
    have h:=h.2
    unfold AnG at h; split at h
    ·rename_i h3; simp only [h3]
     obtain ⟨r1,r2,r3,r4,r5,r6,h⟩:=h
     exact ⟨r1,Afj r2 ⟨r3,r4,r5,r6,h⟩⟩
    ·exact h.elim
   ·rename_i hmu
    rw [if_neg (by simp [hmu])]
    refine ⟨h.1,?_⟩
    have h:=h.2
    unfold Arb at h; split at h
    ·rename_i h3; simp only [h3]
     obtain ⟨r1,r2,r3,r4,r5,r6,h⟩:=h
     exact ⟨r1,Afj r2 ⟨r3,r4,r5,r6,h⟩⟩
    ·exact h.elim
  ·obtain ⟨q2,h⟩:=h
   simp only []
   unfold AoV at h; split at h
   ·rename_i h3 h4; simp only [h3]
    obtain ⟨r0,r1,r2,r3,r4,r5,r6,r7,r8,r9,r10,h⟩:=h
    have h5:=Acg (k:=fun obj' cs'=>obj'=_∧cs'=_) h4 r0 ⟨rfl,rfl⟩
    obtain ⟨_,o',cs',e1,e2,rfl,rfl⟩:=Ab6 h5
    simp only [e1,e2]
    exact ⟨r0,q2,r1,r2,r3,r4,r5,Afj r6 ⟨r7,r8,r9,r10,h⟩⟩
   ·exact h.elim
  ·rename_i t id off es len full
   simp only []
   unfold ArZ at h; split at h
   ·rename_i h3 h4; simp only [h3]
    obtain ⟨r0,r1,h⟩:=h
    unfold AoT at h; split at h
    ·rename_i x h5; simp only [h5]
     obtain ⟨q0,q1,q2,q3,h⟩:=h
     exact Acg h4 r0 ⟨q0,r1,q1,q2,q3,h⟩
    ·exact h.elim
   ·exact h.elim
  ·rename_i t t' id off es len full z
   simp only []
   unfold ArY at h; split at h
   ·rename_i h3 h4; simp only [h3]
    obtain ⟨r0,r1,q0,q1,r6,r7,r8,r9,h⟩:=h
    exact Acg h4 r0 ⟨q0,r1,q1,Afj r6 ⟨r7,r8,r9,h⟩⟩
   ·exact h.elim
  ·rename_i t t' id z
   simp only []
   unfold ArX at h; split at h
   ·rename_i h3 h4
    obtain ⟨r0,r1,r2,h⟩:=h
    have h5:=Agl h3
    simp only [h5,h4]
    exact ⟨r0,r1,r2,h⟩
   ·exact h.elim
  ·exact h.elim
 ·unfold AoU at h; split at h
  ·rename_i h1; simp only [h1]; exact h
  ·exact h.elim
 ·exact h.elim
theorem AjT (hc : Aag o=true) (h : bop P mu o.dst s H N K o.op) : Aog P o s H N K:=AmR hc (AoK h)
def Aot (ops : List Oper) : List Oper→List (Option (Nat×Bool))→Bool
 | [],[]=>true
 | o::os,g::gs=>(match o.guard,g with
  | none,none=>true
  | some (j,w),some (d,w')=>(ops[j]?).bind (·.dst)==some d&&w==w'
  | _,_=>false)&&Aot ops os gs
 | _,_=>false
def AeN (P : Program) (mu : List Nat) : List Oper→List (Option (Nat×Bool))→(Nat→AV)→Aae→Nat→Log→((Nat→AV)→Aae→Nat→Log→Prop)→Prop
 | [],_,s,H,N,lg,K=>K s H N lg.reverse
 | _::_,[],_,_,_,_,_=>False
 | o::os,none::gs,s,H,N,lg,K=>bop P mu o.dst s H N (fun x H' N' T W=>AeN P mu os gs (Aev s o.dst x) H' N' ((T,W)::lg) K) o.op
 | o::os,some (d,want)::gs,s,H,N,lg,K=>match s d with
  | .bool b=>(b=want→bop P mu o.dst (upd s d (.bool want)) H N (fun x H' N' T W=>AeN P mu os gs (Aev (upd s d (.bool want)) o.dst x) H' N' ((T,W)::lg) K) o.op) ∧
   (b = !want→AeN P mu os gs (Aev (upd s d (.bool !want)) o.dst .skip) H N (([],[])::lg) K)
  | .skip=>AeN P mu os gs (Aev s o.dst .skip) H N (([],[])::lg) K
  | _=>False
def An9 (P : Program) (mu : List Nat) (os : List Oper) (gs : List (Option (Nat×Bool))) (s : Nat→AV) (d : Option Nat) (lg : Log) (K : (Nat→AV)→Aae→Nat→Log→Prop) : CK :=
 fun x H' N' T W=>AeN P mu os gs (Aev s d x) H' N' ((T,W)::lg) K
@[simp] theorem Aqh {P : Program} {mu : List Nat} {gs : List (Option (Nat×Bool))} {s : Nat→AV} {H : Aae} {N : Nat} {lg : Log} {K : (Nat→AV)→Aae→Nat→Log→Prop} : AeN P mu [] gs s H N lg K=K s H N lg.reverse:=by unfold AeN; rfl
@[simp] theorem Ap7 {P : Program} {mu : List Nat} {d : Option Nat} {op : Op} {ty : TypeId} {pos : String} {af : Array Edge} {g : Option (Nat×Bool)} {os : List Oper} {gs : List (Option (Nat×Bool))} {s : Nat→AV} {H : Aae} {N : Nat} {lg : Log} {K : (Nat→AV)→Aae→Nat→Log→Prop} :
 AeN P mu (⟨d,op,ty,pos,af,g⟩::os) (none::gs) s H N lg K=bop P mu d s H N (An9 P mu os gs s d lg K) op:=by
 conv=>lhs; unfold AeN
 rfl
theorem AkG {α : Type} {s : Nat→α} {j : Nat} {v : α} (h : s j=v) : upd s j v=s:=by
 funext t
 by_cases e : t=j
 ·subst e; rw [AbU,h]
 ·rw [Acc _ _ e]
theorem AfD {P : Program} {mu : List Nat} {d : Option Nat} {op : Op} {ty : TypeId} {pos : String} {af : Array Edge} {g : Option (Nat×Bool)} {os : List Oper} {j : Nat} {gs : List (Option (Nat×Bool))} {s : Nat→AV} {H : Aae} {N : Nat} {lg : Log} {K : (Nat→AV)→Aae→Nat→Log→Prop} {want : Bool} :
 AeN P mu (⟨d,op,ty,pos,af,g⟩::os) (some (j,want)::gs) s H N lg K=match s j with
  | .bool b=>(b=want→bop P mu d (upd s j (.bool want)) H N (An9 P mu os gs (upd s j (.bool want)) d lg K) op)∧(b = !want→AeN P mu os gs (Aev (upd s j (.bool !want)) d .skip) H N (([],[])::lg) K)
  | .skip=>AeN P mu os gs (Aev s d .skip) H N (([],[])::lg) K
  | _=>False:=by
 conv=>lhs; unfold AeN
 cases s j <;> rfl
@[simp] theorem Arc {P : Program} {mu : List Nat} {d : Option Nat} {op : Op} {ty : TypeId} {pos : String} {af : Array Edge} {g : Option (Nat×Bool)} {os : List Oper} {j : Nat} {gs : List (Option (Nat×Bool))} {s : Nat→AV} {H : Aae} {N : Nat} {lg : Log} {K : (Nat→AV)→Aae→Nat→Log→Prop} (h : s j = .bool true) : AeN P mu (⟨d,op,ty,pos,af,g⟩::os) (some (j,true)::gs) s H N lg K=bop P mu d s H N (An9 P mu os gs s d lg K) op:=by
 rw [AfD,h]; simp [AkG h]
@[simp] theorem Arg {P : Program} {mu : List Nat} {d : Option Nat} {op : Op} {ty : TypeId} {pos : String} {af : Array Edge} {g : Option (Nat×Bool)} {os : List Oper} {j : Nat} {gs : List (Option (Nat×Bool))} {s : Nat→AV} {H : Aae} {N : Nat} {lg : Log} {K : (Nat→AV)→Aae→Nat→Log→Prop} (h : s j = .bool false) : AeN P mu (⟨d,op,ty,pos,af,g⟩::os) (some (j,false)::gs) s H N lg K=bop P mu d s H N (An9 P mu os gs s d lg K) op:=by
 rw [AfD,h]; simp [AkG h]
@[simp] theorem Ard {P : Program} {mu : List Nat} {d : Option Nat} {op : Op} {ty : TypeId} {pos : String} {af : Array Edge} {g : Option (Nat×Bool)} {os : List Oper} {j : Nat} {gs : List (Option (Nat×Bool))} {s : Nat→AV} {H : Aae} {N : Nat} {lg : Log} {K : (Nat→AV)→Aae→Nat→Log→Prop} (h : s j = .bool true) : AeN P mu (⟨d,op,ty,pos,af,g⟩::os) (some (j,false)::gs) s H N lg K=AeN P mu os gs (Aev s d .skip) H N (([],[])::lg) K:=by
 rw [AfD,h]; simp [AkG h]
@[simp] theorem Arf {P : Program} {mu : List Nat} {d : Option Nat} {op : Op} {ty : TypeId} {pos : String} {af : Array Edge} {g : Option (Nat×Bool)} {os : List Oper} {j : Nat} {gs : List (Option (Nat×Bool))} {s : Nat→AV} {H : Aae} {N : Nat} {lg : Log} {K : (Nat→AV)→Aae→Nat→Log→Prop} (h : s j = .bool false) : AeN P mu (⟨d,op,ty,pos,af,g⟩::os) (some (j,true)::gs) s H N lg K=AeN P mu os gs (Aev s d .skip) H N (([],[])::lg) K:=by
 rw [AfD,h]; simp [AkG h]
@[simp] theorem Are {P : Program} {mu : List Nat} {d : Option Nat} {op : Op} {ty : TypeId} {pos : String} {af : Array Edge} {g : Option (Nat×Bool)} {os : List Oper} {j : Nat} {gs : List (Option (Nat×Bool))} {s : Nat→AV} {H : Aae} {N : Nat} {lg : Log} {K : (Nat→AV)→Aae→Nat→Log→Prop} {want : Bool} (h : s j = .skip) : AeN P mu (⟨d,op,ty,pos,af,g⟩::os) (some (j,want)::gs) s H N lg K=AeN P mu os gs (Aev s d .skip) H N (([],[])::lg) K:=by
 rw [AfD,h]
@[simp] theorem ArM {P : Program} {mu : List Nat} {os : List Oper} {gs : List (Option (Nat×Bool))} {s : Nat→AV} {d : Option Nat} {lg : Log} {K : (Nat→AV)→Aae→Nat→Log→Prop} {x : AV} {H : Aae} {N : Nat} {T W : List Nat} :
 An9 P mu os gs s d lg K x H N T W=AeN P mu os gs (Aev s d x) H N ((T,W)::lg) K:=rfl
@[congr] theorem Aos {P : Program} {mu : List Nat} {os : List Oper} {gs : List (Option (Nat×Bool))} {s : Nat→AV} {d : Option Nat} {lg : Log} {K : (Nat→AV)→Aae→Nat→Log→Prop} : An9 P mu os gs s d lg K=An9 P mu os gs s d lg K:=rfl
@[congr] theorem Aoy {P : Program} {mu : List Nat} {os : List Oper} {gs : List (Option (Nat×Bool))} {s : Nat→AV} {H : Aae} {N : Nat} {lg : Log} {K : (Nat→AV)→Aae→Nat→Log→Prop} : AeN P mu os gs s H N lg K=AeN P mu os gs s H N lg K:=rfl
@[congr] theorem Ap4 {P : Program} {mu : List Nat} {d : Option Nat} {op : Op} {s : Nat→AV} {H : Aae} {N : Nat} {K : CK} : bop P mu d s H N K op=bop P mu d s H N K op:=rfl
@[congr] theorem AoZ {P : Program} {f : FuncId} {args args' : List AV} {H : Aae} {N : Nat} {K : CK} (h : args=args') : AlH P f args H N K=AlH P f args' H N K:=by rw [h]
attribute [simp] Al7 AoP Al9 AmA ArY AjQ ArZ AoT ArX bop AoO Al8 AmE AoR Aj5 Al5 AmN Af3 AmH ArT ArV AmF Aid AnF Ahf AoN Al6 AmC ArU AmB AmM AmL ArW AqI Amc Ajd Aeu AoS Arb AnG AoX AoV Aie AoU Ara AmI AmK AmJ AnH AoW Aj6 AmD AoQ Aic AjV AjJ AhZ
theorem An5 {a b : Bool} (h : ¬ a=b) : a = !b:=by cases a <;> cases b <;> simp_all
theorem AdR {ops : List Oper} {K : (Nat→AV)→Aae→Nat→Log→Prop} : ∀ (l : List Oper) (gs : List (Option (Nat×Bool))) (s : Nat→AV) (H : Aae) (N : Nat) (lg : Log),(∀ o ∈ l,Aag o=true)→Aot ops l gs=true →
 AeN P mu l gs s H N lg K→∃ st s' H' N',Tr P ops.toArray l s H N st s' H' N'∧K s' H' N' (lg.reverse++st.map fun t=>(t.T,t.W))
 | [],gs,s,H,N,lg,_,_,h=>⟨[],s,H,N,⟨rfl,rfl,rfl,rfl⟩,by simpa [AeN] using h⟩
 | o::os,[],s,H,N,lg,_,hg,_=>by simp [Aot] at hg
 | o::os,none::gs,s,H,N,lg,hc,hg,h=>by
  simp only [Aot,Bool.and_eq_true] at hg
  have hgd : o.guard=none:=by
   cases hh : o.guard with
   | none=>rfl
   | some p=>simp [hh] at hg
  unfold AeN at h
  obtain ⟨x,H',N',T,W,h1,h2⟩:=AjT (hc o (by simp)) h
  obtain ⟨st,s'',H'',N'',k1,k2⟩:=AdR os gs _ _ _ _ (fun o ho=>hc o (by simp [ho])) hg.2 h2
  exact ⟨⟨true,x,H',T,W,N'⟩::st,s'',H'',N'',⟨_,_,rfl,by simp [Ab7,hgd],fun _=>⟨h1.op,h1.rest⟩,fun h=>(by cases h),h1.n,h1.tn,h1.wn,k1⟩,by simpa using k2⟩
 | o::os,some (d,want)::gs,s,H,N,lg,hc,hg,h=>by
  simp only [Aot,Bool.and_eq_true] at hg
  obtain ⟨j,hgd,hd⟩ : ∃ j,o.guard=some (j,want)∧(ops[j]?).bind (·.dst)=some d:=by
   cases hh : o.guard with
   | none=>simp [hh] at hg
   | some p =>
    obtain ⟨j,w⟩:=p
    simp only [hh,Bool.and_eq_true,beq_iff_eq] at hg
    exact ⟨j,by rw [hg.1.2],hg.1.1⟩
  have hd' : (ops.toArray[j]?).bind (·.dst)=some d:=by simpa using hd
  have skipped : Ab7 ops.toArray o s false→AeN P mu os gs (Aev s o.dst .skip) H N (([],[])::lg) K→∃ st s' H' N',Tr P ops.toArray (o::os) s H N st s' H' N'∧K s' H' N' (lg.reverse++st.map fun t=>(t.T,t.W)):=by
   intro hs h
   obtain ⟨st,s'',H'',N'',k1,k2⟩:=AdR os gs _ _ _ _ (fun o ho=>hc o (by simp [ho])) hg.2 h
   exact ⟨⟨false,.skip,H,[],[],N⟩::st,s'',H'',N'',⟨_,_,rfl,hs,fun h=>(by cases h),fun _=>⟨rfl,rfl,rfl,rfl⟩,Nat.le_refl _,by simp,by simp,k1⟩,by simpa using k2⟩
  unfold AeN at h
  split at h
  ·rename_i b hb
   have same : ∀ v,b=v→upd s d (.bool v)=s:=by
    intro v hv
    funext t
    by_cases e : t=d
    ·subst e; rw [AbU,hb,hv]
    ·rw [Acc _ _ e]
   by_cases hbw : b=want
   ·have h':=h.1 hbw
    rw [same want hbw] at h'
    obtain ⟨x,H',N',T,W,h1,h2⟩:=AjT (hc o (by simp)) h'
    obtain ⟨st,s'',H'',N'',k1,k2⟩:=AdR os gs _ _ _ _ (fun o ho=>hc o (by simp [ho])) hg.2 h2
    exact ⟨⟨true,x,H',T,W,N'⟩::st,s'',H'',N'',⟨_,_,rfl,by simp only [Ab7,hgd]; exact ⟨d,hd',.inl ⟨b,hb,by simp [hbw]⟩⟩,fun _=>⟨h1.op,h1.rest⟩,fun h=>(by cases h),h1.n,h1.tn,h1.wn,k1⟩,by simpa using k2⟩
   ·have hbw' : b = !want:=An5 hbw
    have h':=h.2 hbw'
    rw [same _ hbw'] at h'
    refine skipped ?_ h'
    simp only [Ab7,hgd]
    exact ⟨d,hd',.inl ⟨b,hb,by simp [hbw]⟩⟩
  ·rename_i hb
   refine skipped ?_ h
   simp only [Ab7,hgd]
   exact ⟨d,hd',.inr (by simp [hb])⟩
  ·exact h.elim
def Afg (n : Nat) (ops : List Oper) (gs : List (Option (Nat×Bool))) : Bool :=
 AiJ n ops&&Adc ops&&Agy ops&&ops.all Aag&&Aot ops ops gs
theorem St.draw {n : Nat} {c0 : Cx} {w0 : World} {a : Act} {w w' : World} (h : St n c0 w0 s H N a w) (e : w'.heap=w.heap) (h1 : w'.os=w.os) (h2 : w'.tape=w.tape) (h3 : w'.output=w.output) : St n c0 w0 s H N a w':=by
 obtain ⟨c,hr,hd,g,hu⟩:=h
 exact ⟨c,⟨hr.hr.world e,hr.size,hr.slot⟩,hd,g.trans (Ade.world e h1 h2 h3),hu⟩
theorem AW.region {n : Nat} {c0 : Cx} {w0 : World} {Q : Acn} {id : Nat} {ops : List Oper} {draw : Bool} (hm : P.follows .mixedOrders=true) (mu : List Nat) (gs : List (Option (Nat×Bool))) (hok : Afg n ops gs=true)
 (h : ∀ (G : Log→Prop) (K : (Nat→AV)→Aae→Nat→Prop),(∀ lg,(!draw||AdO ops lg)=true→G lg)→(∀ s' H' N',Q .normal s' H' N'→K s' H' N')→AeN P mu ops gs s H N [] (fun s' H' N' lg=>G lg∧K s' H' N')) :
 AW P n c0 w0 (.region id ops.toArray draw) Q s H N:=by
 simp only [Afg,Bool.and_eq_true] at hok
 obtain ⟨⟨⟨⟨h1,h2⟩,h3⟩,h4⟩,h5⟩:=hok
 obtain ⟨st,s',H',N',htr,hio,hq⟩:=AdR ops gs s H N [] (fun o ho=>List.all_eq_true.1 h4 o ho) h5 (h (fun lg=>(!draw||AdO ops lg)=true) (fun s' H' N'=>Q .normal s' H' N') (fun _ h=>h) (fun _ _ _ h=>h))
 simp only [List.reverse_nil,List.nil_append] at hio
 intro a w hst
 cases draw with
 | false =>
  obtain ⟨c,hr,hd,g,hu⟩:=hst
  refine wp_region_list (Afl ops s H N st s' H' N' (Ads h1) htr ?_ c a w hr hd g hu)
  intro c' a' w' hr' hd' g' hu'
  exact ⟨s',H',N',hq,c',hr',hd',g',hu'⟩
 | true =>
  simp only [Bool.not_true,Bool.false_or] at hio
  obtain ⟨c,hr,hd,g,hu⟩:=hst.draw (w' := { w with drawn:=w.drawn+1 }) rfl rfl rfl rfl
  refine wp_region_any hm ?_
  simp only [List.size_toArray]
  have hE : ∀ k,k<ops.length→Aaf (Array.replicate ops.length false) k=false:=by
   intro k hk; simp [Aaf,Array.getD,hk]
  have hcnt : ∀ m,m≤ops.length→cnt (Aaf (Array.replicate ops.length false)) m=0:=by
   intro m
   induction m with
   | zero=>intro _; rfl
   | succ m ih=>intro hm; simp [cnt,ih (by omega),hE m (by omega)]
  obtain ⟨t1,t2,t3,t4,t5⟩:=AlS ops s H N st s' H' N' htr
  have hNN:=AeA t1 t5 0 ops.length (by omega) (Nat.le_refl _)
  rw [t4] at hNN
  refine Amj h1 h2 h3 hio htr (c0:=c0) (w0:=w0) (df:=[]) ?_ ops.length _ c a _ (by simp) (by rw [hcnt _ (Nat.le_refl _)]; omega) ?_
  ·intro c' a' w' hr' hd' g' hu'
   exact ⟨s',H',N',hq,c',hr',hd',g',hu'⟩
  ·refine ⟨?_,hd,g,?_,fun i hi=>hu i (by simp only [stN] at hNN; omega),?_⟩
   ·have e1 : (fun t=>Adq (s t) (fun k=>(ops[k]?.bind (·.dst))==some t) (fun k=>(st[k]?.map (·.x)).getD .undef) (Aaf (Array.replicate ops.length false)) ops.length)=s:=by
     funext t
     rw [AcY _ _ _ _ 0 ops.length (by omega) (fun k _ hk _=>hE k hk)]; rfl
    have e2 : (fun id=>Adq (H id) (fun k=>((st[k]?.map (·.W)).getD []).contains id) (fun k=>stH st H (k+1) id) (Aaf (Array.replicate ops.length false)) ops.length)=H:=by
     funext t
     rw [AcY _ _ _ _ 0 ops.length (by omega) (fun k _ hk _=>hE k hk)]; rfl
    rw [e1,e2]; exact hr
   ·intro i t ht hi id k1 k2
    have hil : i<ops.length:=by have:=(List.getElem?_eq_some_iff.1 ht).1; omega
    have A:=(t5 i ops[i] t (by simp [hil]) ht).wn id k1
    have:=AeA t1 t5 0 i (by omega) (by omega)
    simp only [stN] at this
    exact hu id (by have:=A.2 k2; omega)
   ·intro j o' hj hjE
    have hjl : j<ops.length:=(List.getElem?_eq_some_iff.1 hj).1
    rw [hE j hjl] at hjE; cases hjE
end
end Go.Abs
