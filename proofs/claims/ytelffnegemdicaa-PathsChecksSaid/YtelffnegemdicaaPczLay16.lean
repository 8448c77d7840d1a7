import Derived.Test.YtelffnegemdicaaPczLay15
set_option linter.unusedVariables false
set_option linter.unusedSimpArgs false
namespace Go.Abs
open Go.RowKit (Below)
section
variable {P : Program} {o : Oper} {s : Nat→AV} {H : Aao} {N : Nat} {K : CK} {mu : List Nat}
def Ao6 (P : Program) (o : Oper) (s : Nat→AV) (H : Aao) (N : Nat) (K : CK) : Prop:=∃ x H' N' T W,Aav P o s H N x H' N' T W∧K x H' N' T W
theorem Abq {α : Type} {a : Array α} {l : List α} (h : a.toList=l) : a=l.toArray:=by cases a; simpa using h
theorem Ail (hc : Aaq o=true) (m : Bool) (b : Builtin) (args : Array Operand) (ts : Array TypeId) (ho : o.op = .call { callee := .builtin b,args:=args,argTypes:=ts })
 (h : Agx P m b ts.toList (args.toList.map (ev s)) H N K) : Ao6 P o s H N K:=by
 generalize hx : args.toList.map (ev s)=xs at h
 generalize ht : ts.toList=tl at h
 have one : ∀ y,[y]=xs→∃ z,args = #[z]∧ev s z=y:=by
  intro y h; rw [← hx] at h
  cases ha : args.toList with
  | nil=>simp [ha] at h
  | cons z l =>
   cases l with
   | nil=>simp [ha] at h; exact ⟨z,Abq ha,h.symm⟩
   | cons=>simp [ha] at h
 have two : ∀ y y',[y,y']=xs→∃ z z',args = #[z,z']∧ev s z=y∧ev s z'=y':=by
  intro y y' h; rw [← hx] at h
  match ha : args.toList,h with
  | [z,z'],h=>simp at h; exact ⟨z,z',Abq ha,h.1.symm,h.2.symm⟩
  | [],h=>simp at h
  | [_],h=>simp at h
  | _::_::_::_,h=>simp at h
 unfold Agx at h
 split at h
 ·rename_i t nl fl ys
  obtain ⟨z,rfl,hz⟩:=one _ rfl
  have:=Abq ht; subst this
  obtain ⟨e,he⟩:=AjQ h.1
  exact ⟨_,_,_,_,_,Ali hc t e z ho nl fl ys hz he,h.2⟩
 ·rename_i t b
  obtain ⟨z,rfl,hz⟩:=one _ rfl
  have:=Abq ht; subst this
  exact ⟨_,_,_,_,_,Alg hc t z ho b hz (Ads h.1),h.2⟩
 ·rename_i t id off es len full
  obtain ⟨z,rfl,hz⟩:=one _ rfl
  have:=Abq ht; subst this
  obtain ⟨e,he⟩:=AjQ h.1
  obtain ⟨o',ho'⟩:=h.2.2.1
  exact ⟨_,_,_,_,_,Alh hc t e z ho id off es len full hz h.2.1 o' ho' he,h.2.2.2⟩
 ·rename_i k a k' b
  obtain ⟨z,z',rfl,hz,hz'⟩:=two _ _ rfl
  obtain ⟨rfl,h⟩:=h
  exact ⟨_,_,_,_,_,AoF hc ts z z' ho k a b hz hz',h⟩
 ·rename_i k a k' b
  obtain ⟨z,z',rfl,hz,hz'⟩:=two _ _ rfl
  obtain ⟨rfl,h⟩:=h
  exact ⟨_,_,_,_,_,AoE hc ts z z' ho k a b hz hz',h⟩
 ·rename_i t t' nl fl ys z
  obtain ⟨y,z',rfl,hy,hz⟩:=two _ _ rfl
  have:=Abq ht; subst this
  obtain ⟨h2,h⟩:=h
  split at h
  ·rcases h with ⟨hfl,hnl,h⟩ | ⟨hnf,h⟩
   ·split at h
    ·rename_i e es by_ hE
     obtain ⟨h3,h4,h⟩:=h
     obtain ⟨zs,T,k1,k2,⟨k0,k3,k4,k5,k6,k7⟩,k8⟩:=Adx h
     refine ⟨_,_,_,_,_,AjG hc t t' y z' ho nl fl ys hy hfl e es by_ hE h2 zs T ⟨by rw [hz]; exact k1,k3.1,k3.2,?_,k2⟩ h3 k0 h4.1 h4.2 k5 k6,k7⟩
     intro hs
     rw [hz] at hs
     obtain ⟨id,rfl⟩:=k8 hs
     exact List.all_eq_true.1 (k4 (by simp))
    ·exact h.elim
   split at h
   ·rename_i e es by_ hE
    obtain ⟨h3,h⟩:=h
    obtain ⟨zs,T,k1,k2,⟨k3,k4,k5,k6,k7⟩,k8⟩:=Adx h
    refine ⟨_,_,_,_,_,AjE hc t t' y z' ho nl fl ys hy hnf e es by_ hE h2 zs T ⟨by rw [hz]; exact k1,k3.1,k3.2,?_,k2⟩ h3 k5 k6,k7⟩
    intro hs
    rw [hz] at hs
    obtain ⟨id,rfl⟩:=k8 hs
    exact List.all_eq_true.1 (k4 (by simp))
   ·exact h.elim
  ·obtain ⟨h1,h⟩:=h
   split at h
   ·rename_i e es by_ hE
    obtain ⟨h3,h⟩:=h
    obtain ⟨zs,T,k1,k2,⟨k3,k4,k5,k6,k7⟩,k8⟩:=Adx h
    refine ⟨_,_,_,_,_,AjF hc t t' y z' ho nl fl ys hy h1 e es by_ hE h2 zs T ⟨by rw [hz]; exact k1,k3.1,k3.2,?_,k2⟩ h3.1 h3.2 k5 k6,k7⟩
    intro hs
    rw [hz] at hs
    obtain ⟨id,rfl⟩:=k8 hs
    exact List.all_eq_true.1 (k4 (by simp))
   ·exact h.elim
 ·rename_i t t' id off es len full z
  obtain ⟨y,z',rfl,hy,hz⟩:=two _ _ rfl
  have:=Abq ht; subst this
  obtain ⟨h0,h2,h⟩:=h
  split at h
  ·rename_i e es' by_ obj hE hob
   split at h
   ·rename_i cs hcs
    obtain ⟨rfl,h3,h4,h5,h6,h⟩:=h
    obtain ⟨zs,T,k1,k2,⟨k3,k4,k5,k6,k7⟩,k8⟩:=Adx h
    refine ⟨_,_,_,_,_,AjD hc t t' y z' ho id off es' len full hy h0 obj hob cs hcs h4 h5 e by_ hE h2 zs T ⟨by rw [hz]; exact k1,k3.1,k3.2,?_,k2⟩ (List.all_eq_true.1 h6) h3 k5 k6,k7⟩
    intro hs
    rw [hz] at hs
    obtain ⟨id,rfl⟩:=k8 hs
    exact List.all_eq_true.1 (k4 (by simp))
   ·exact h.elim
  ·exact h.elim
 ·rename_i t id off es len full
  obtain ⟨z,rfl,hz⟩:=one _ rfl
  have:=Abq ht; subst this
  split at h
  ·rename_i e es' by_ hE
   split at h
   ·rename_i x hx0
    obtain ⟨h0,obj,cs,e1,e2,h1,rfl,h2,h3,h4,h⟩:=Aby h
    exact ⟨_,_,_,_,_,Alm hc t z ho id off es' len full hz h0 obj e1 cs e2 h1 e by_ hE x hx0 h2 h3 h4,h⟩
   ·exact h.elim
  ·exact h.elim
 ·rename_i t t' id off es len full z
  obtain ⟨y,z',rfl,hy,hz⟩:=two _ _ rfl
  have:=Abq ht; subst this
  split at h
  ·rename_i e es' by_ hE
   obtain ⟨h0,obj,cs,e1,e2,h1,rfl,h2,h⟩:=Aby h
   obtain ⟨zs,T,k1,k2,⟨k3,k4,k5,k6⟩,k8⟩:=Adx h
   refine ⟨_,_,_,_,_,Amk hc t t' y z' ho id off es' len full hy h0 obj e1 cs e2 h1 e by_ hE h2 zs T (by rw [hz]; exact k1) k2 k3.1 k3.2 ?_ k5,k6⟩
   rintro ⟨i1,i2,i3,i4,i5,hs⟩
   rw [hz] at hs; subst hs
   obtain ⟨id,rfl⟩:=k8 ⟨_,_,_,_,_,rfl⟩
   exact List.all_eq_true.1 (k4 (by simp))
  ·exact h.elim
 ·rename_i t t' id z
  obtain ⟨y,z',rfl,hy,hz⟩:=two _ _ rfl
  have:=Abq ht; subst this
  obtain ⟨h0,h⟩:=h
  split at h
  ·rename_i es kd zv e1 e2
   subst hz
   exact ⟨_,_,_,_,_,Ak8 hc t t' y z' ho id hy h0 es e1 kd zv e2 h.1 h.2.1,h.2.2⟩
  ·exact h.elim
 ·exact h.elim
theorem AmL (hc : Aaq o=true) (h : aop P mu o s H N K) : Ao6 P o s H N K:=by
 unfold aop at h
 split at h
 ·rename_i y ho; exact ⟨_,_,_,_,_,Akc hc y (.inl ho),h⟩
 ·rename_i y ho; exact ⟨_,_,_,_,_,Akc hc y (.inr ho),h⟩
 ·rename_i t x y ho
  split at h
  ·rename_i b hb; exact ⟨_,_,_,_,_,Amj hc t x y ho b hb,h⟩
  ·exact h.elim
 ·rename_i op xt x y yt ho
  split at h
  ·rename_i r hr; exact ⟨_,_,_,_,_,AoH hc op xt yt x y ho r hr h.1,h.2⟩
  ·exact h.elim
 ·rename_i op xt x ho
  split at h
  ·rename_i r hr; exact ⟨_,_,_,_,_,Apn hc op xt x ho r hr,h⟩
  ·exact h.elim
 ·rename_i t y ho
  split at h
  ·rename_i cs hy
   split at h
   ·rename_i x hx; exact ⟨_,_,_,_,_,Ak7 hc t y ho cs hy x hx,h⟩
   ·exact h.elim
  ·rename_i id off hy
   obtain ⟨hid,obj,cs,hob,hcs,h⟩:=Aby h
   split at h
   ·rename_i x hx; exact ⟨_,_,_,_,_,Ak6 hc t y ho id off hy hid obj hob cs hcs x hx,h⟩
   ·exact h.elim
  ·exact h.elim
 ·rename_i t y z ho
  split at h
  ·rename_i id off hy
   obtain ⟨hid,obj,cs,hob,hcs,h0,h1,h2,h⟩:=Aby h
   exact ⟨_,_,_,_,_,Ale hc t y z ho id off hy hid obj hob cs hcs h1 h2 h0,h⟩
  ·exact h.elim
 ·rename_i t y ho; exact ⟨_,_,_,_,_,AoG hc t y ho h.1,h.2⟩
 ·rename_i t ho
  split at h
  ·rename_i z hz; exact ⟨_,_,_,_,_,Alo t ho z hz,h⟩
  ·exact h.elim
 ·rename_i t y f ho
  split at h
  ·rename_i d hd
   split at h
   ·rename_i cs hy; exact ⟨_,_,_,_,_,Aj8 hc t y f ho cs hy d hd,h⟩
   ·rename_i id off hy
    obtain ⟨hid,obj,cs,hob,hcs,h0,h⟩:=Aby h
    exact ⟨_,_,_,_,_,Aj7 hc t y f ho id off hy hid obj hob (AcY hcs h0) d hd,h⟩
   ·exact h.elim
  ·exact h.elim
 ·rename_i y ho
  split at h
  ·rename_i cs hy; exact ⟨_,_,_,_,_,Ahe hc y ho cs hy,h⟩
  ·rename_i f cs hy; exact ⟨_,_,_,_,_,Ahd hc y ho f cs hy,h⟩
  ·rename_i id off hy
   obtain ⟨hid,obj,cs,hob,hcs,h0,h⟩:=Aby h
   exact ⟨_,_,_,_,_,Ahc hc y ho id off hy hid obj hob (AcY hcs h0),h⟩
  ·exact h.elim
 ·rename_i t y z ho
  unfold AsS at h
  split at h
  ·rename_i k i hz
   split at h
   ·rename_i nl fl xs hy
    split at h
    ·rename_i e es by_ hE
     obtain ⟨h0,h1,h2,h3,h⟩:=h
     exact ⟨_,_,_,_,_,Aj4 hc t y z ho nl fl xs hy k i hz e es by_ hE h0 h1 _ (by simp [h1]) h2 h3,h⟩
    ·exact h.elim
   ·rename_i id off es len full hy
    split at h
    ·rename_i e es' by_ hE
     obtain ⟨hid,obj,cs,hob,hcs,h0,rfl,h1,h2,h⟩:=Aby h
     exact ⟨_,_,_,_,_,Aj3 hc t y z ho id off _ len full hy hid obj hob (AcY hcs h0) k i hz e by_ hE h1 h2,h⟩
    ·exact h.elim
   ·rename_i cs hy
    split at h
    ·rename_i m es hE; exact ⟨_,_,_,_,_,Ai9 hc t y z ho cs hy k i hz m es hE h.1 h.2.1,h.2.2⟩
    ·exact h.elim
   ·rename_i id off hy
    split at h
    ·rename_i m es hE
     obtain ⟨hid,obj,cs,hob,hcs,h0,h1,h2,h⟩:=Aby h
     exact ⟨_,_,_,_,_,Ai8 hc t y z ho id off hy hid obj hob (AcY hcs h0) k i hz m es hE h1 h2,h⟩
    ·exact h.elim
   ·exact h.elim
  ·exact h.elim
 ·rename_i t y z ho
  split at h
  ·rename_i b k i hy hz
   exact ⟨_,_,_,_,_,Aj5 hc t y z ho b hy k i hz (Ads h.1) h.2.1 h.2.2.1,h.2.2.2⟩
  ·rename_i xs k i hy hz
   split at h
   ·rename_i m kk hE
    obtain ⟨e,hu,ha,hs⟩:=AnC hE
    exact ⟨_,_,_,_,_,Aj6 hc t y z ho xs hy k i hz m e hu ha hs h.1 h.2.1 _ (by rw [List.getElem?_eq_getElem h.2.2.1]; rfl),h.2.2.2⟩
   ·exact h.elim
  ·exact h.elim
 ·rename_i y i ho
  split at h
  ·rename_i xs hy
   split at h
   ·rename_i x hx; exact ⟨_,_,_,_,_,Aj9 hc y i ho xs hy x hx,h⟩
   ·exact h.elim
  ·exact h.elim
 ·rename_i f first caps ho
  have : first = #[]:=Array.size_eq_zero_iff.1 h.1
  subst this
  exact ⟨_,_,_,_,_,Ai7 hc f caps ho,h.2⟩
 ·rename_i t y l hh m ho
  split at h
  ·rename_i nl fl xs hy
   split at h
   ·rename_i e es by_ hE
    obtain ⟨h0,h⟩:=h
    obtain ⟨lo,hlo,h⟩:=AfI h
    obtain ⟨hi,hhi,hm,h1,h2,h⟩:=AfI h
    exact ⟨_,_,_,_,_,Aj1 hc t y l hh m ho nl fl xs hy e es by_ hE h0.1 lo hi hlo hhi hm h1 h2,h⟩
   ·exact h.elim
  ·rename_i b hy
   obtain ⟨h0,rfl,h⟩:=h
   obtain ⟨lo,hlo,h⟩:=AfI h
   obtain ⟨hi,hhi,h1,h2,h⟩:=AfI h
   exact ⟨_,_,_,_,_,Ajz hc t y l hh ho b hy (Ads h0) lo hi hlo hhi h1 h2,h⟩
  ·rename_i id off es len full hy
   split at h
   ·rename_i e es' by_ hE
    obtain ⟨hid,obj,cs,hob,hcs,h0,rfl,h⟩:=Aby h
    obtain ⟨lo,hlo,h⟩:=AfI h
    obtain ⟨hi,hhi,hm,h1,h2,h⟩:=AfI h
    exact ⟨_,_,_,_,_,Aj0 hc t y l hh m ho id off _ len full hy hid obj hob (AcY hcs h0) e by_ hE lo hi hlo hhi hm h1 h2,h⟩
   ·exact h.elim
  ·exact h.elim
 ·rename_i t n parts ho
  split at h
  ·rename_i e es by_ hE
   obtain ⟨h1,h2,h3,h4,h5,h⟩:=h
   split at h
   ·exact ⟨_,_,_,_,_,Agh hc t n parts ho e es by_ hE h1 h2 h3.1 h3.2 h4 h5,h⟩
   ·exact ⟨_,_,_,_,_,Agi hc t n parts ho e es by_ hE h1 h2 h3.1 h3.2 h4 h5,h⟩
  ·exact h.elim
 ·rename_i t y z ho
  split at h
  ·rename_i e es by_ hE
   split at h
   ·rename_i k m k' m' x hy hz hx
    obtain ⟨rfl,h0,h1,h2,h⟩:=h
    split at h
    ·exact ⟨_,_,_,_,_,AhB hc t y z ho e es by_ hE k k' _ hy hz h0 h1 h2 x hx,h⟩
    ·exact ⟨_,_,_,_,_,AhC hc t y z ho e es by_ hE k k' _ hy hz h0 h1 h2 x hx,h⟩
   ·exact h.elim
  ·exact h.elim
 ·rename_i t parts ho
  obtain ⟨h0,h⟩:=h
  split at h
  ·rename_i cs hb; exact ⟨_,_,_,_,_,Aln hc t parts ho h0 cs hb,h⟩
  ·exact h.elim
 ·rename_i src dst y ho
  split at h
  ·rename_i k n hy
   obtain ⟨h0,h⟩:=h
   split at h
   ·rename_i k' hk; exact ⟨_,_,_,_,_,AjB hc src dst y ho k k' n hy h0 (AlG hk),h⟩
   ·exact h.elim
  ·rename_i b hy
   obtain ⟨h0,h1,h2,h⟩:=h
   obtain ⟨e,he,he2⟩:=Af9 h1
   split at h2
   ·rename_i e' es by_ hE
    subst h2
    obtain ⟨i,hu,_⟩:=AbS hE
    rw [he] at hu
    simp only [Option.some.injEq,Go.TypeDesc.slice.injEq] at hu
    subst hu
    split at h
    ·exact ⟨_,_,_,_,_,AiT hc src dst e by_ y ho (Ads h0) hE he2 b hy,h⟩
    ·exact ⟨_,_,_,_,_,AjC hc src dst e by_ y ho (Ads h0) hE he2 b hy,h⟩
   ·exact h2.elim
  ·rename_i id off es len full hy
   rcases h with ⟨rfl,rfl,h1,h⟩ | ⟨h0,h1,h⟩
   ·obtain ⟨e,he,he2⟩:=Af9 h1
    obtain ⟨hid,obj,cs,hob,hcs,hne,h⟩:=Aby h
    exact ⟨_,_,_,_,_,AjA hc src e y ho he he2 id off len full hy hid obj hob (AcY hcs hne) cs hcs,h⟩
   ·obtain ⟨e,he,he2⟩:=Af9 h0
    obtain ⟨ys,T,k1,k2,⟨k3,k4⟩,k5⟩:=Adx h
    exact ⟨_,_,_,_,_,Ahp hc src dst e y ho he he2 (Ads h1) ys T (by rw [hy]; exact k1) (fun b hb=>by rw [hy] at hb; cases hb) k3 k2,k4⟩
  ·rename_i hn1 hn2 hn3
   obtain ⟨h0,h1,h⟩:=h
   obtain ⟨e,he,he2⟩:=Af9 h0
   obtain ⟨ys,T,k1,k2,⟨k3,k4⟩,k5⟩:=Adx h
   exact ⟨_,_,_,_,_,Ahp hc src dst e y ho he he2 (Ads h1) ys T k1 (fun b hb=>hn2 b hb) k3 k2,k4⟩
 ·rename_i t y f ho
  split at h
  ·rename_i cs hy
   split at h
   ·rename_i x hx; exact ⟨_,_,_,_,_,Alj hc t y f ho cs hy x hx,h⟩
   ·exact h.elim
  ·exact h.elim
 ·rename_i t ho; exact ⟨_,_,_,_,_,Aj2 t ho,h⟩
 ·rename_i t y z ok ho
  split at h
  ·rename_i id hy
   obtain ⟨hid,h⟩:=h
   split at h
   ·rename_i es kd zv hob ht
    refine ⟨_,_,_,_,_,Ak5 hc t y z ok ho id hy hid es hob kd zv ht h.1 h.2.1,?_⟩
    have h:=h.2.2
    cases ok
    ·simpa [AjP] using h
    ·simpa [AjP] using h
   ·exact h.elim
  ·exact h.elim
 ·rename_i t y z v ho
  split at h
  ·rename_i id hy
   obtain ⟨hid,h⟩:=h
   split at h
   ·rename_i es kd zv hob ht
    exact ⟨_,_,_,_,_,Af1 hc t y z v (.inl ho) id hy hid es hob kd zv ht h.1 h.2.1,h.2.2⟩
   ·exact h.elim
  ·exact h.elim
 ·rename_i t y z v ho
  split at h
  ·rename_i id hy
   obtain ⟨hid,h⟩:=h
   split at h
   ·rename_i es kd zv hob ht
    exact ⟨_,_,_,_,_,Af1 hc t y z v (.inr ho) id hy hid es hob kd zv ht h.1 h.2.1,h.2.2⟩
   ·exact h.elim
  ·exact h.elim
 ·rename_i c ho
  split at h
  ·rename_i b hb
   exact Ail hc _ b c.args c.argTypes (by rw [ho]; cases c; simp_all) h
  ·rename_i g hg
   split at h
   ·rename_i f caps hf
    obtain ⟨x,H',N',T,W,h1,h2⟩:=h
    exact ⟨x,H',N',T,W,h1 o s g c.args c.argTypes caps hc (by rw [ho]; cases c; simp_all) hf rfl,h2⟩
   ·exact h.elim
  ·exact h.elim
 ·exact h.elim
def oCs (o : Option Aau) : Option (Aau×List AV):=o.bind fun o=>o.cs?.map fun cs=>(o,cs)
@[simp] theorem Apt (cs : List AV) : oCs (some (.cells cs))=some (.cells cs,cs):=rfl
@[simp] theorem Aq0 (cs : List AV) : oCs (some (.grow cs))=some (.grow cs,cs):=rfl
theorem AcV {H : Aao} {N id : Nat} {o : Aau} {cs : List AV} (h : oCs (H id)=some (o,cs)) {k : Aau→List AV→Prop} (hN : id<N) (hk : k o cs) : AeS H N id k:=by
 unfold oCs at h
 cases hh : H id with
 | none=>simp [hh] at h
 | some o' =>
  simp only [hh,Option.bind_some,Option.map_eq_some_iff,Prod.mk.injEq] at h
  obtain ⟨cs',h1,rfl,rfl⟩:=h
  refine ⟨hN,?_⟩
  simp only [hh,h1]; exact hk
def Aot (K : CK) (H : Aao) (N : Nat) (x y : AV) : AV→Prop
 | .bool b=>K (Ai6 b x y) H N [] []
 | _=>False
def Al7 (K : CK) (H : Aao) (N : Nat) (T : List Nat) : Option AV→Prop
 | some r=>K r H N T []
 | none=>False
def AmB (P : Program) (t : TypeId) (K : CK) (H : Aao) (N id off : Nat) : Option (Aau×List AV)→Prop
 | some (_,cs)=>id<N∧Al7 K H N [id] (AeU P t (cs.drop off))
 | none=>False
def Aov (P : Program) (t : TypeId) (K : CK) (H : Aao) (N : Nat) : AV→Prop
 | .cptr cs=>Al7 K H N [] (AeU P t cs)
 | .ptr id off=>AmB P t K H N id off (oCs (H id))
 | _=>False
def AkL (P : Program) (t : TypeId) (z : AV) (K : CK) (H : Aao) (N id off : Nat) : Option (Aau×List AV)→Prop
 | some (obj,cs)=>id<N∧cs≠[]∧z.fits P t=true∧off+z.cells.length≤cs.length∧K .skip (upd H id (some (obj.with (setR cs off z.cells)))) N [id] [id]
 | none=>False
def Al5 (P : Program) (t : TypeId) (z : AV) (K : CK) (H : Aao) (N : Nat) : AV→Prop
 | .ptr id off=>AkL P t z K H N id off (oCs (H id))
 | _=>False
def AmJ (K : CK) (H : Aao) (N : Nat) : Option (List AV)→Prop
 | some z=>K (.ptr N 0) (upd H N (some (.cells z))) (N+1) [] [N]
 | none=>False
def AgI (x : AV) (K : CK) (H : Aao) (N id : Nat) : Option (Aau×List AV)→Prop
 | some (_,cs)=>id<N∧cs≠[]∧K x H N [id] []
 | none=>False
def AmD (K : CK) (H : Aao) (N : Nat) : Option Nat→AV→Prop
 | some d,.cptr cs=>K (.cptr (cs.drop d)) H N [] []
 | some d,.ptr id off=>AgI (.ptr id (off+d)) K H N id (oCs (H id))
 | _,_=>False
def AsC (K : CK) (H : Aao) (N : Nat) : AV→Prop
 | .cptr cs=>K (.cptr cs) H N [] []
 | .fn f cs=>K (.fn f cs) H N [] []
 | .ptr id off=>AgI (.ptr id off) K H N id (oCs (H id))
 | _=>False
def AsE (P : Program) (t : TypeId) (K : CK) (H : Aao) (N : Nat) : AV→AV→Option (TypeId×Nat×Nat)→Option (Nat×Nat)→Prop
 | .lst _ _ xs,.int _ i,some (_,es,_),_=>0≤i∧i.toNat<xs.length∧((xs[i.toNat]?).getD .undef).okc=true∧((xs[i.toNat]?).getD .undef).cells.length=es∧K (.cptr ((xs[i.toNat]?).getD .undef).cells) H N [] []
 | .slc id off es len _,.int _ i,some (_,es',_),_=>es'=es∧0≤i∧i.toNat<len∧AgI (.ptr id (off+i.toNat*es)) K H N id (oCs (H id))
 | .cptr cs,.int _ i,_,some (m,es)=>0≤i∧i<m∧K (.cptr (cs.drop (i.toNat*es))) H N [] []
 | .ptr id off,.int _ i,_,some (m,es)=>0≤i∧i<m∧AgI (.ptr id (off+i.toNat*es)) K H N id (oCs (H id))
 | _,_,_,_=>False
def AmC (P : Program) (t : TypeId) (K : CK) (H : Aao) (N : Nat) : AV→AV→Option (Nat×Abk)→Prop
 | .str b,.int _ i,_=>AkF P t=true∧0≤i∧i.toNat<b.size∧K (.int .u8 (b.data.toList.getD i.toNat 0).toNat) H N [] []
 | .agg xs,.int _ i,some (m,_)=>0≤i∧i<m∧i.toNat<xs.length∧K ((xs[i.toNat]?).getD .undef) H N [] []
 | _,_,_=>False
def Aio (i : Nat) (K : CK) (H : Aao) (N : Nat) : AV→Prop
 | .tup xs=>Al7 K H N [] xs[i]?
 | _=>False
def Am8 (s : Nat→AV) : Option Operand→Prop
 | none=>True
 | some y=>match ev s y with
  | .int _ n=>0≤n
  | _=>False
def Ahg (s : Nat→AV) (d : Nat) : Option Operand→Nat
 | none=>d
 | some y=>match ev s y with
  | .int _ n=>n.toNat
  | _=>0
theorem Ah5 {s : Nat→AV} {d : Nat} {x : Option Operand} {k : Nat→Prop} (h : Am8 s x) (hk : k (Ahg s d x)) : bnd s d x k:=by
 unfold Am8 at h; unfold Ahg at hk; unfold bnd
 cases x with
 | none=>exact hk
 | some y =>
  simp only [] at h hk ⊢
  split at h
  ·rename_i hy; simp only [hy] at hk ⊢; exact ⟨h,hk⟩
  ·exact h.elim
def Aos (s : Nat→AV) (l h m : Option Operand) (K : CK) (H : Aao) (N id off es len : Nat) (full : Bool) : Option (Aau×List AV)→Prop
 | some (_,cs)=>id<N∧cs≠[]∧Am8 s l∧Am8 s h∧(m=none∨(h.isSome=true∧AcD s 0 m=some (Ahg s len h)))∧Ahg s 0 l≤Ahg s len h∧Ahg s len h≤len ∧
  K (.slc id (off+Ahg s 0 l*es) es (Ahg s len h-Ahg s 0 l) (m.isSome||(full&&h.isNone))) H N [id] []
 | none=>False
def Al6 (P : Program) (t : TypeId) (s : Nat→AV) (l h m : Option Operand) (K : CK) (H : Aao) (N : Nat) : AV→Option (TypeId×Nat×Nat)→Prop
 | .lst nl fl xs,some (_,es,_)=>okEls es xs∧Am8 s l∧Am8 s h∧(m=none∨(h.isSome=true∧AcD s 0 m=some (Ahg s xs.length h)))∧Ahg s 0 l≤Ahg s xs.length h∧Ahg s xs.length h≤xs.length ∧
  K (.lst nl (m.isSome||(fl&&h.isNone)) ((xs.take (Ahg s xs.length h)).drop (Ahg s 0 l))) H N [] []
 | .str b,_=>AkF P t=true∧m=none∧Am8 s l∧Am8 s h∧Ahg s 0 l≤Ahg s b.size h∧Ahg s b.size h≤b.size∧K (.str (b.extract (Ahg s 0 l) (Ahg s b.size h))) H N [] []
 | .slc id off es len full,some (_,es',_)=>es'=es∧Aos s l h m K H N id off es len full (oCs (H id))
 | _,_=>False
def Al9 (K : CK) (H : Aao) (N : Nat) (x : AV) (y : List AV) (o : Aau) : Bool→Prop
 | true=>K x (upd H N (some o)) (N+1) [] [N]
 | false=>K (.lst false true y) H N [] []
def AsD (s : Nat→AV) (n : Nat) (parts : List (Nat×Operand)) (mu : Bool) (K : CK) (H : Aao) (N : Nat) : Option (TypeId×Nat×Nat)→Prop
 | some (_,es,_)=>AgF 0 parts=true∧parts.length=n∧okEls es (parts.map fun p=>ev s p.2)∧n*es≤16777216∧0<es ∧
  Al9 K H N (.slc N 0 es n true) (parts.map fun p=>ev s p.2) (.cells (AaM (parts.map fun p=>ev s p.2))) mu
 | none=>False
def Al8 (P : Program) (mu : Bool) (K : CK) (H : Aao) (N : Nat) : AV→AV→Option (TypeId×Nat×Nat)→Prop
 | .int _ m,.int _ m',some (e,es,by_)=>m'=m∧0≤m∧by_*m.toNat≤281474976710656∧m.toNat≤maxLen∧(Abn P e).isSome=true ∧
  Al9 K H N (.slc N 0 es m.toNat true) (List.replicate m.toNat ((Abn P e).getD .undef)) (.cells (AaM (List.replicate m.toNat ((Abn P e).getD .undef)))) mu
 | _,_,_=>False
def AmI (K : CK) (H : Aao) (N : Nat) : Option (List AV)→Prop
 | some cs=>K (.agg cs) H N [] []
 | none=>False
def AmH (n : Int) (K : CK) (H : Aao) (N : Nat) : Option IntKind→Prop
 | some k'=>K (.int k' (k'.wrap n)) H N [] []
 | none=>False
def AsG : Option (TypeId×Nat×Nat)→Prop
 | some (_,es,_)=>es=1
 | none=>False
def Aql (n : Nat) : Option (Aau×List AV)→Prop
 | some (_,cs)=>n≤cs.length
 | none=>False
theorem AlV {n : Nat} {x : Option (Aau×List AV)} (h : Aql n x) : ∃ o cs,x=some (o,cs)∧n≤cs.length:=by
 unfold Aql at h; split at h
 ·exact ⟨_,_,rfl,h⟩
 ·exact h.elim
def AmS (H : Aao) (N : Nat) : AV→Prop
 | .lst _ _ _ | .str _=>True
 | .slc id off es len _=>es=1∧id<N∧Aql (off+len) (oCs (H id))
 | _=>False
def Aju : AV→List Nat
 | .slc id _ _ _ _=>[id]
 | _=>[]
def AeZ (H : Aao) : AV→List AV
 | .lst _ _ ys=>ys
 | .str b=>bytes b.data.toList
 | .slc id off _ len _=>(((oCs (H id)).map (·.2)).getD []).drop off |>.take len
 | _=>[]
theorem Afp {H : Aao} {N : Nat} {X : AV} {k : List AV→List Nat→Prop} (h : AmS H N X) (hk : k (AeZ H X) (Aju X)) : AmN H N X k:=by
 unfold AmS at h
 split at h
 ·exact hk
 ·exact hk
 ·rename_i id off es len f
  obtain ⟨rfl,h1,hq⟩:=h
  obtain ⟨o,cs,h2,h3⟩:=AlV hq
  simp only [AeZ,h2,Option.map_some,Option.getD_some,Aju] at hk
  unfold oCs at h2
  cases hh : H id with
  | none=>simp [hh] at h2
  | some o' =>
   simp only [hh,Option.bind_some,Option.map_eq_some_iff,Prod.mk.injEq] at h2
   obtain ⟨cs',q1,rfl,rfl⟩:=h2
   simp only [AmN,hh,q1]
   exact ⟨trivial,h1,h3,hk⟩
 ·exact h.elim
def AmE (K : CK) (H : Aao) (N : Nat) (b : ByteArray) : Bool→Prop
 | true=>K (.slc N 0 1 b.size false) (upd H N (some (.cells (bytes b.data.toList)))) (N+1) [] [N]
 | false=>K (.lst false false (bytes b.data.toList)) H N [] []
def AmG (P : Program) (src : TypeId) (K : CK) (H : Aao) (N id off es len : Nat) (full : Bool) : Option (Aau×List AV)→Prop
 | some (obj,cs)=>id<N∧cs≠[]∧es=1∧AmU P src=true∧K (.slc id off es len full) (upd H id (some obj)) N [id] [id]
 | none=>False
def AmF (P : Program) (src dst : TypeId) (K : CK) (H : Aao) (N id off es len : Nat) (full : Bool) : Bool→Prop
 | true=>src=dst∧AmG P src K H N id off es len full (oCs (H id))
 | false=>AmU P src=true∧AkF P dst=true∧AmS H N (.slc id off es len full)∧AeR (AeZ H (.slc id off es len full))=true∧K (.str (sOf (AeZ H (.slc id off es len full)))) H N (Aju (.slc id off es len full)) []
def Aow (P : Program) (mu : Bool) (src dst : TypeId) (K : CK) (H : Aao) (N : Nat) : AV→Prop
 | .int _ n=>(P.underlying src).isSome=true∧AmH n K H N (AjR P dst)
 | .str b=>AkF P src=true∧AmU P dst=true∧AsG (Aa6 P dst)∧AmE K H N b mu
 | .slc id off es len full=>AmF P src dst K H N id off es len full (decide (src=dst))
 | X=>AmU P src=true∧AkF P dst=true∧AmS H N X∧AeR (AeZ H X)=true∧K (.str (sOf (AeZ H X))) H N (Aju X) []
def AsL (K : CK) (H : Aao) (N : Nat) (nl : Bool) (ys : List AV) (z : AV) : Option (TypeId×Nat×Nat)→Prop
 | some (_,es,by_)=>okEls es ys∧AmS H N z∧okEls es (AeZ H z)∧(Aju z≠[]→(AeZ H z).all AV.one=true)∧ys.length+(AeZ H z).length≤maxLen∧(ys.length+(AeZ H z).length)*by_≤140737488355328 ∧
  K (.lst (nl&&(AeZ H z).isEmpty) false (ys++AeZ H z)) H N (Aju z) []
 | none=>False
def Aoz (K : CK) (H : Aao) (N id off es len : Nat) (z : AV) : Option (TypeId×Nat×Nat)→Option (Aau×List AV)→Prop
 | some (_,es',by_),some (obj,cs)=>id<N∧es'=es∧0<es∧off+len*es=cs.length∧(off=0∨∃ x,obj = .cells x)∧cs.all AV.one=true∧AmS H N z∧okEls es (AeZ H z)∧(Aju z≠[]→(AeZ H z).all AV.one=true) ∧
  len+(AeZ H z).length≤maxLen∧(len+(AeZ H z).length)*by_≤140737488355328 ∧
  K (.slc N 0 es (len+(AeZ H z).length) false) (upd (upd H id none) N (some (obj.with (cs.drop off++AaM (AeZ H z))))) (N+1) (id::Aju z) [id,N]
 | _,_=>False
def AnA (K : CK) (H : Aao) (N : Nat) (z : AV) : Option (TypeId×Nat×Nat)→Prop
 | some (_,es,by_)=>0<es∧AmS H N z∧okEls es (AeZ H z)∧(Aju z≠[]→(AeZ H z).all AV.one=true)∧(AeZ H z).length≤maxLen∧(AeZ H z).length*by_≤140737488355328 ∧
  K (.slc N 0 es (AeZ H z).length false) (upd H N (some (.grow (AaM (AeZ H z))))) (N+1) (Aju z) [N]
 | none=>False
def AnB (K : CK) (H : Aao) (N : Nat) (ys : List AV) (z : AV) : Option (TypeId×Nat×Nat)→Prop
 | some (_,es,by_)=>0<es∧okEls es ys∧AmS H N z∧AeZ H z≠[]∧okEls es (AeZ H z)∧(Aju z≠[]→(AeZ H z).all AV.one=true)∧ys.length+(AeZ H z).length≤maxLen∧(ys.length+(AeZ H z).length)*by_≤140737488355328 ∧
  K (.slc N 0 es (ys.length+(AeZ H z).length) false) (upd H N (some (.grow (AaM (ys++AeZ H z))))) (N+1) (Aju z) [N]
 | none=>False
def Asj (mu : List Nat) (d : Option Nat) : Bool:=match d with | some d=>mu.contains (d+1000000) | none=>false
def Ao0 (K : CK) (H : Aao) (N : Nat) (nl fl : Bool) (ys : List AV) (z : AV) (e : Option (TypeId×Nat×Nat)) : Bool→Prop
 | true=>fl=true∧nl=false∧AnB K H N ys z e
 | false=>(nl=true∨(fl=true∧ys = []))∧AnA K H N z e
def Ao1 (mf : Bool) (K : CK) (H : Aao) (N : Nat) (nl fl : Bool) (ys : List AV) (z : AV) (e : Option (TypeId×Nat×Nat)) : Bool→Prop
 | true=>Ao0 K H N nl fl ys z e mf
 | false=>(fl=true∨nl=true)∧AsL K H N nl ys z e
def oMp : Option Aau→Option (List (AV×AV))
 | some (.mp es)=>some es
 | _=>none
@[simp] theorem Asb (es : List (AV×AV)) : oMp (some (.mp es))=some es:=rfl
theorem Ago {o : Option Aau} {es : List (AV×AV)} (h : oMp o=some es) : o=some (.mp es):=by
 unfold oMp at h; split at h
 ·simp only [Option.some.injEq] at h; rw [h]
 ·cases h
def Aox (K : CK) (H : Aao) (N id off es len : Nat) (obj : Aau) (cs : List AV) : Option AV→Prop
 | some x=>cs≠[]∧off+len*es≤cs.length∧x.cells.length=es∧x.cells.all AV.one=true∧K (.tup []) (upd H id (some (obj.with (setR cs off (AaM (List.replicate len x)))))) N [id] [id]
 | none=>False
def AsJ (P : Program) (K : CK) (H : Aao) (N id off es len : Nat) : Option (TypeId×Nat×Nat)→Option (Aau×List AV)→Prop
 | some (e,es',_),some (obj,cs)=>id<N∧es'=es∧Aox K H N id off es len obj cs (Abn P e)
 | _,_=>False
def AsI (K : CK) (H : Aao) (N id off es len : Nat) (z : AV) : Option (TypeId×Nat×Nat)→Option (Aau×List AV)→Prop
 | some (_,es',_),some (obj,cs)=>id<N∧es'=es∧cs≠[]∧off+len*es≤cs.length∧AmS H N z∧okEls es (AeZ H z)∧(Aju z≠[]→(AeZ H z).all AV.one=true)∧(AeZ H z).length≤len ∧
  K (.int .i64 (AeZ H z).length) (upd H id (some (obj.with (setR cs off (AaM (AeZ H z)))))) N (id::Aju z) [id]
 | _,_=>False
def AsH (K : CK) (H : Aao) (N id : Nat) (z : AV) : Option (List (AV×AV))→Option (Abk×AV)→Prop
 | some es,some (kd,_)=>id<N∧kd.has z=true∧(es.all fun p=>kd.has p.1)=true∧K (.tup []) (upd H id (some (.mp (AiX es z)))) N [id] [id]
 | _,_=>False
def Aip (P : Program) (mu mf : Bool) (K : CK) (H : Aao) (N : Nat) : Builtin→List TypeId→List AV→Prop
 | .len,[t],[.lst _ _ ys]=>AlF P t=true∧K (.int .i64 ys.length) H N [] []
 | .len,[t],[.str b]=>AkF P t=true∧K (.int .i64 b.size) H N [] []
 | .len,[t],[.slc id _ _ len _]=>AlF P t=true∧id<N∧(∃ o,H id=some o)∧K (.int .i64 len) H N [id] []
 | .max,_,[.int k a,.int k' b]=>k=k'∧K (Ap6 k a b) H N [] []
 | .min,_,[.int k a,.int k' b]=>k=k'∧K (Ap5 k a b) H N [] []
 | .append,[t,t'],[.lst nl fl ys,z]=>Acs P t'=true∧Ao1 mf K H N nl fl ys z (Aa6 P t) mu
 | .append,[t,t'],[.slc id off es len _,z]=>Acs P t'=true∧Aoz K H N id off es len z (Aa6 P t) (oCs (H id))
 | .clear,[t],[.slc id off es len _]=>AsJ P K H N id off es len (Aa6 P t) (oCs (H id))
 | .copy,[t,_],[.slc id off es len _,z]=>AsI K H N id off es len (Aja len z) (Aa6 P t) (oCs (H id))
 | .delete,[t,_],[.map id,z]=>AsH K H N id z (oMp (H id)) (Aea P t)
 | _,_,_=>False
def Aoy (P : Program) (args : List AV) (K : CK) (H : Aao) (N : Nat) : AV→Prop
 | .fn f caps=>AlO P f (args++caps) H N K
 | _=>False
def AsK (op : BinOp) (x y : AV) (K : CK) (H : Aao) (N : Nat) : Option AV→Prop
 | some r=>Agj op x y∧K r H N [] []
 | none=>False
def AkM (K : CK) (H : Aao) (N : Nat) (q : Option (Nat×Option Nat)) : AV→Prop
 | .agg cs=>Al7 K H N [] (Aha cs q)
 | _=>False
def AmA (K : CK) (H : Aao) (N id : Nat) (z : AV) (ok : Bool) : Option (List (AV×AV))→Option (Abk×AV)→Prop
 | some es,some (kd,zv)=>id<N∧kd.has z=true∧(es.all fun p=>kd.has p.1)=true∧K (AjP zv (Afg es z) ok) H N [id] []
 | _,_=>False
def Aou (K : CK) (H : Aao) (N : Nat) (z : AV) (ok : Bool) (q : Option (Abk×AV)) : AV→Prop
 | .map id=>AmA K H N id z ok (oMp (H id)) q
 | _=>False
def Ain (K : CK) (H : Aao) (N id : Nat) (z v : AV) : Option (List (AV×AV))→Option (Abk×AV)→Prop
 | some es,some (kd,_)=>id<N∧kd.has z=true∧(es.all fun p=>kd.has p.1)=true∧K .skip (upd H id (some (.mp (AcZ es z v)))) N [id] [id]
 | _,_=>False
def Ajg (K : CK) (H : Aao) (N : Nat) (z v : AV) (q : Option (Abk×AV)) : AV→Prop
 | .map id=>Ain K H N id z v (oMp (H id)) q
 | _=>False
def bop (P : Program) (mu : List Nat) (d : Option Nat) (s : Nat→AV) (H : Aao) (N : Nat) (K : CK) : Op→Prop
 | .move y=>K (ev s y) H N [] []
 | .assign y=>K (ev s y) H N [] []
 | .pick t x y=>Aot K H N (ev s x) (ev s y) (ev s t)
 | .binOp op xt x y _=>AsK op (ev s x) (ev s y) K H N (Aqf P op xt (ev s x) (ev s y))
 | .unOp op _ x=>Al7 K H N [] (aun op (ev s x))
 | .load t y=>Aov P t K H N (ev s y)
 | .store t y z=>Al5 P t (ev s z) K H N (ev s y)
 | .box t y=>(ev s y).fits P t=true∧K (.ptr N 0) (upd H N (some (.cells (ev s y).cells))) (N+1) [] [N]
 | .alloc t=>AmJ K H N (Abr P t)
 | .fieldAddr t y f=>AmD K H N (Ab1 P t f) (ev s y)
 | .nilCheck y=>AsC K H N (ev s y)
 | .indexAddr t y z=>AsE P t K H N (ev s y) (ev s z) (Aa6 P t) (Ae4 P t)
 | .index t y z=>AmC P t K H N (ev s y) (ev s z) (AnD P t)
 | .extract y i=>Aio i K H N (ev s y)
 | .makeFunc (.func f) first caps=>first.size=0∧K (.fn f (caps.toList.map (ev s))) H N [] []
 | .slice t y l h m=>Al6 P t s l h m K H N (ev s y) (Aa6 P t)
 | .buildSlice t n parts=>AsD s n parts.toList (Amv mu d) K H N (Aa6 P t)
 | .makeSlice t y z=>Al8 P (Amv mu d) K H N (ev s y) (ev s z) (Aa6 P t)
 | .build t parts=>Acf P t=true∧AmI K H N (Ajk P t (parts.toList.map fun p=>(p.1,ev s p.2)))
 | .convert src dst y=>Aow P (Amv mu d) src dst K H N (ev s y)
 | .field t y f=>AkM K H N (Ab9 P t f) (ev s y)
 | .makeMap _ none=>K (.map N) (upd H N (some (.mp []))) (N+1) [] [N]
 | .lookup t y z ok=>Aou K H N (ev s z) ok (Aea P t) (ev s y)
 | .mapUpdate t y z v=>Ajg K H N (ev s z) (ev s v) (Aea P t) (ev s y)
 | .insert t y z v=>Ajg K H N (ev s z) (ev s v) (Aea P t) (ev s y)
 | .call { callee := .builtin b,args:=as,argTypes:=ts } => Aip P (Amv mu d) (Asj mu d) K H N b ts.toList (as.toList.map (ev s))
 | .call { callee := .value g,args:=as,argTypes:=_ } => Aoy P (as.toList.map (ev s)) K H N (ev s g)
 | _=>False
theorem Aor (h : bop P mu o.dst s H N K o.op) : aop P mu o s H N K:=by
 generalize ho : o.op=p at h
 unfold aop
 rw [ho]
 unfold bop at h
 split at h
 ·exact h
 ·exact h
 ·unfold Aot at h; split at h
  ·rename_i hh; simp only [hh]; exact h
  ·exact h.elim
 ·unfold AsK at h; split at h
  ·rename_i hh; simp only [hh]; exact h
  ·exact h.elim
 ·unfold Al7 at h; split at h
  ·rename_i hh; simp only [hh]; exact h
  ·exact h.elim
 ·unfold Aov at h; split at h
  ·rename_i hh; simp only [hh]
   unfold Al7 at h; split at h
   ·rename_i h2; simp only [h2]; exact h
   ·exact h.elim
  ·rename_i hh; simp only [hh]
   unfold AmB at h; split at h
   ·rename_i h2
    refine AcV h2 h.1 ?_
    have h3:=h.2
    unfold Al7 at h3; split at h3
    ·rename_i h4; simp only [h4]; exact h3
    ·exact h3.elim
   ·exact h.elim
  ·exact h.elim
 ·unfold Al5 at h; split at h
  ·rename_i hh; simp only [hh]
   unfold AkL at h; split at h
   ·rename_i h2; exact AcV h2 h.1 h.2
   ·exact h.elim
  ·exact h.elim
 ·exact h
 ·unfold AmJ at h; split at h
  ·rename_i hh; simp only [hh]; exact h
  ·exact h.elim
 ·unfold AmD at h; split at h
  ·rename_i h1 h2; simp only [h1,h2]; exact h
  ·rename_i h1 h2; simp only [h1,h2]
   unfold AgI at h; split at h
   ·rename_i h3; exact AcV h3 h.1 h.2
   ·exact h.elim
  ·exact h.elim
 ·unfold AsC at h; split at h
  ·rename_i h1; simp only [h1]; exact h
  ·rename_i h1; simp only [h1]; exact h
  ·rename_i h1; simp only [h1]
   unfold AgI at h; split at h
   ·rename_i h3; exact AcV h3 h.1 h.2
   ·exact h.elim
  ·exact h.elim
 ·simp only []
  unfold AsS
  unfold AsE at h; split at h
  ·rename_i h1 h2 h3; simp only [h1,h2,h3]; exact h
  ·rename_i h1 h2 h3; simp only [h1,h2,h3]
   obtain ⟨q1,q2,q3,h⟩:=h
   unfold AgI at h; split at h
   ·rename_i h4; exact AcV h4 h.1 ⟨h.2.1,q1,q2,q3,h.2.2⟩
   ·exact h.elim
  ·rename_i h1 h2 h3; simp only [h1,h2,h3]; exact h
  ·rename_i h1 h2 h3; simp only [h1,h2,h3]
   obtain ⟨q2,q3,h⟩:=h
   unfold AgI at h; split at h
   ·rename_i h4; exact AcV h4 h.1 ⟨h.2.1,q2,q3,h.2.2⟩
   ·exact h.elim
  ·exact h.elim
 ·unfold AmC at h; split at h
  ·rename_i h1 h2; simp only [h1,h2]; exact h
  ·rename_i h1 h2 h3; simp only [h1,h2,h3]; exact h
  ·exact h.elim
 ·unfold Aio at h; split at h
  ·rename_i h1; simp only [h1]
   unfold Al7 at h; split at h
   ·rename_i h2; simp only [h2]; exact h
   ·exact h.elim
  ·exact h.elim
 ·exact h
 ·unfold Al6 at h; split at h
  ·rename_i h1 h2; simp only [h1,h2]
   obtain ⟨q1,q2,q3,q4,q5,q6,h⟩:=h
   exact ⟨q1,Ah5 q2 (Ah5 q3 ⟨q4,q5,q6,h⟩)⟩
  ·rename_i h1; simp only [h1]
   obtain ⟨q0,q1,q2,q3,q5,q6,h⟩:=h
   exact ⟨q0,q1,Ah5 q2 (Ah5 q3 ⟨q5,q6,h⟩)⟩
  ·rename_i h1 h2; simp only [h1,h2]
   obtain ⟨q1,h⟩:=h
   unfold Aos at h; split at h
   ·rename_i h3
    obtain ⟨q2,q3,q4,q5,q6,q7,q8,h⟩:=h
    exact AcV h3 q2 ⟨q3,q1,Ah5 q4 (Ah5 q5 ⟨q6,q7,q8,h⟩)⟩
   ·exact h.elim
  ·exact h.elim
 ·unfold AsD at h; split at h
  ·rename_i h1; simp only [h1]
   obtain ⟨q1,q2,q3,q4,q5,h⟩:=h
   refine ⟨q1,by simpa using q2,q3,q4,q5,?_⟩
   unfold Al9 at h
   split at h
   ·rename_i h2; simp only [h2,if_true]; exact h
   ·rename_i h2; simp only [h2,Bool.false_eq_true,if_false]; exact h
  ·exact h.elim
 ·unfold Al8 at h; split at h
  ·rename_i h1 h2 h3; simp only [h1,h2,h3]
   obtain ⟨q1,q2,q3,q4,q5,h⟩:=h
   obtain ⟨x,hx⟩:=Option.isSome_iff_exists.1 q5
   simp only [hx,Option.getD_some] at h ⊢
   refine ⟨q1,q2,q3,q4,?_⟩
   unfold Al9 at h
   split at h
   ·rename_i h2; simp only [h2,if_true]; exact h
   ·rename_i h2; simp only [h2,Bool.false_eq_true,if_false]; exact h
  ·exact h.elim
 ·refine ⟨h.1,?_⟩
  have h2:=h.2
  unfold AmI at h2; split at h2
  ·rename_i h3; simp only [h3]; exact h2
  ·exact h2.elim
 ·unfold Aow at h; split at h
  ·rename_i h1; simp only [h1]
   refine ⟨h.1,?_⟩
   have h2:=h.2
   unfold AmH at h2; split at h2
   ·rename_i h3; simp only [h3]; exact h2
   ·exact h2.elim
  ·rename_i h1; simp only [h1]
   obtain ⟨q1,q2,q3,h⟩:=h
   refine ⟨q1,q2,?_,?_⟩
   ·unfold AsG at q3; split at q3
    ·rename_i h3; simp only [h3]; exact q3
    ·exact q3.elim
   ·unfold AmE at h; split at h
    ·rename_i h3; simp only [h3,if_true]; exact h
    ·rename_i h3; simp only [h3,Bool.false_eq_true,if_false]; exact h
  ·rename_i h1; simp only [h1]
   unfold AmF at h; split at h
   ·left
    obtain ⟨q0,h⟩:=h
    unfold AmG at h; split at h
    ·rename_i h3
     obtain ⟨r1,r2,r3,r4,h⟩:=h
     exact ⟨q0,r3,r4,AcV h3 r1 ⟨r2,h⟩⟩
    ·exact h.elim
   ·right
    obtain ⟨r1,r2,r3,r4,h⟩:=h
    exact ⟨r1,r2,Afp r3 ⟨r4,h⟩⟩
  ·rename_i n1 n2 n3
   obtain ⟨q1,q2,q3,q4,h⟩:=h
   simp only []
   exact ⟨q1,q2,Afp q3 ⟨q4,h⟩⟩
 ·unfold AkM at h; split at h
  ·rename_i h1; simp only [h1]
   unfold Al7 at h; split at h
   ·rename_i h2; simp only [h2]; exact h
   ·exact h.elim
  ·exact h.elim
 ·exact h
 ·unfold Aou at h; split at h
  ·rename_i h1; simp only [h1]
   unfold AmA at h; split at h
   ·rename_i h2 h3
    simp only [Ago h2,h3]; exact h
   ·exact h.elim
  ·exact h.elim
 ·unfold Ajg at h; split at h
  ·rename_i h1; simp only [h1]
   unfold Ain at h; split at h
   ·rename_i h2 h3
    simp only [Ago h2,h3]; exact h
   ·exact h.elim
  ·exact h.elim
 ·unfold Ajg at h; split at h
  ·rename_i h1; simp only [h1]
   unfold Ain at h; split at h
   ·rename_i h2 h3
    simp only [Ago h2,h3]; exact h
   ·exact h.elim
  ·exact h.elim
 ·rename_i b as ts
  simp only []
  generalize ts.toList=tl at h ⊢
  generalize as.toList.map (ev s)=xs at h ⊢
  unfold Aip at h
  unfold Agx
  split at h
  ·exact h
  ·exact h
  ·exact h
  ·exact h
  ·exact h
  ·rename_i t t' nl fl ys z
   obtain ⟨q2,h⟩:=h
   simp only []
   refine ⟨q2,?_⟩
   unfold Ao1 at h; split at h
   ·rename_i hmu
    rw [if_pos hmu]
    have h : (fl=true∧nl=false∧AnB K H N ys z (Aa6 P t))∨((nl=true∨(fl=true∧ys = []))∧AnA K H N z (Aa6 P t)):=by
     unfold Ao0 at h; split at h
     ·exact .inl h
     ·exact .inr h
    rcases h with ⟨hf,hn,h⟩ | h
    ·left
     refine ⟨hf,hn,?_⟩
     unfold AnB at h; split at h
     ·rename_i h3; simp only [h3]
      obtain ⟨r1,r2,r3,r4,r5,r6,r7,r8,h⟩:=h
      exact ⟨r1,r2,Afp r3 ⟨r4,r5,r6,r7,r8,h⟩⟩
     ·exact h.elim
    right
    refine ⟨h.1,?_⟩
    have h:=h.2
    unfold AnA at h; split at h
    ·rename_i h3; simp only [h3]
     obtain ⟨r1,r2,r3,r4,r5,r6,h⟩:=h
     exact ⟨r1,Afp r2 ⟨r3,r4,r5,r6,h⟩⟩
    ·exact h.elim
   ·rename_i hmu
    rw [if_neg (by simp [hmu])]
    refine ⟨h.1,?_⟩
    have h:=h.2
    unfold AsL at h; split at h
    ·rename_i h3; simp only [h3]
     obtain ⟨r1,r2,r3,r4,r5,r6,h⟩:=h
     exact ⟨r1,Afp r2 ⟨r3,r4,r5,r6,h⟩⟩
    ·exact h.elim
  ·obtain ⟨q2,h⟩:=h
   simp only []
   unfold Aoz at h; split at h
   ·rename_i h3 h4; simp only [h3]
    obtain ⟨r0,r1,r2,r3,r4,r5,r6,r7,r8,r9,r10,h⟩:=h
    have h5:=AcV (k:=fun obj' cs'=>obj'=_∧cs'=_) h4 r0 ⟨rfl,rfl⟩
    obtain ⟨_,o',cs',e1,e2,rfl,rfl⟩:=Aby h5
    simp only [e1,e2]
    exact ⟨r0,q2,r1,r2,r3,r4,r5,Afp r6 ⟨r7,r8,r9,r10,h⟩⟩
   ·exact h.elim
  ·rename_i t id off es len full
   simp only []
   unfold AsJ at h; split at h
   ·rename_i h3 h4; simp only [h3]
    obtain ⟨r0,r1,h⟩:=h
    unfold Aox at h; split at h
    ·rename_i x h5; simp only [h5]
     obtain ⟨q0,q1,q2,q3,h⟩:=h
     exact AcV h4 r0 ⟨q0,r1,q1,q2,q3,h⟩
    ·exact h.elim
   ·exact h.elim
  ·rename_i t t' id off es len full z
   simp only []
   unfold AsI at h; split at h
   ·rename_i h3 h4; simp only [h3]
    obtain ⟨r0,r1,q0,q1,r6,r7,r8,r9,h⟩:=h
    exact AcV h4 r0 ⟨q0,r1,q1,Afp r6 ⟨r7,r8,r9,h⟩⟩
   ·exact h.elim
  ·rename_i t t' id z
   simp only []
   unfold AsH at h; split at h
   ·rename_i h3 h4
    obtain ⟨r0,r1,r2,h⟩:=h
    have h5:=Ago h3
    simp only [h5,h4]
    exact ⟨r0,r1,r2,h⟩
   ·exact h.elim
  ·exact h.elim
 ·unfold Aoy at h; split at h
  ·rename_i h1; simp only [h1]; exact h
  ·exact h.elim
 ·exact h.elim
theorem AhS (hc : Aaq o=true) (h : bop P mu o.dst s H N K o.op) : Ao6 P o s H N K:=AmL hc (Aor h)
def ApJ (ops : List Oper) : List Oper→List (Option (Nat×Bool))→Bool
 | [],[]=>true
 | o::os,g::gs=>(match o.guard,g with
  | none,none=>true
  | some (j,w),some (d,w')=>(ops[j]?).bind (·.dst)==some d&&w==w'
  | _,_=>false)&&ApJ ops os gs
 | _,_=>false
def Aee (P : Program) (mu : List Nat) : List Oper→List (Option (Nat×Bool))→(Nat→AV)→Aao→Nat→Log→((Nat→AV)→Aao→Nat→Log→Prop)→Prop
 | [],_,s,H,N,lg,K=>K s H N lg.reverse
 | _::_,[],_,_,_,_,_=>False
 | o::os,none::gs,s,H,N,lg,K=>bop P mu o.dst s H N (fun x H' N' T W=>Aee P mu os gs (Abv s o.dst x) H' N' ((T,W)::lg) K) o.op
 | o::os,some (d,want)::gs,s,H,N,lg,K=>match s d with
  | .bool b=>(b=want→bop P mu o.dst (upd s d (.bool want)) H N (fun x H' N' T W=>Aee P mu os gs (Abv (upd s d (.bool want)) o.dst x) H' N' ((T,W)::lg) K) o.op) ∧
   (b = !want→Aee P mu os gs (Abv (upd s d (.bool !want)) o.dst .skip) H N (([],[])::lg) K)
  | .skip=>Aee P mu os gs (Abv s o.dst .skip) H N (([],[])::lg) K
  | _=>False
def Aoa (P : Program) (mu : List Nat) (os : List Oper) (gs : List (Option (Nat×Bool))) (s : Nat→AV) (d : Option Nat) (lg : Log) (K : (Nat→AV)→Aao→Nat→Log→Prop) : CK :=
 fun x H' N' T W=>Aee P mu os gs (Abv s d x) H' N' ((T,W)::lg) K
@[simp] theorem ArJ {P : Program} {mu : List Nat} {gs : List (Option (Nat×Bool))} {s : Nat→AV} {H : Aao} {N : Nat} {lg : Log} {K : (Nat→AV)→Aao→Nat→Log→Prop} : Aee P mu [] gs s H N lg K=K s H N lg.reverse:=by unfold Aee; rfl
@[simp] theorem Aqc {P : Program} {mu : List Nat} {d : Option Nat} {op : Op} {ty : TypeId} {pos : String} {af : Array Edge} {g : Option (Nat×Bool)} {os : List Oper} {gs : List (Option (Nat×Bool))} {s : Nat→AV} {H : Aao} {N : Nat} {lg : Log} {K : (Nat→AV)→Aao→Nat→Log→Prop} :
 Aee P mu (⟨d,op,ty,pos,af,g⟩::os) (none::gs) s H N lg K=bop P mu d s H N (Aoa P mu os gs s d lg K) op:=by
 conv=>lhs; unfold Aee
 rfl
theorem AkS {α : Type} {s : Nat→α} {j : Nat} {v : α} (h : s j=v) : upd s j v=s:=by
 funext t
 by_cases e : t=j
 ·subst e; rw [AbZ,h]
 ·rw [AbR _ _ e]
theorem Ae5 {P : Program} {mu : List Nat} {d : Option Nat} {op : Op} {ty : TypeId} {pos : String} {af : Array Edge} {g : Option (Nat×Bool)} {os : List Oper} {j : Nat} {gs : List (Option (Nat×Bool))} {s : Nat→AV} {H : Aao} {N : Nat} {lg : Log} {K : (Nat→AV)→Aao→Nat→Log→Prop} {want : Bool} :
 Aee P mu (⟨d,op,ty,pos,af,g⟩::os) (some (j,want)::gs) s H N lg K=match s j with
  | .bool b=>(b=want→bop P mu d (upd s j (.bool want)) H N (Aoa P mu os gs (upd s j (.bool want)) d lg K) op)∧(b = !want→Aee P mu os gs (Abv (upd s j (.bool !want)) d .skip) H N (([],[])::lg) K)
  | .skip=>Aee P mu os gs (Abv s d .skip) H N (([],[])::lg) K
  | _=>False:=by
 conv=>lhs; unfold Aee
 cases s j <;> rfl
@[simp] theorem AsN {P : Program} {mu : List Nat} {d : Option Nat} {op : Op} {ty : TypeId} {pos : String} {af : Array Edge} {g : Option (Nat×Bool)} {os : List Oper} {j : Nat} {gs : List (Option (Nat×Bool))} {s : Nat→AV} {H : Aao} {N : Nat} {lg : Log} {K : (Nat→AV)→Aao→Nat→Log→Prop} (h : s j = .bool true) : Aee P mu (⟨d,op,ty,pos,af,g⟩::os) (some (j,true)::gs) s H N lg K=bop P mu d s H N (Aoa P mu os gs s d lg K) op:=by
 rw [Ae5,h]; simp [AkS h]
@[simp] theorem AsR {P : Program} {mu : List Nat} {d : Option Nat} {op : Op} {ty : TypeId} {pos : String} {af : Array Edge} {g : Option (Nat×Bool)} {os : List Oper} {j : Nat} {gs : List (Option (Nat×Bool))} {s : Nat→AV} {H : Aao} {N : Nat} {lg : Log} {K : (Nat→AV)→Aao→Nat→Log→Prop} (h : s j = .bool false) : Aee P mu (⟨d,op,ty,pos,af,g⟩::os) (some (j,false)::gs) s H N lg K=bop P mu d s H N (Aoa P mu os gs s d lg K) op:=by
 rw [Ae5,h]; simp [AkS h]
@[simp] theorem AsO {P : Program} {mu : List Nat} {d : Option Nat} {op : Op} {ty : TypeId} {pos : String} {af : Array Edge} {g : Option (Nat×Bool)} {os : List Oper} {j : Nat} {gs : List (Option (Nat×Bool))} {s : Nat→AV} {H : Aao} {N : Nat} {lg : Log} {K : (Nat→AV)→Aao→Nat→Log→Prop} (h : s j = .bool true) : Aee P mu (⟨d,op,ty,pos,af,g⟩::os) (some (j,false)::gs) s H N lg K=Aee P mu os gs (Abv s d .skip) H N (([],[])::lg) K:=by
 rw [Ae5,h]; simp [AkS h]
@[simp] theorem AsQ {P : Program} {mu : List Nat} {d : Option Nat} {op : Op} {ty : TypeId} {pos : String} {af : Array Edge} {g : Option (Nat×Bool)} {os : List Oper} {j : Nat} {gs : List (Option (Nat×Bool))} {s : Nat→AV} {H : Aao} {N : Nat} {lg : Log} {K : (Nat→AV)→Aao→Nat→Log→Prop} (h : s j = .bool false) : Aee P mu (⟨d,op,ty,pos,af,g⟩::os) (some (j,true)::gs) s H N lg K=Aee P mu os gs (Abv s d .skip) H N (([],[])::lg) K:=by
 rw [Ae5,h]; simp [AkS h]
@[simp] theorem AsP {P : Program} {mu : List Nat} {d : Option Nat} {op : Op} {ty : TypeId} {pos : String} {af : Array Edge} {g : Option (Nat×Bool)} {os : List Oper} {j : Nat} {gs : List (Option (Nat×Bool))} {s : Nat→AV} {H : Aao} {N : Nat} {lg : Log} {K : (Nat→AV)→Aao→Nat→Log→Prop} {want : Bool} (h : s j = .skip) : Aee P mu (⟨d,op,ty,pos,af,g⟩::os) (some (j,want)::gs) s H N lg K=Aee P mu os gs (Abv s d .skip) H N (([],[])::lg) K:=by
 rw [Ae5,h]
@[simp] theorem Ar0 {P : Program} {mu : List Nat} {os : List Oper} {gs : List (Option (Nat×Bool))} {s : Nat→AV} {d : Option Nat} {lg : Log} {K : (Nat→AV)→Aao→Nat→Log→Prop} {x : AV} {H : Aao} {N : Nat} {T W : List Nat} :
 Aoa P mu os gs s d lg K x H N T W=Aee P mu os gs (Abv s d x) H N ((T,W)::lg) K:=rfl
@[congr] theorem ApI {P : Program} {mu : List Nat} {os : List Oper} {gs : List (Option (Nat×Bool))} {s : Nat→AV} {d : Option Nat} {lg : Log} {K : (Nat→AV)→Aao→Nat→Log→Prop} : Aoa P mu os gs s d lg K=Aoa P mu os gs s d lg K:=rfl
@[congr] theorem ApS {P : Program} {mu : List Nat} {os : List Oper} {gs : List (Option (Nat×Bool))} {s : Nat→AV} {H : Aao} {N : Nat} {lg : Log} {K : (Nat→AV)→Aao→Nat→Log→Prop} : Aee P mu os gs s H N lg K=Aee P mu os gs s H N lg K:=rfl
@[congr] theorem AqY {P : Program} {mu : List Nat} {d : Option Nat} {op : Op} {s : Nat→AV} {H : Aao} {N : Nat} {K : CK} : bop P mu d s H N K op=bop P mu d s H N K op:=rfl
@[congr] theorem Ao2 {P : Program} {f : FuncId} {args args' : List AV} {H : Aao} {N : Nat} {K : CK} (h : args=args') : AlO P f args H N K=AlO P f args' H N K:=by rw [h]
attribute [simp] AsI Aja AsJ Aox AsH bop Aot Al7 AmB Aov AkL Al5 AmJ AgI AmD AsC AsE AmC Aio Am8 Ahg Aos Al6 Al9 AsD Al8 AmI AmH AsG Aql AmS Aju AeZ Aow AsL AnA Ao1 Aoz Aip Aoy AsK AmE AmG AmF AnB Ao0 AkM AmA Aou Ain Ajg AjP Aha
theorem AoQ {a b : Bool} (h : ¬ a=b) : a = !b:=by cases a <;> cases b <;> simp_all
theorem AfJ {ops : List Oper} {K : (Nat→AV)→Aao→Nat→Log→Prop} : ∀ (l : List Oper) (gs : List (Option (Nat×Bool))) (s : Nat→AV) (H : Aao) (N : Nat) (lg : Log),(∀ o ∈ l,Aaq o=true)→ApJ ops l gs=true →
 Aee P mu l gs s H N lg K→∃ st s' H' N',Tr P ops.toArray l s H N st s' H' N'∧K s' H' N' (lg.reverse++st.map fun t=>(t.T,t.W))
 | [],gs,s,H,N,lg,_,_,h=>⟨[],s,H,N,⟨rfl,rfl,rfl,rfl⟩,by simpa [Aee] using h⟩
 | o::os,[],s,H,N,lg,_,hg,_=>by simp [ApJ] at hg
 | o::os,none::gs,s,H,N,lg,hc,hg,h=>by
  simp only [ApJ,Bool.and_eq_true] at hg
  have hgd : o.guard=none:=by
   cases hh : o.guard with
   | none=>rfl
   | some p=>simp [hh] at hg
  unfold Aee at h
  obtain ⟨x,H',N',T,W,h1,h2⟩:=AhS (hc o (by simp)) h
  obtain ⟨st,s'',H'',N'',k1,k2⟩:=AfJ os gs _ _ _ _ (fun o ho=>hc o (by simp [ho])) hg.2 h2
  exact ⟨⟨true,x,H',T,W,N'⟩::st,s'',H'',N'',⟨_,_,rfl,by simp [AcO,hgd],fun _=>⟨h1.op,h1.rest⟩,fun h=>(by cases h),h1.n,h1.tn,h1.wn,k1⟩,by simpa using k2⟩
 | o::os,some (d,want)::gs,s,H,N,lg,hc,hg,h=>by
  simp only [ApJ,Bool.and_eq_true] at hg
  obtain ⟨j,hgd,hd⟩ : ∃ j,o.guard=some (j,want)∧(ops[j]?).bind (·.dst)=some d:=by
   cases hh : o.guard with
   | none=>simp [hh] at hg
   | some p =>
    obtain ⟨j,w⟩:=p
    simp only [hh,Bool.and_eq_true,beq_iff_eq] at hg
    exact ⟨j,by rw [hg.1.2],hg.1.1⟩
  have hd' : (ops.toArray[j]?).bind (·.dst)=some d:=by simpa using hd
  have skipped : AcO ops.toArray o s false→Aee P mu os gs (Abv s o.dst .skip) H N (([],[])::lg) K→∃ st s' H' N',Tr P ops.toArray (o::os) s H N st s' H' N'∧K s' H' N' (lg.reverse++st.map fun t=>(t.T,t.W)):=by
   intro hs h
   obtain ⟨st,s'',H'',N'',k1,k2⟩:=AfJ os gs _ _ _ _ (fun o ho=>hc o (by simp [ho])) hg.2 h
   exact ⟨⟨false,.skip,H,[],[],N⟩::st,s'',H'',N'',⟨_,_,rfl,hs,fun h=>(by cases h),fun _=>⟨rfl,rfl,rfl,rfl⟩,Nat.le_refl _,by simp,by simp,k1⟩,by simpa using k2⟩
  unfold Aee at h
  split at h
  ·rename_i b hb
   have same : ∀ v,b=v→upd s d (.bool v)=s:=by
    intro v hv
    funext t
    by_cases e : t=d
    ·subst e; rw [AbZ,hb,hv]
    ·rw [AbR _ _ e]
   by_cases hbw : b=want
   ·have h':=h.1 hbw
    rw [same want hbw] at h'
    obtain ⟨x,H',N',T,W,h1,h2⟩:=AhS (hc o (by simp)) h'
    obtain ⟨st,s'',H'',N'',k1,k2⟩:=AfJ os gs _ _ _ _ (fun o ho=>hc o (by simp [ho])) hg.2 h2
    exact ⟨⟨true,x,H',T,W,N'⟩::st,s'',H'',N'',⟨_,_,rfl,by simp only [AcO,hgd]; exact ⟨d,hd',.inl ⟨b,hb,by simp [hbw]⟩⟩,fun _=>⟨h1.op,h1.rest⟩,fun h=>(by cases h),h1.n,h1.tn,h1.wn,k1⟩,by simpa using k2⟩
   ·have hbw' : b = !want:=AoQ hbw
    have h':=h.2 hbw'
    rw [same _ hbw'] at h'
    refine skipped ?_ h'
    simp only [AcO,hgd]
    exact ⟨d,hd',.inl ⟨b,hb,by simp [hbw]⟩⟩
  ·rename_i hb
   refine skipped ?_ h
   simp only [AcO,hgd]
   exact ⟨d,hd',.inr (by simp [hb])⟩
  ·exact h.elim
def Ai1 (n : Nat) (ops : List Oper) (gs : List (Option (Nat×Bool))) : Bool :=
 Ag4 n ops&&AdR ops&&Aiy ops&&ops.all Aaq&&ApJ ops ops gs
theorem St.draw {n : Nat} {c0 : Cx} {w0 : World} {a : Act} {w w' : World} (h : St n c0 w0 s H N a w) (e : w'.heap=w.heap) (h1 : w'.os=w.os) (h2 : w'.tape=w.tape) (h3 : w'.output=w.output) : St n c0 w0 s H N a w':=by
 obtain ⟨c,hr,hd,g,hu⟩:=h
 exact ⟨c,⟨hr.hr.world e,hr.size,hr.slot⟩,hd,g.trans (AeK.world e h1 h2 h3),hu⟩
theorem AW.region {n : Nat} {c0 : Cx} {w0 : World} {Q : Acj} {id : Nat} {ops : List Oper} {draw : Bool} (hm : P.follows .mixedOrders=true) (mu : List Nat) (gs : List (Option (Nat×Bool))) (hok : Ai1 n ops gs=true)
 (h : ∀ (G : Log→Prop) (K : (Nat→AV)→Aao→Nat→Prop),(∀ lg,(!draw||AdH ops lg)=true→G lg)→(∀ s' H' N',Q .normal s' H' N'→K s' H' N')→Aee P mu ops gs s H N [] (fun s' H' N' lg=>G lg∧K s' H' N')) :
 AW P n c0 w0 (.region id ops.toArray draw) Q s H N:=by
 simp only [Ai1,Bool.and_eq_true] at hok
 obtain ⟨⟨⟨⟨h1,h2⟩,h3⟩,h4⟩,h5⟩:=hok
 obtain ⟨st,s',H',N',htr,hio,hq⟩:=AfJ ops gs s H N [] (fun o ho=>List.all_eq_true.1 h4 o ho) h5 (h (fun lg=>(!draw||AdH ops lg)=true) (fun s' H' N'=>Q .normal s' H' N') (fun _ h=>h) (fun _ _ _ h=>h))
 simp only [List.reverse_nil,List.nil_append] at hio
 intro a w hst
 cases draw with
 | false =>
  obtain ⟨c,hr,hd,g,hu⟩:=hst
  refine wp_region_list (Ais ops s H N st s' H' N' (AgM h1) htr ?_ c a w hr hd g hu)
  intro c' a' w' hr' hd' g' hu'
  exact ⟨s',H',N',hq,c',hr',hd',g',hu'⟩
 | true =>
  simp only [Bool.not_true,Bool.false_or] at hio
  obtain ⟨c,hr,hd,g,hu⟩:=hst.draw (w' := { w with drawn:=w.drawn+1 }) rfl rfl rfl rfl
  refine wp_region_any hm ?_
  simp only [List.size_toArray]
  have hE : ∀ k,k<ops.length→Aaw (Array.replicate ops.length false) k=false:=by
   intro k hk; simp [Aaw,Array.getD,hk]
  have hcnt : ∀ m,m≤ops.length→cnt (Aaw (Array.replicate ops.length false)) m=0:=by
   intro m
   induction m with
   | zero=>intro _; rfl
   | succ m ih=>intro hm; simp [cnt,ih (by omega),hE m (by omega)]
  obtain ⟨t1,t2,t3,t4,t5⟩:=Anu ops s H N st s' H' N' htr
  have hNN:=Agl t1 t5 0 ops.length (by omega) (Nat.le_refl _)
  rw [t4] at hNN
  refine AmV h1 h2 h3 hio htr (c0:=c0) (w0:=w0) (df:=[]) ?_ ops.length _ c a _ (by simp) (by rw [hcnt _ (Nat.le_refl _)]; omega) ?_
  ·intro c' a' w' hr' hd' g' hu'
   exact ⟨s',H',N',hq,c',hr',hd',g',hu'⟩
  ·refine ⟨?_,hd,g,?_,fun i hi=>hu i (by simp only [stN] at hNN; omega),?_⟩
   ·have e1 : (fun t=>Afn (s t) (fun k=>(ops[k]?.bind (·.dst))==some t) (fun k=>(st[k]?.map (·.x)).getD .undef) (Aaw (Array.replicate ops.length false)) ops.length)=s:=by
     funext t
     rw [AeI _ _ _ _ 0 ops.length (by omega) (fun k _ hk _=>hE k hk)]; rfl
    have e2 : (fun id=>Afn (H id) (fun k=>((st[k]?.map (·.W)).getD []).contains id) (fun k=>stH st H (k+1) id) (Aaw (Array.replicate ops.length false)) ops.length)=H:=by
     funext t
     rw [AeI _ _ _ _ 0 ops.length (by omega) (fun k _ hk _=>hE k hk)]; rfl
    rw [e1,e2]; exact hr
   ·intro i t ht hi id k1 k2
    have hil : i<ops.length:=by have:=(List.getElem?_eq_some_iff.1 ht).1; omega
    have A:=(t5 i ops[i] t (by simp [hil]) ht).wn id k1
    have:=Agl t1 t5 0 i (by omega) (by omega)
    simp only [stN] at this
    exact hu id (by have:=A.2 k2; omega)
   ·intro j o' hj hjE
    have hjl : j<ops.length:=(List.getElem?_eq_some_iff.1 hj).1
    rw [hE j hjl] at hjE; cases hjE
end
end Go.Abs
