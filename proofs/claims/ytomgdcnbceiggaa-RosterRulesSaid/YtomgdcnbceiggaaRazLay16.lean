import Derived.Test.YtomgdcnbceiggaaRazLay15
set_option linter.unusedVariables false
set_option linter.unusedSimpArgs false
namespace Go.Abs
open Go.RowKit (Below)
section
variable {P : Program} {o : Oper} {s : Nat→AV} {H : AaI} {N : Nat} {K : CK} {mu : List Nat}
def Aj0 (P : Program) (o : Oper) (s : Nat→AV) (H : AaI) (N : Nat) (K : CK) : Prop:=∃ x H' N' T W,AaL P o s H N x H' N' T W∧K x H' N' T W
theorem Aau {α : Type} {a : Array α} {l : List α} (h : a.toList=l) : a=l.toArray:=by cases a; simpa using h
theorem Afd (hc : AaE o=true) (m : Bool) (b : Builtin) (args : Array Operand) (ts : Array TypeId) (ho : o.op = .call { callee := .builtin b,args:=args,argTypes:=ts })
 (h : AeO P m b ts.toList (args.toList.map (ev s)) H N K) : Aj0 P o s H N K:=by
 generalize hx : args.toList.map (ev s)=xs at h
 generalize ht : ts.toList=tl at h
 have one : ∀ y,[y]=xs→∃ z,args = #[z]∧ev s z=y:=by
  intro y h; rw [← hx] at h
  cases ha : args.toList with
  | nil=>simp [ha] at h
  | cons z l =>
   cases l with
   | nil=>simp [ha] at h; exact ⟨z,Aau ha,h.symm⟩
   | cons=>simp [ha] at h
 have two : ∀ y y',[y,y']=xs→∃ z z',args = #[z,z']∧ev s z=y∧ev s z'=y':=by
  intro y y' h; rw [← hx] at h
  match ha : args.toList,h with
  | [z,z'],h=>simp at h; exact ⟨z,z',Aau ha,h.1.symm,h.2.symm⟩
  | [],h=>simp at h
  | [_],h=>simp at h
  | _::_::_::_,h=>simp at h
 unfold AeO at h
 split at h
 ·rename_i t nl fl ys
  obtain ⟨z,rfl,hz⟩:=one _ rfl
  have:=Aau ht; subst this
  obtain ⟨e,he⟩:=Af7 h.1
  exact ⟨_,_,_,_,_,Ah2 hc t e z ho nl fl ys hz he,h.2⟩
 ·rename_i t b
  obtain ⟨z,rfl,hz⟩:=one _ rfl
  have:=Aau ht; subst this
  exact ⟨_,_,_,_,_,Ah0 hc t z ho b hz (AcF h.1),h.2⟩
 ·rename_i t id off es len full
  obtain ⟨z,rfl,hz⟩:=one _ rfl
  have:=Aau ht; subst this
  obtain ⟨e,he⟩:=Af7 h.1
  obtain ⟨o',ho'⟩:=h.2.2.1
  exact ⟨_,_,_,_,_,Ah1 hc t e z ho id off es len full hz h.2.1 o' ho' he,h.2.2.2⟩
 ·rename_i k a k' b
  obtain ⟨z,z',rfl,hz,hz'⟩:=two _ _ rfl
  obtain ⟨rfl,h⟩:=h
  exact ⟨_,_,_,_,_,AjX hc ts z z' ho k a b hz hz',h⟩
 ·rename_i k a k' b
  obtain ⟨z,z',rfl,hz,hz'⟩:=two _ _ rfl
  obtain ⟨rfl,h⟩:=h
  exact ⟨_,_,_,_,_,AjW hc ts z z' ho k a b hz hz',h⟩
 ·rename_i t t' nl fl ys z
  obtain ⟨y,z',rfl,hy,hz⟩:=two _ _ rfl
  have:=Aau ht; subst this
  obtain ⟨h2,h⟩:=h
  split at h
  ·rcases h with ⟨hfl,hnl,h⟩ | ⟨hnf,h⟩
   ·split at h
    ·rename_i e es by_ hE
     obtain ⟨h3,h4,h⟩:=h
     obtain ⟨zs,T,k1,k2,⟨k0,k3,k4,k5,k6,k7⟩,k8⟩:=AcJ h
     refine ⟨_,_,_,_,_,Af0 hc t t' y z' ho nl fl ys hy hfl e es by_ hE h2 zs T ⟨by rw [hz]; exact k1,k3.1,k3.2,?_,k2⟩ h3 k0 h4.1 h4.2 k5 k6,k7⟩
     intro hs
     rw [hz] at hs
     obtain ⟨id,rfl⟩:=k8 hs
     exact List.all_eq_true.1 (k4 (by simp))
    ·exact h.elim
   split at h
   ·rename_i e es by_ hE
    obtain ⟨h3,h⟩:=h
    obtain ⟨zs,T,k1,k2,⟨k3,k4,k5,k6,k7⟩,k8⟩:=AcJ h
    refine ⟨_,_,_,_,_,Afy hc t t' y z' ho nl fl ys hy hnf e es by_ hE h2 zs T ⟨by rw [hz]; exact k1,k3.1,k3.2,?_,k2⟩ h3 k5 k6,k7⟩
    intro hs
    rw [hz] at hs
    obtain ⟨id,rfl⟩:=k8 hs
    exact List.all_eq_true.1 (k4 (by simp))
   ·exact h.elim
  ·obtain ⟨h1,h⟩:=h
   split at h
   ·rename_i e es by_ hE
    obtain ⟨h3,h⟩:=h
    obtain ⟨zs,T,k1,k2,⟨k3,k4,k5,k6,k7⟩,k8⟩:=AcJ h
    refine ⟨_,_,_,_,_,Afz hc t t' y z' ho nl fl ys hy h1 e es by_ hE h2 zs T ⟨by rw [hz]; exact k1,k3.1,k3.2,?_,k2⟩ h3.1 h3.2 k5 k6,k7⟩
    intro hs
    rw [hz] at hs
    obtain ⟨id,rfl⟩:=k8 hs
    exact List.all_eq_true.1 (k4 (by simp))
   ·exact h.elim
 ·rename_i t t' id off es len full z
  obtain ⟨y,z',rfl,hy,hz⟩:=two _ _ rfl
  have:=Aau ht; subst this
  obtain ⟨h0,h2,h⟩:=h
  split at h
  ·rename_i e es' by_ obj hE hob
   split at h
   ·rename_i cs hcs
    obtain ⟨rfl,h3,h4,h5,h6,h⟩:=h
    obtain ⟨zs,T,k1,k2,⟨k3,k4,k5,k6,k7⟩,k8⟩:=AcJ h
    refine ⟨_,_,_,_,_,Afx hc t t' y z' ho id off es' len full hy h0 obj hob cs hcs h4 h5 e by_ hE h2 zs T ⟨by rw [hz]; exact k1,k3.1,k3.2,?_,k2⟩ (List.all_eq_true.1 h6) h3 k5 k6,k7⟩
    intro hs
    rw [hz] at hs
    obtain ⟨id,rfl⟩:=k8 hs
    exact List.all_eq_true.1 (k4 (by simp))
   ·exact h.elim
  ·exact h.elim
 ·rename_i t id off es len full
  obtain ⟨z,rfl,hz⟩:=one _ rfl
  have:=Aau ht; subst this
  split at h
  ·rename_i e es' by_ hE
   split at h
   ·rename_i x hx0
    obtain ⟨h0,obj,cs,e1,e2,h1,rfl,h2,h3,h4,h⟩:=Aa3 h
    exact ⟨_,_,_,_,_,Ah5 hc t z ho id off es' len full hz h0 obj e1 cs e2 h1 e by_ hE x hx0 h2 h3 h4,h⟩
   ·exact h.elim
  ·exact h.elim
 ·rename_i t t' id off es len full z
  obtain ⟨y,z',rfl,hy,hz⟩:=two _ _ rfl
  have:=Aau ht; subst this
  split at h
  ·rename_i e es' by_ hE
   obtain ⟨h0,obj,cs,e1,e2,h1,rfl,h2,h⟩:=Aa3 h
   obtain ⟨zs,T,k1,k2,⟨k3,k4,k5,k6⟩,k8⟩:=AcJ h
   refine ⟨_,_,_,_,_,Ais hc t t' y z' ho id off es' len full hy h0 obj e1 cs e2 h1 e by_ hE h2 zs T (by rw [hz]; exact k1) k2 k3.1 k3.2 ?_ k5,k6⟩
   rintro ⟨i1,i2,i3,i4,i5,hs⟩
   rw [hz] at hs; subst hs
   obtain ⟨id,rfl⟩:=k8 ⟨_,_,_,_,_,rfl⟩
   exact List.all_eq_true.1 (k4 (by simp))
  ·exact h.elim
 ·rename_i t t' id z
  obtain ⟨y,z',rfl,hy,hz⟩:=two _ _ rfl
  have:=Aau ht; subst this
  obtain ⟨h0,h⟩:=h
  split at h
  ·rename_i es kd zv e1 e2
   subst hz
   exact ⟨_,_,_,_,_,AhY hc t t' y z' ho id hy h0 es e1 kd zv e2 h.1 h.2.1,h.2.2⟩
  ·exact h.elim
 ·exact h.elim
theorem Aia (hc : AaE o=true) (h : aop P mu o s H N K) : Aj0 P o s H N K:=by
 unfold aop at h
 split at h
 ·rename_i y ho; exact ⟨_,_,_,_,_,Ag8 hc y (.inl ho),h⟩
 ·rename_i y ho; exact ⟨_,_,_,_,_,Ag8 hc y (.inr ho),h⟩
 ·rename_i t x y ho
  split at h
  ·rename_i b hb; exact ⟨_,_,_,_,_,Air hc t x y ho b hb,h⟩
  ·exact h.elim
 ·rename_i op xt x y yt ho
  split at h
  ·rename_i r hr; exact ⟨_,_,_,_,_,AjZ hc op xt yt x y ho r hr h.1,h.2⟩
  ·exact h.elim
 ·rename_i op xt x ho
  split at h
  ·rename_i r hr; exact ⟨_,_,_,_,_,Akd hc op xt x ho r hr,h⟩
  ·exact h.elim
 ·rename_i t y ho
  split at h
  ·rename_i cs hy
   split at h
   ·rename_i x hx; exact ⟨_,_,_,_,_,AhX hc t y ho cs hy x hx,h⟩
   ·exact h.elim
  ·rename_i id off hy
   obtain ⟨hid,obj,cs,hob,hcs,h⟩:=Aa3 h
   split at h
   ·rename_i x hx; exact ⟨_,_,_,_,_,AhW hc t y ho id off hy hid obj hob cs hcs x hx,h⟩
   ·exact h.elim
  ·exact h.elim
 ·rename_i t y z ho
  split at h
  ·rename_i id off hy
   obtain ⟨hid,obj,cs,hob,hcs,h0,h1,h2,h⟩:=Aa3 h
   exact ⟨_,_,_,_,_,Ahy hc t y z ho id off hy hid obj hob cs hcs h1 h2 h0,h⟩
  ·exact h.elim
 ·rename_i t y ho; exact ⟨_,_,_,_,_,AjY hc t y ho h.1,h.2⟩
 ·rename_i t ho
  split at h
  ·rename_i z hz; exact ⟨_,_,_,_,_,Ah7 t ho z hz,h⟩
  ·exact h.elim
 ·rename_i t y f ho
  split at h
  ·rename_i d hd
   split at h
   ·rename_i cs hy; exact ⟨_,_,_,_,_,Agh hc t y f ho cs hy d hd,h⟩
   ·rename_i id off hy
    obtain ⟨hid,obj,cs,hob,hcs,h0,h⟩:=Aa3 h
    exact ⟨_,_,_,_,_,Agg hc t y f ho id off hy hid obj hob (AbQ hcs h0) d hd,h⟩
   ·exact h.elim
  ·exact h.elim
 ·rename_i y ho
  split at h
  ·rename_i cs hy; exact ⟨_,_,_,_,_,Aet hc y ho cs hy,h⟩
  ·rename_i f cs hy; exact ⟨_,_,_,_,_,Aes hc y ho f cs hy,h⟩
  ·rename_i id off hy
   obtain ⟨hid,obj,cs,hob,hcs,h0,h⟩:=Aa3 h
   exact ⟨_,_,_,_,_,Aer hc y ho id off hy hid obj hob (AbQ hcs h0),h⟩
  ·exact h.elim
 ·rename_i t y z ho
  unfold AmV at h
  split at h
  ·rename_i k i hz
   split at h
   ·rename_i nl fl xs hy
    split at h
    ·rename_i e es by_ hE
     obtain ⟨h0,h1,h2,h3,h⟩:=h
     exact ⟨_,_,_,_,_,Agd hc t y z ho nl fl xs hy k i hz e es by_ hE h0 h1 _ (by simp [h1]) h2 h3,h⟩
    ·exact h.elim
   ·rename_i id off es len full hy
    split at h
    ·rename_i e es' by_ hE
     obtain ⟨hid,obj,cs,hob,hcs,h0,rfl,h1,h2,h⟩:=Aa3 h
     exact ⟨_,_,_,_,_,Agc hc t y z ho id off _ len full hy hid obj hob (AbQ hcs h0) k i hz e by_ hE h1 h2,h⟩
    ·exact h.elim
   ·rename_i cs hy
    split at h
    ·rename_i m es hE; exact ⟨_,_,_,_,_,Aft hc t y z ho cs hy k i hz m es hE h.1 h.2.1,h.2.2⟩
    ·exact h.elim
   ·rename_i id off hy
    split at h
    ·rename_i m es hE
     obtain ⟨hid,obj,cs,hob,hcs,h0,h1,h2,h⟩:=Aa3 h
     exact ⟨_,_,_,_,_,Afs hc t y z ho id off hy hid obj hob (AbQ hcs h0) k i hz m es hE h1 h2,h⟩
    ·exact h.elim
   ·exact h.elim
  ·exact h.elim
 ·rename_i t y z ho
  split at h
  ·rename_i b k i hy hz
   exact ⟨_,_,_,_,_,Age hc t y z ho b hy k i hz (AcF h.1) h.2.1 h.2.2.1,h.2.2.2⟩
  ·rename_i xs k i hy hz
   split at h
   ·rename_i m kk hE
    obtain ⟨e,hu,ha,hs⟩:=Ai9 hE
    exact ⟨_,_,_,_,_,Agf hc t y z ho xs hy k i hz m e hu ha hs h.1 h.2.1 _ (by rw [List.getElem?_eq_getElem h.2.2.1]; rfl),h.2.2.2⟩
   ·exact h.elim
  ·exact h.elim
 ·rename_i y i ho
  split at h
  ·rename_i xs hy
   split at h
   ·rename_i x hx; exact ⟨_,_,_,_,_,Agi hc y i ho xs hy x hx,h⟩
   ·exact h.elim
  ·exact h.elim
 ·rename_i f first caps ho
  have : first = #[]:=Array.size_eq_zero_iff.1 h.1
  subst this
  exact ⟨_,_,_,_,_,Afr hc f caps ho,h.2⟩
 ·rename_i t y l hh m ho
  split at h
  ·rename_i nl fl xs hy
   split at h
   ·rename_i e es by_ hE
    obtain ⟨h0,h⟩:=h
    obtain ⟨lo,hlo,h⟩:=AdC h
    obtain ⟨hi,hhi,hm,h1,h2,h⟩:=AdC h
    exact ⟨_,_,_,_,_,Aga hc t y l hh m ho nl fl xs hy e es by_ hE h0.1 lo hi hlo hhi hm h1 h2,h⟩
   ·exact h.elim
  ·rename_i b hy
   obtain ⟨h0,rfl,h⟩:=h
   obtain ⟨lo,hlo,h⟩:=AdC h
   obtain ⟨hi,hhi,h1,h2,h⟩:=AdC h
   exact ⟨_,_,_,_,_,AgY hc t y l hh ho b hy (AcF h0) lo hi hlo hhi h1 h2,h⟩
  ·rename_i id off es len full hy
   split at h
   ·rename_i e es' by_ hE
    obtain ⟨hid,obj,cs,hob,hcs,h0,rfl,h⟩:=Aa3 h
    obtain ⟨lo,hlo,h⟩:=AdC h
    obtain ⟨hi,hhi,hm,h1,h2,h⟩:=AdC h
    exact ⟨_,_,_,_,_,AgZ hc t y l hh m ho id off _ len full hy hid obj hob (AbQ hcs h0) e by_ hE lo hi hlo hhi hm h1 h2,h⟩
   ·exact h.elim
  ·exact h.elim
 ·rename_i t n parts ho
  split at h
  ·rename_i e es by_ hE
   obtain ⟨h1,h2,h3,h4,h5,h⟩:=h
   split at h
   ·exact ⟨_,_,_,_,_,AeE hc t n parts ho e es by_ hE h1 h2 h3.1 h3.2 h4 h5,h⟩
   ·exact ⟨_,_,_,_,_,AeF hc t n parts ho e es by_ hE h1 h2 h3.1 h3.2 h4 h5,h⟩
  ·exact h.elim
 ·rename_i t y z ho
  split at h
  ·rename_i e es by_ hE
   split at h
   ·rename_i k m k' m' x hy hz hx
    obtain ⟨rfl,h0,h1,h2,h⟩:=h
    split at h
    ·exact ⟨_,_,_,_,_,Aec hc t y z ho e es by_ hE k k' _ hy hz h0 h1 h2 x hx,h⟩
    ·exact ⟨_,_,_,_,_,Aed hc t y z ho e es by_ hE k k' _ hy hz h0 h1 h2 x hx,h⟩
   ·exact h.elim
  ·exact h.elim
 ·rename_i t parts ho
  obtain ⟨h0,h⟩:=h
  split at h
  ·rename_i cs hb; exact ⟨_,_,_,_,_,Ah6 hc t parts ho h0 cs hb,h⟩
  ·exact h.elim
 ·rename_i src dst y ho
  split at h
  ·rename_i k n hy
   obtain ⟨h0,h⟩:=h
   split at h
   ·rename_i k' hk; exact ⟨_,_,_,_,_,Afv hc src dst y ho k k' n hy h0 (Ahg hk),h⟩
   ·exact h.elim
  ·rename_i b hy
   obtain ⟨h0,h1,h2,h⟩:=h
   obtain ⟨e,he,he2⟩:=Adp h1
   split at h2
   ·rename_i e' es by_ hE
    subst h2
    obtain ⟨i,hu,_⟩:=Aai hE
    rw [he] at hu
    simp only [Option.some.injEq,Go.TypeDesc.slice.injEq] at hu
    subst hu
    split at h
    ·exact ⟨_,_,_,_,_,AfV hc src dst e by_ y ho (AcF h0) hE he2 b hy,h⟩
    ·exact ⟨_,_,_,_,_,Afw hc src dst e by_ y ho (AcF h0) hE he2 b hy,h⟩
   ·exact h2.elim
  ·rename_i id off es len full hy
   rcases h with ⟨rfl,rfl,h1,h⟩ | ⟨h0,h1,h⟩
   ·obtain ⟨e,he,he2⟩:=Adp h1
    obtain ⟨hid,obj,cs,hob,hcs,hne,h⟩:=Aa3 h
    exact ⟨_,_,_,_,_,Afu hc src e y ho he he2 id off len full hy hid obj hob (AbQ hcs hne) cs hcs,h⟩
   ·obtain ⟨e,he,he2⟩:=Adp h0
    obtain ⟨ys,T,k1,k2,⟨k3,k4⟩,k5⟩:=AcJ h
    exact ⟨_,_,_,_,_,Ae5 hc src dst e y ho he he2 (AcF h1) ys T (by rw [hy]; exact k1) (fun b hb=>by rw [hy] at hb; cases hb) k3 k2,k4⟩
  ·rename_i hn1 hn2 hn3
   obtain ⟨h0,h1,h⟩:=h
   obtain ⟨e,he,he2⟩:=Adp h0
   obtain ⟨ys,T,k1,k2,⟨k3,k4⟩,k5⟩:=AcJ h
   exact ⟨_,_,_,_,_,Ae5 hc src dst e y ho he he2 (AcF h1) ys T k1 (fun b hb=>hn2 b hb) k3 k2,k4⟩
 ·rename_i t y f ho
  split at h
  ·rename_i cs hy
   split at h
   ·rename_i x hx; exact ⟨_,_,_,_,_,Ah3 hc t y f ho cs hy x hx,h⟩
   ·exact h.elim
  ·exact h.elim
 ·rename_i t ho; exact ⟨_,_,_,_,_,Agb t ho,h⟩
 ·rename_i t y z ok ho
  split at h
  ·rename_i id hy
   obtain ⟨hid,h⟩:=h
   split at h
   ·rename_i es kd zv hob ht
    refine ⟨_,_,_,_,_,AhV hc t y z ok ho id hy hid es hob kd zv ht h.1 h.2.1,?_⟩
    have h:=h.2.2
    cases ok
    ·simpa [Af6] using h
    ·simpa [Af6] using h
   ·exact h.elim
  ·exact h.elim
 ·rename_i t y z v ho
  split at h
  ·rename_i id hy
   obtain ⟨hid,h⟩:=h
   split at h
   ·rename_i es kd zv hob ht
    exact ⟨_,_,_,_,_,Adl hc t y z v (.inl ho) id hy hid es hob kd zv ht h.1 h.2.1,h.2.2⟩
   ·exact h.elim
  ·exact h.elim
 ·rename_i t y z v ho
  split at h
  ·rename_i id hy
   obtain ⟨hid,h⟩:=h
   split at h
   ·rename_i es kd zv hob ht
    exact ⟨_,_,_,_,_,Adl hc t y z v (.inr ho) id hy hid es hob kd zv ht h.1 h.2.1,h.2.2⟩
   ·exact h.elim
  ·exact h.elim
 ·rename_i c ho
  split at h
  ·rename_i b hb
   exact Afd hc _ b c.args c.argTypes (by rw [ho]; cases c; simp_all) h
  ·rename_i g hg
   split at h
   ·rename_i f caps hf
    obtain ⟨x,H',N',T,W,h1,h2⟩:=h
    exact ⟨x,H',N',T,W,h1 o s g c.args c.argTypes caps hc (by rw [ho]; cases c; simp_all) hf rfl,h2⟩
   ·exact h.elim
  ·exact h.elim
 ·exact h.elim
def oCs (o : Option AaQ) : Option (AaQ×List AV):=o.bind fun o=>o.cs?.map fun cs=>(o,cs)
@[simp] theorem Aki (cs : List AV) : oCs (some (.cells cs))=some (.cells cs,cs):=rfl
@[simp] theorem AlT (cs : List AV) : oCs (some (.grow cs))=some (.grow cs,cs):=rfl
theorem AbO {H : AaI} {N id : Nat} {o : AaQ} {cs : List AV} (h : oCs (H id)=some (o,cs)) {k : AaQ→List AV→Prop} (hN : id<N) (hk : k o cs) : Aci H N id k:=by
 unfold oCs at h
 cases hh : H id with
 | none=>simp [hh] at h
 | some o' =>
  simp only [hh,Option.bind_some,Option.map_eq_some_iff,Prod.mk.injEq] at h
  obtain ⟨cs',h1,rfl,rfl⟩:=h
  refine ⟨hN,?_⟩
  simp only [hh,h1]; exact hk
def Ajo (K : CK) (H : AaI) (N : Nat) (x y : AV) : AV→Prop
 | .bool b=>K (Afq b x y) H N [] []
 | _=>False
def AiL (K : CK) (H : AaI) (N : Nat) (T : List Nat) : Option AV→Prop
 | some r=>K r H N T []
 | none=>False
def AiP (P : Program) (t : TypeId) (K : CK) (H : AaI) (N id off : Nat) : Option (AaQ×List AV)→Prop
 | some (_,cs)=>id<N∧AiL K H N [id] (Ack P t (cs.drop off))
 | none=>False
def Ajq (P : Program) (t : TypeId) (K : CK) (H : AaI) (N : Nat) : AV→Prop
 | .cptr cs=>AiL K H N [] (Ack P t cs)
 | .ptr id off=>AiP P t K H N id off (oCs (H id))
 | _=>False
def Agt (P : Program) (t : TypeId) (z : AV) (K : CK) (H : AaI) (N id off : Nat) : Option (AaQ×List AV)→Prop
 | some (obj,cs)=>id<N∧cs≠[]∧z.fits P t=true∧off+z.cells.length≤cs.length∧K .skip (upd H id (some (obj.with (Aem cs off z.cells)))) N [id] [id]
 | none=>False
def AiJ (P : Program) (t : TypeId) (z : AV) (K : CK) (H : AaI) (N : Nat) : AV→Prop
 | .ptr id off=>Agt P t z K H N id off (oCs (H id))
 | _=>False
def AiX (K : CK) (H : AaI) (N : Nat) : Option (List AV)→Prop
 | some z=>K (.ptr N 0) (upd H N (some (.cells z))) (N+1) [] [N]
 | none=>False
def Adu (x : AV) (K : CK) (H : AaI) (N id : Nat) : Option (AaQ×List AV)→Prop
 | some (_,cs)=>id<N∧cs≠[]∧K x H N [id] []
 | none=>False
def AiR (K : CK) (H : AaI) (N : Nat) : Option Nat→AV→Prop
 | some d,.cptr cs=>K (.cptr (cs.drop d)) H N [] []
 | some d,.ptr id off=>Adu (.ptr id (off+d)) K H N id (oCs (H id))
 | _,_=>False
def AmH (K : CK) (H : AaI) (N : Nat) : AV→Prop
 | .cptr cs=>K (.cptr cs) H N [] []
 | .fn f cs=>K (.fn f cs) H N [] []
 | .ptr id off=>Adu (.ptr id off) K H N id (oCs (H id))
 | _=>False
def AmJ (P : Program) (t : TypeId) (K : CK) (H : AaI) (N : Nat) : AV→AV→Option (TypeId×Nat×Nat)→Option (Nat×Nat)→Prop
 | .lst _ _ xs,.int _ i,some (_,es,_),_=>0≤i∧i.toNat<xs.length∧((xs[i.toNat]?).getD .undef).okc=true∧((xs[i.toNat]?).getD .undef).cells.length=es∧K (.cptr ((xs[i.toNat]?).getD .undef).cells) H N [] []
 | .slc id off es len _,.int _ i,some (_,es',_),_=>es'=es∧0≤i∧i.toNat<len∧Adu (.ptr id (off+i.toNat*es)) K H N id (oCs (H id))
 | .cptr cs,.int _ i,_,some (m,es)=>0≤i∧i<m∧K (.cptr (cs.drop (i.toNat*es))) H N [] []
 | .ptr id off,.int _ i,_,some (m,es)=>0≤i∧i<m∧Adu (.ptr id (off+i.toNat*es)) K H N id (oCs (H id))
 | _,_,_,_=>False
def AiQ (P : Program) (t : TypeId) (K : CK) (H : AaI) (N : Nat) : AV→AV→Option (Nat×Aa8)→Prop
 | .str b,.int _ i,_=>AhD P t=true∧0≤i∧i.toNat<b.size∧K (.int .u8 (b.data.toList.getD i.toNat 0).toNat) H N [] []
 | .agg xs,.int _ i,some (m,_)=>0≤i∧i<m∧i.toNat<xs.length∧K ((xs[i.toNat]?).getD .undef) H N [] []
 | _,_,_=>False
def Aff (i : Nat) (K : CK) (H : AaI) (N : Nat) : AV→Prop
 | .tup xs=>AiL K H N [] xs[i]?
 | _=>False
def Ai5 (s : Nat→AV) : Option Operand→Prop
 | none=>True
 | some y=>match ev s y with
  | .int _ n=>0≤n
  | _=>False
def Aeu (s : Nat→AV) (d : Nat) : Option Operand→Nat
 | none=>d
 | some y=>match ev s y with
  | .int _ n=>n.toNat
  | _=>0
theorem AfD {s : Nat→AV} {d : Nat} {x : Option Operand} {k : Nat→Prop} (h : Ai5 s x) (hk : k (Aeu s d x)) : bnd s d x k:=by
 unfold Ai5 at h; unfold Aeu at hk; unfold bnd
 cases x with
 | none=>exact hk
 | some y =>
  simp only [] at h hk ⊢
  split at h
  ·rename_i hy; simp only [hy] at hk ⊢; exact ⟨h,hk⟩
  ·exact h.elim
def Ajn (s : Nat→AV) (l h m : Option Operand) (K : CK) (H : AaI) (N id off es len : Nat) (full : Bool) : Option (AaQ×List AV)→Prop
 | some (_,cs)=>id<N∧cs≠[]∧Ai5 s l∧Ai5 s h∧(m=none∨(h.isSome=true∧AbC s 0 m=some (Aeu s len h)))∧Aeu s 0 l≤Aeu s len h∧Aeu s len h≤len ∧
  K (.slc id (off+Aeu s 0 l*es) es (Aeu s len h-Aeu s 0 l) (m.isSome||(full&&h.isNone))) H N [id] []
 | none=>False
def AiK (P : Program) (t : TypeId) (s : Nat→AV) (l h m : Option Operand) (K : CK) (H : AaI) (N : Nat) : AV→Option (TypeId×Nat×Nat)→Prop
 | .lst nl fl xs,some (_,es,_)=>okEls es xs∧Ai5 s l∧Ai5 s h∧(m=none∨(h.isSome=true∧AbC s 0 m=some (Aeu s xs.length h)))∧Aeu s 0 l≤Aeu s xs.length h∧Aeu s xs.length h≤xs.length ∧
  K (.lst nl (m.isSome||(fl&&h.isNone)) ((xs.take (Aeu s xs.length h)).drop (Aeu s 0 l))) H N [] []
 | .str b,_=>AhD P t=true∧m=none∧Ai5 s l∧Ai5 s h∧Aeu s 0 l≤Aeu s b.size h∧Aeu s b.size h≤b.size∧K (.str (b.extract (Aeu s 0 l) (Aeu s b.size h))) H N [] []
 | .slc id off es len full,some (_,es',_)=>es'=es∧Ajn s l h m K H N id off es len full (oCs (H id))
 | _,_=>False
def AiN (K : CK) (H : AaI) (N : Nat) (x : AV) (y : List AV) (o : AaQ) : Bool→Prop
 | true=>K x (upd H N (some o)) (N+1) [] [N]
 | false=>K (.lst false true y) H N [] []
def AmI (s : Nat→AV) (n : Nat) (parts : List (Nat×Operand)) (mu : Bool) (K : CK) (H : AaI) (N : Nat) : Option (TypeId×Nat×Nat)→Prop
 | some (_,es,_)=>Adr 0 parts=true∧parts.length=n∧okEls es (parts.map fun p=>ev s p.2)∧n*es≤16777216∧0<es ∧
  AiN K H N (.slc N 0 es n true) (parts.map fun p=>ev s p.2) (.cells (AaO (parts.map fun p=>ev s p.2))) mu
 | none=>False
def AiM (P : Program) (mu : Bool) (K : CK) (H : AaI) (N : Nat) : AV→AV→Option (TypeId×Nat×Nat)→Prop
 | .int _ m,.int _ m',some (e,es,by_)=>m'=m∧0≤m∧by_*m.toNat≤281474976710656∧m.toNat≤maxLen∧(AbJ P e).isSome=true ∧
  AiN K H N (.slc N 0 es m.toNat true) (List.replicate m.toNat ((AbJ P e).getD .undef)) (.cells (AaO (List.replicate m.toNat ((AbJ P e).getD .undef)))) mu
 | _,_,_=>False
def AiW (K : CK) (H : AaI) (N : Nat) : Option (List AV)→Prop
 | some cs=>K (.agg cs) H N [] []
 | none=>False
def AiV (n : Int) (K : CK) (H : AaI) (N : Nat) : Option IntKind→Prop
 | some k'=>K (.int k' (k'.wrap n)) H N [] []
 | none=>False
def AmK : Option (TypeId×Nat×Nat)→Prop
 | some (_,es,_)=>es=1
 | none=>False
def AlG (n : Nat) : Option (AaQ×List AV)→Prop
 | some (_,cs)=>n≤cs.length
 | none=>False
theorem Ahs {n : Nat} {x : Option (AaQ×List AV)} (h : AlG n x) : ∃ o cs,x=some (o,cs)∧n≤cs.length:=by
 unfold AlG at h; split at h
 ·exact ⟨_,_,rfl,h⟩
 ·exact h.elim
def Aig (H : AaI) (N : Nat) : AV→Prop
 | .lst _ _ _ | .str _=>True
 | .slc id off es len _=>es=1∧id<N∧AlG (off+len) (oCs (H id))
 | _=>False
def AgS : AV→List Nat
 | .slc id _ _ _ _=>[id]
 | _=>[]
def Acm (H : AaI) : AV→List AV
 | .lst _ _ ys=>ys
 | .str b=>bytes b.data.toList
 | .slc id off _ len _=>(((oCs (H id)).map (·.2)).getD []).drop off |>.take len
 | _=>[]
theorem AdW {H : AaI} {N : Nat} {X : AV} {k : List AV→List Nat→Prop} (h : Aig H N X) (hk : k (Acm H X) (AgS X)) : Aib H N X k:=by
 unfold Aig at h
 split at h
 ·exact hk
 ·exact hk
 ·rename_i id off es len f
  obtain ⟨rfl,h1,hq⟩:=h
  obtain ⟨o,cs,h2,h3⟩:=Ahs hq
  simp only [Acm,h2,Option.map_some,Option.getD_some,AgS] at hk
  unfold oCs at h2
  cases hh : H id with
  | none=>simp [hh] at h2
  | some o' =>
   simp only [hh,Option.bind_some,Option.map_eq_some_iff,Prod.mk.injEq] at h2
   obtain ⟨cs',q1,rfl,rfl⟩:=h2
   simp only [Aib,hh,q1]
   exact ⟨trivial,h1,h3,hk⟩
 ·exact h.elim
def AiS (K : CK) (H : AaI) (N : Nat) (b : ByteArray) : Bool→Prop
 | true=>K (.slc N 0 1 b.size false) (upd H N (some (.cells (bytes b.data.toList)))) (N+1) [] [N]
 | false=>K (.lst false false (bytes b.data.toList)) H N [] []
def AiU (P : Program) (src : TypeId) (K : CK) (H : AaI) (N id off es len : Nat) (full : Bool) : Option (AaQ×List AV)→Prop
 | some (obj,cs)=>id<N∧cs≠[]∧es=1∧Aii P src=true∧K (.slc id off es len full) (upd H id (some obj)) N [id] [id]
 | none=>False
def AiT (P : Program) (src dst : TypeId) (K : CK) (H : AaI) (N id off es len : Nat) (full : Bool) : Bool→Prop
 | true=>src=dst∧AiU P src K H N id off es len full (oCs (H id))
 | false=>Aii P src=true∧AhD P dst=true∧Aig H N (.slc id off es len full)∧Adw (Acm H (.slc id off es len full))=true∧K (.str (sOf (Acm H (.slc id off es len full)))) H N (AgS (.slc id off es len full)) []
def Ajr (P : Program) (mu : Bool) (src dst : TypeId) (K : CK) (H : AaI) (N : Nat) : AV→Prop
 | .int _ n=>(P.underlying src).isSome=true∧AiV n K H N (Ago P dst)
 | .str b=>AhD P src=true∧Aii P dst=true∧AmK (AaV P dst)∧AiS K H N b mu
 | .slc id off es len full=>AiT P src dst K H N id off es len full (decide (src=dst))
 | X=>Aii P src=true∧AhD P dst=true∧Aig H N X∧Adw (Acm H X)=true∧K (.str (sOf (Acm H X))) H N (AgS X) []
def AmP (K : CK) (H : AaI) (N : Nat) (nl : Bool) (ys : List AV) (z : AV) : Option (TypeId×Nat×Nat)→Prop
 | some (_,es,by_)=>okEls es ys∧Aig H N z∧okEls es (Acm H z)∧(AgS z≠[]→(Acm H z).all AV.one=true)∧ys.length+(Acm H z).length≤maxLen∧(ys.length+(Acm H z).length)*by_≤140737488355328 ∧
  K (.lst (nl&&(Acm H z).isEmpty) false (ys++Acm H z)) H N (AgS z) []
 | none=>False
def Aju (K : CK) (H : AaI) (N id off es len : Nat) (z : AV) : Option (TypeId×Nat×Nat)→Option (AaQ×List AV)→Prop
 | some (_,es',by_),some (obj,cs)=>id<N∧es'=es∧0<es∧off+len*es=cs.length∧(off=0∨∃ x,obj = .cells x)∧cs.all AV.one=true∧Aig H N z∧okEls es (Acm H z)∧(AgS z≠[]→(Acm H z).all AV.one=true) ∧
  len+(Acm H z).length≤maxLen∧(len+(Acm H z).length)*by_≤140737488355328 ∧
  K (.slc N 0 es (len+(Acm H z).length) false) (upd (upd H id none) N (some (obj.with (cs.drop off++AaO (Acm H z))))) (N+1) (id::AgS z) [id,N]
 | _,_=>False
def Ai6 (K : CK) (H : AaI) (N : Nat) (z : AV) : Option (TypeId×Nat×Nat)→Prop
 | some (_,es,by_)=>0<es∧Aig H N z∧okEls es (Acm H z)∧(AgS z≠[]→(Acm H z).all AV.one=true)∧(Acm H z).length≤maxLen∧(Acm H z).length*by_≤140737488355328 ∧
  K (.slc N 0 es (Acm H z).length false) (upd H N (some (.grow (AaO (Acm H z))))) (N+1) (AgS z) [N]
 | none=>False
def Ai7 (K : CK) (H : AaI) (N : Nat) (ys : List AV) (z : AV) : Option (TypeId×Nat×Nat)→Prop
 | some (_,es,by_)=>0<es∧okEls es ys∧Aig H N z∧Acm H z≠[]∧okEls es (Acm H z)∧(AgS z≠[]→(Acm H z).all AV.one=true)∧ys.length+(Acm H z).length≤maxLen∧(ys.length+(Acm H z).length)*by_≤140737488355328 ∧
  K (.slc N 0 es (ys.length+(Acm H z).length) false) (upd H N (some (.grow (AaO (ys++Acm H z))))) (N+1) (AgS z) [N]
 | none=>False
def Ami (mu : List Nat) (d : Option Nat) : Bool:=match d with | some d=>mu.contains (d+1000000) | none=>false
def Ajv (K : CK) (H : AaI) (N : Nat) (nl fl : Bool) (ys : List AV) (z : AV) (e : Option (TypeId×Nat×Nat)) : Bool→Prop
 | true=>fl=true∧nl=false∧Ai7 K H N ys z e
 | false=>(nl=true∨(fl=true∧ys = []))∧Ai6 K H N z e
def Ajw (mf : Bool) (K : CK) (H : AaI) (N : Nat) (nl fl : Bool) (ys : List AV) (z : AV) (e : Option (TypeId×Nat×Nat)) : Bool→Prop
 | true=>Ajv K H N nl fl ys z e mf
 | false=>(fl=true∨nl=true)∧AmP K H N nl ys z e
def oMp : Option AaQ→Option (List (AV×AV))
 | some (.mp es)=>some es
 | _=>none
@[simp] theorem Amc (es : List (AV×AV)) : oMp (some (.mp es))=some es:=rfl
theorem AeK {o : Option AaQ} {es : List (AV×AV)} (h : oMp o=some es) : o=some (.mp es):=by
 unfold oMp at h; split at h
 ·simp only [Option.some.injEq] at h; rw [h]
 ·cases h
def Ajs (K : CK) (H : AaI) (N id off es len : Nat) (obj : AaQ) (cs : List AV) : Option AV→Prop
 | some x=>cs≠[]∧off+len*es≤cs.length∧x.cells.length=es∧x.cells.all AV.one=true∧K (.tup []) (upd H id (some (obj.with (Aem cs off (AaO (List.replicate len x)))))) N [id] [id]
 | none=>False
def AmN (P : Program) (K : CK) (H : AaI) (N id off es len : Nat) : Option (TypeId×Nat×Nat)→Option (AaQ×List AV)→Prop
 | some (e,es',_),some (obj,cs)=>id<N∧es'=es∧Ajs K H N id off es len obj cs (AbJ P e)
 | _,_=>False
def AmM (K : CK) (H : AaI) (N id off es len : Nat) (z : AV) : Option (TypeId×Nat×Nat)→Option (AaQ×List AV)→Prop
 | some (_,es',_),some (obj,cs)=>id<N∧es'=es∧cs≠[]∧off+len*es≤cs.length∧Aig H N z∧okEls es (Acm H z)∧(AgS z≠[]→(Acm H z).all AV.one=true)∧(Acm H z).length≤len ∧
  K (.int .i64 (Acm H z).length) (upd H id (some (obj.with (Aem cs off (AaO (Acm H z)))))) N (id::AgS z) [id]
 | _,_=>False
def AmL (K : CK) (H : AaI) (N id : Nat) (z : AV) : Option (List (AV×AV))→Option (Aa8×AV)→Prop
 | some es,some (kd,_)=>id<N∧kd.has z=true∧(es.all fun p=>kd.has p.1)=true∧K (.tup []) (upd H id (some (.mp (Agm es z)))) N [id] [id]
 | _,_=>False
def Afg (P : Program) (mu mf : Bool) (K : CK) (H : AaI) (N : Nat) : Builtin→List TypeId→List AV→Prop
 | .len,[t],[.lst _ _ ys]=>Aiz P t=true∧K (.int .i64 ys.length) H N [] []
 | .len,[t],[.str b]=>AhD P t=true∧K (.int .i64 b.size) H N [] []
 | .len,[t],[.slc id _ _ len _]=>Aiz P t=true∧id<N∧(∃ o,H id=some o)∧K (.int .i64 len) H N [id] []
 | .max,_,[.int k a,.int k' b]=>k=k'∧K (Akm k a b) H N [] []
 | .min,_,[.int k a,.int k' b]=>k=k'∧K (Akl k a b) H N [] []
 | .append,[t,t'],[.lst nl fl ys,z]=>AcB P t'=true∧Ajw mf K H N nl fl ys z (AaV P t) mu
 | .append,[t,t'],[.slc id off es len _,z]=>AcB P t'=true∧Aju K H N id off es len z (AaV P t) (oCs (H id))
 | .clear,[t],[.slc id off es len _]=>AmN P K H N id off es len (AaV P t) (oCs (H id))
 | .copy,[t,_],[.slc id off es len _,z]=>AmM K H N id off es len (AgB len z) (AaV P t) (oCs (H id))
 | .delete,[t,_],[.map id,z]=>AmL K H N id z (oMp (H id)) (Ado P t)
 | _,_,_=>False
def Ajt (P : Program) (args : List AV) (K : CK) (H : AaI) (N : Nat) : AV→Prop
 | .fn f caps=>Ahk P f (args++caps) H N K
 | _=>False
def AmO (op : BinOp) (x y : AV) (K : CK) (H : AaI) (N : Nat) : Option AV→Prop
 | some r=>AeG op x y∧K r H N [] []
 | none=>False
def Agu (K : CK) (H : AaI) (N : Nat) (q : Option (Nat×Option Nat)) : AV→Prop
 | .agg cs=>AiL K H N [] (Aep cs q)
 | _=>False
def AiO (K : CK) (H : AaI) (N id : Nat) (z : AV) (ok : Bool) : Option (List (AV×AV))→Option (Aa8×AV)→Prop
 | some es,some (kd,zv)=>id<N∧kd.has z=true∧(es.all fun p=>kd.has p.1)=true∧K (Af6 zv (AfW es z) ok) H N [id] []
 | _,_=>False
def Ajp (K : CK) (H : AaI) (N : Nat) (z : AV) (ok : Bool) (q : Option (Aa8×AV)) : AV→Prop
 | .map id=>AiO K H N id z ok (oMp (H id)) q
 | _=>False
def Afe (K : CK) (H : AaI) (N id : Nat) (z v : AV) : Option (List (AV×AV))→Option (Aa8×AV)→Prop
 | some es,some (kd,_)=>id<N∧kd.has z=true∧(es.all fun p=>kd.has p.1)=true∧K .skip (upd H id (some (.mp (Af3 es z v)))) N [id] [id]
 | _,_=>False
def AgF (K : CK) (H : AaI) (N : Nat) (z v : AV) (q : Option (Aa8×AV)) : AV→Prop
 | .map id=>Afe K H N id z v (oMp (H id)) q
 | _=>False
def bop (P : Program) (mu : List Nat) (d : Option Nat) (s : Nat→AV) (H : AaI) (N : Nat) (K : CK) : Op→Prop
 | .move y=>K (ev s y) H N [] []
 | .assign y=>K (ev s y) H N [] []
 | .pick t x y=>Ajo K H N (ev s x) (ev s y) (ev s t)
 | .binOp op xt x y _=>AmO op (ev s x) (ev s y) K H N (AlA P op xt (ev s x) (ev s y))
 | .unOp op _ x=>AiL K H N [] (aun op (ev s x))
 | .load t y=>Ajq P t K H N (ev s y)
 | .store t y z=>AiJ P t (ev s z) K H N (ev s y)
 | .box t y=>(ev s y).fits P t=true∧K (.ptr N 0) (upd H N (some (.cells (ev s y).cells))) (N+1) [] [N]
 | .alloc t=>AiX K H N (AbZ P t)
 | .fieldAddr t y f=>AiR K H N (AbR P t f) (ev s y)
 | .nilCheck y=>AmH K H N (ev s y)
 | .indexAddr t y z=>AmJ P t K H N (ev s y) (ev s z) (AaV P t) (Ac3 P t)
 | .index t y z=>AiQ P t K H N (ev s y) (ev s z) (AjA P t)
 | .extract y i=>Aff i K H N (ev s y)
 | .makeFunc (.func f) first caps=>first.size=0∧K (.fn f (caps.toList.map (ev s))) H N [] []
 | .slice t y l h m=>AiK P t s l h m K H N (ev s y) (AaV P t)
 | .buildSlice t n parts=>AmI s n parts.toList (Ai2 mu d) K H N (AaV P t)
 | .makeSlice t y z=>AiM P (Ai2 mu d) K H N (ev s y) (ev s z) (AaV P t)
 | .build t parts=>Abw P t=true∧AiW K H N (AgL P t (parts.toList.map fun p=>(p.1,ev s p.2)))
 | .convert src dst y=>Ajr P (Ai2 mu d) src dst K H N (ev s y)
 | .field t y f=>Agu K H N (Abg P t f) (ev s y)
 | .makeMap _ none=>K (.map N) (upd H N (some (.mp []))) (N+1) [] [N]
 | .lookup t y z ok=>Ajp K H N (ev s z) ok (Ado P t) (ev s y)
 | .mapUpdate t y z v=>AgF K H N (ev s z) (ev s v) (Ado P t) (ev s y)
 | .insert t y z v=>AgF K H N (ev s z) (ev s v) (Ado P t) (ev s y)
 | .call { callee := .builtin b,args:=as,argTypes:=ts } => Afg P (Ai2 mu d) (Ami mu d) K H N b ts.toList (as.toList.map (ev s))
 | .call { callee := .value g,args:=as,argTypes:=_ } => Ajt P (as.toList.map (ev s)) K H N (ev s g)
 | _=>False
theorem Ajm (h : bop P mu o.dst s H N K o.op) : aop P mu o s H N K:=by
 generalize ho : o.op=p at h
 unfold aop
 rw [ho]
 unfold bop at h
 split at h
 ·exact h
 ·exact h
 ·unfold Ajo at h; split at h
  ·rename_i hh; simp only [hh]; exact h
  ·exact h.elim
 ·unfold AmO at h; split at h
  ·rename_i hh; simp only [hh]; exact h
  ·exact h.elim
 ·unfold AiL at h; split at h
  ·rename_i hh; simp only [hh]; exact h
  ·exact h.elim
 ·unfold Ajq at h; split at h
  ·rename_i hh; simp only [hh]
   unfold AiL at h; split at h
   ·rename_i h2; simp only [h2]; exact h
   ·exact h.elim
  ·rename_i hh; simp only [hh]
   unfold AiP at h; split at h
   ·rename_i h2
    refine AbO h2 h.1 ?_
    have h3:=h.2
    unfold AiL at h3; split at h3
    ·rename_i h4; simp only [h4]; exact h3
    ·exact h3.elim
   ·exact h.elim
  ·exact h.elim
 ·unfold AiJ at h; split at h
  ·rename_i hh; simp only [hh]
   unfold Agt at h; split at h
   ·rename_i h2; exact AbO h2 h.1 h.2
   ·exact h.elim
  ·exact h.elim
 ·exact h
 ·unfold AiX at h; split at h
  ·rename_i hh; simp only [hh]; exact h
  ·exact h.elim
 ·unfold AiR at h; split at h
  ·rename_i h1 h2; simp only [h1,h2]; exact h
  ·rename_i h1 h2; simp only [h1,h2]
   unfold Adu at h; split at h
   ·rename_i h3; exact AbO h3 h.1 h.2
   ·exact h.elim
  ·exact h.elim
 ·unfold AmH at h; split at h
  ·rename_i h1; simp only [h1]; exact h
  ·rename_i h1; simp only [h1]; exact h
  ·rename_i h1; simp only [h1]
   unfold Adu at h; split at h
   ·rename_i h3; exact AbO h3 h.1 h.2
   ·exact h.elim
  ·exact h.elim
 ·simp only []
  unfold AmV
  unfold AmJ at h; split at h
  ·rename_i h1 h2 h3; simp only [h1,h2,h3]; exact h
  ·rename_i h1 h2 h3; simp only [h1,h2,h3]
   obtain ⟨q1,q2,q3,h⟩:=h
   unfold Adu at h; split at h
   ·rename_i h4; exact AbO h4 h.1 ⟨h.2.1,q1,q2,q3,h.2.2⟩
   ·exact h.elim
  ·rename_i h1 h2 h3; simp only [h1,h2,h3]; exact h
  ·rename_i h1 h2 h3; simp only [h1,h2,h3]
   obtain ⟨q2,q3,h⟩:=h
   unfold Adu at h; split at h
   ·rename_i h4; exact AbO h4 h.1 ⟨h.2.1,q2,q3,h.2.2⟩
   ·exact h.elim
  ·exact h.elim
 ·unfold AiQ at h; split at h
  ·rename_i h1 h2; simp only [h1,h2]; exact h
  ·rename_i h1 h2 h3; simp only [h1,h2,h3]; exact h
  ·exact h.elim
 ·unfold Aff at h; split at h
  ·rename_i h1; simp only [h1]
   unfold AiL at h; split at h
   ·rename_i h2; simp only [h2]; exact h
   ·exact h.elim
  ·exact h.elim
 ·exact h
 ·unfold AiK at h; split at h
  ·rename_i h1 h2; simp only [h1,h2]
   obtain ⟨q1,q2,q3,q4,q5,q6,h⟩:=h
   exact ⟨q1,AfD q2 (AfD q3 ⟨q4,q5,q6,h⟩)⟩
  ·rename_i h1; simp only [h1]
   obtain ⟨q0,q1,q2,q3,q5,q6,h⟩:=h
   exact ⟨q0,q1,AfD q2 (AfD q3 ⟨q5,q6,h⟩)⟩
  ·rename_i h1 h2; simp only [h1,h2]
   obtain ⟨q1,h⟩:=h
   unfold Ajn at h; split at h
   ·rename_i h3
    obtain ⟨q2,q3,q4,q5,q6,q7,q8,h⟩:=h
    exact AbO h3 q2 ⟨q3,q1,AfD q4 (AfD q5 ⟨q6,q7,q8,h⟩)⟩
   ·exact h.elim
  ·exact h.elim
 ·unfold AmI at h; split at h
  ·rename_i h1; simp only [h1]
   obtain ⟨q1,q2,q3,q4,q5,h⟩:=h
   refine ⟨q1,by simpa using q2,q3,q4,q5,?_⟩
   unfold AiN at h
   split at h
   ·rename_i h2; simp only [h2,if_true]; exact h
   ·rename_i h2; simp only [h2,Bool.false_eq_true,if_false]; exact h
  ·exact h.elim
 ·unfold AiM at h; split at h
  ·rename_i h1 h2 h3; simp only [h1,h2,h3]
   obtain ⟨q1,q2,q3,q4,q5,h⟩:=h
   obtain ⟨x,hx⟩:=Option.isSome_iff_exists.1 q5
   simp only [hx,Option.getD_some] at h ⊢
   refine ⟨q1,q2,q3,q4,?_⟩
   unfold AiN at h
   split at h
   ·rename_i h2; simp only [h2,if_true]; exact h
   ·rename_i h2; simp only [h2,Bool.false_eq_true,if_false]; exact h
  ·exact h.elim
 ·refine ⟨h.1,?_⟩
  have h2:=h.2
  unfold AiW at h2; split at h2
  ·rename_i h3; simp only [h3]; exact h2
  ·exact h2.elim
 ·unfold Ajr at h; split at h
  ·rename_i h1; simp only [h1]
   refine ⟨h.1,?_⟩
   have h2:=h.2
   unfold AiV at h2; split at h2
   ·rename_i h3; simp only [h3]; exact h2
   ·exact h2.elim
  ·rename_i h1; simp only [h1]
   obtain ⟨q1,q2,q3,h⟩:=h
   refine ⟨q1,q2,?_,?_⟩
   ·unfold AmK at q3; split at q3
    ·rename_i h3; simp only [h3]; exact q3
    ·exact q3.elim
   ·unfold AiS at h; split at h
    ·rename_i h3; simp only [h3,if_true]; exact h
    ·rename_i h3; simp only [h3,Bool.false_eq_true,if_false]; exact h
  ·rename_i h1; simp only [h1]
   unfold AiT at h; split at h
   ·left
    obtain ⟨q0,h⟩:=h
    unfold AiU at h; split at h
    ·rename_i h3
     obtain ⟨r1,r2,r3,r4,h⟩:=h
     exact ⟨q0,r3,r4,AbO h3 r1 ⟨r2,h⟩⟩
    ·exact h.elim
   ·right
    obtain ⟨r1,r2,r3,r4,h⟩:=h
    exact ⟨r1,r2,AdW r3 ⟨r4,h⟩⟩
  ·rename_i n1 n2 n3
   obtain ⟨q1,q2,q3,q4,h⟩:=h
   simp only []
   exact ⟨q1,q2,AdW q3 ⟨q4,h⟩⟩
 ·unfold Agu at h; split at h
  ·rename_i h1; simp only [h1]
   unfold AiL at h; split at h
   ·rename_i h2; simp only [h2]; exact h
   ·exact h.elim
  ·exact h.elim
 ·exact h
 ·unfold Ajp at h; split at h
  ·rename_i h1; simp only [h1]
   unfold AiO at h; split at h
   ·rename_i h2 h3
    simp only [AeK h2,h3]; exact h
   ·exact h.elim
  ·exact h.elim
 ·unfold AgF at h; split at h
  ·rename_i h1; simp only [h1]
   unfold Afe at h; split at h
   ·rename_i h2 h3
    simp only [AeK h2,h3]; exact h
   ·exact h.elim
  ·exact h.elim
 ·unfold AgF at h; split at h
  ·rename_i h1; simp only [h1]
   unfold Afe at h; split at h
   ·rename_i h2 h3
    simp only [AeK h2,h3]; exact h
   ·exact h.elim
  ·exact h.elim
 ·rename_i b as ts
  simp only []
  generalize ts.toList=tl at h ⊢
  generalize as.toList.map (ev s)=xs at h ⊢
  unfold Afg at h
  unfold AeO
  split at h
  ·exact h
  ·exact h
  ·exact h
  ·exact h
  ·exact h
  ·rename_i t t' nl fl ys z
   obtain ⟨q2,h⟩:=h
   simp only []
   refine ⟨q2,?_⟩
   unfold Ajw at h; split at h
   ·rename_i hmu
    rw [if_pos hmu]
    have h : (fl=true∧nl=false∧Ai7 K H N ys z (AaV P t))∨((nl=true∨(fl=true∧ys = []))∧Ai6 K H N z (AaV P t)):=by
     unfold Ajv at h; split at h
     ·exact .inl h
     ·exact .inr h
    rcases h with ⟨hf,hn,h⟩ | h
    ·left
     refine ⟨hf,hn,?_⟩
     unfold Ai7 at h; split at h
     ·rename_i h3; simp only [h3]
      obtain ⟨r1,r2,r3,r4,r5,r6,r7,r8,h⟩:=h
      exact ⟨r1,r2,AdW r3 ⟨r4,r5,r6,r7,r8,h⟩⟩
     ·exact h.elim
    right
    refine ⟨h.1,?_⟩
    have h:=h.2
    unfold Ai6 at h; split at h
    ·rename_i h3; simp only [h3]
     obtain ⟨r1,r2,r3,r4,r5,r6,h⟩:=h
     exact ⟨r1,AdW r2 ⟨r3,r4,r5,r6,h⟩⟩
    ·exact h.elim
   ·rename_i hmu
    rw [if_neg (by simp [hmu])]
    refine ⟨h.1,?_⟩
    have h:=h.2
    unfold AmP at h; split at h
    ·rename_i h3; simp only [h3]
     obtain ⟨r1,r2,r3,r4,r5,r6,h⟩:=h
     exact ⟨r1,AdW r2 ⟨r3,r4,r5,r6,h⟩⟩
    ·exact h.elim
  ·obtain ⟨q2,h⟩:=h
   simp only []
   unfold Aju at h; split at h
   ·rename_i h3 h4; simp only [h3]
    obtain ⟨r0,r1,r2,r3,r4,r5,r6,r7,r8,r9,r10,h⟩:=h
    have h5:=AbO (k:=fun obj' cs'=>obj'=_∧cs'=_) h4 r0 ⟨rfl,rfl⟩
    obtain ⟨_,o',cs',e1,e2,rfl,rfl⟩:=Aa3 h5
    simp only [e1,e2]
    exact ⟨r0,q2,r1,r2,r3,r4,r5,AdW r6 ⟨r7,r8,r9,r10,h⟩⟩
   ·exact h.elim
  ·rename_i t id off es len full
   simp only []
   unfold AmN at h; split at h
   ·rename_i h3 h4; simp only [h3]
    obtain ⟨r0,r1,h⟩:=h
    unfold Ajs at h; split at h
    ·rename_i x h5; simp only [h5]
     obtain ⟨q0,q1,q2,q3,h⟩:=h
     exact AbO h4 r0 ⟨q0,r1,q1,q2,q3,h⟩
    ·exact h.elim
   ·exact h.elim
  ·rename_i t t' id off es len full z
   simp only []
   unfold AmM at h; split at h
   ·rename_i h3 h4; simp only [h3]
    obtain ⟨r0,r1,q0,q1,r6,r7,r8,r9,h⟩:=h
    exact AbO h4 r0 ⟨q0,r1,q1,AdW r6 ⟨r7,r8,r9,h⟩⟩
   ·exact h.elim
  ·rename_i t t' id z
   simp only []
   unfold AmL at h; split at h
   ·rename_i h3 h4
    obtain ⟨r0,r1,r2,h⟩:=h
    have h5:=AeK h3
    simp only [h5,h4]
    exact ⟨r0,r1,r2,h⟩
   ·exact h.elim
  ·exact h.elim
 ·unfold Ajt at h; split at h
  ·rename_i h1; simp only [h1]; exact h
  ·exact h.elim
 ·exact h.elim
theorem AgE (hc : AaE o=true) (h : bop P mu o.dst s H N K o.op) : Aj0 P o s H N K:=Aia hc (Ajm h)
def AkE (ops : List Oper) : List Oper→List (Option (Nat×Bool))→Bool
 | [],[]=>true
 | o::os,g::gs=>(match o.guard,g with
  | none,none=>true
  | some (j,w),some (d,w')=>(ops[j]?).bind (·.dst)==some d&&w==w'
  | _,_=>false)&&AkE ops os gs
 | _,_=>false
def AdG (P : Program) (mu : List Nat) : List Oper→List (Option (Nat×Bool))→(Nat→AV)→AaI→Nat→Log→((Nat→AV)→AaI→Nat→Log→Prop)→Prop
 | [],_,s,H,N,lg,K=>K s H N lg.reverse
 | _::_,[],_,_,_,_,_=>False
 | o::os,none::gs,s,H,N,lg,K=>bop P mu o.dst s H N (fun x H' N' T W=>AdG P mu os gs (Ady s o.dst x) H' N' ((T,W)::lg) K) o.op
 | o::os,some (d,want)::gs,s,H,N,lg,K=>match s d with
  | .bool b=>(b=want→bop P mu o.dst (upd s d (.bool want)) H N (fun x H' N' T W=>AdG P mu os gs (Ady (upd s d (.bool want)) o.dst x) H' N' ((T,W)::lg) K) o.op) ∧
   (b = !want→AdG P mu os gs (Ady (upd s d (.bool !want)) o.dst .skip) H N (([],[])::lg) K)
  | .skip=>AdG P mu os gs (Ady s o.dst .skip) H N (([],[])::lg) K
  | _=>False
def Ajf (P : Program) (mu : List Nat) (os : List Oper) (gs : List (Option (Nat×Bool))) (s : Nat→AV) (d : Option Nat) (lg : Log) (K : (Nat→AV)→AaI→Nat→Log→Prop) : CK :=
 fun x H' N' T W=>AdG P mu os gs (Ady s d x) H' N' ((T,W)::lg) K
@[simp] theorem Alg {P : Program} {mu : List Nat} {gs : List (Option (Nat×Bool))} {s : Nat→AV} {H : AaI} {N : Nat} {lg : Log} {K : (Nat→AV)→AaI→Nat→Log→Prop} : AdG P mu [] gs s H N lg K=K s H N lg.reverse:=by unfold AdG; rfl
@[simp] theorem Ak7 {P : Program} {mu : List Nat} {d : Option Nat} {op : Op} {ty : TypeId} {pos : String} {af : Array Edge} {g : Option (Nat×Bool)} {os : List Oper} {gs : List (Option (Nat×Bool))} {s : Nat→AV} {H : AaI} {N : Nat} {lg : Log} {K : (Nat→AV)→AaI→Nat→Log→Prop} :
 AdG P mu (⟨d,op,ty,pos,af,g⟩::os) (none::gs) s H N lg K=bop P mu d s H N (Ajf P mu os gs s d lg K) op:=by
 conv=>lhs; unfold AdG
 rfl
theorem Agy {α : Type} {s : Nat→α} {j : Nat} {v : α} (h : s j=v) : upd s j v=s:=by
 funext t
 by_cases e : t=j
 ·subst e; rw [Aaq,h]
 ·rw [AbX _ _ e]
theorem Ac4 {P : Program} {mu : List Nat} {d : Option Nat} {op : Op} {ty : TypeId} {pos : String} {af : Array Edge} {g : Option (Nat×Bool)} {os : List Oper} {j : Nat} {gs : List (Option (Nat×Bool))} {s : Nat→AV} {H : AaI} {N : Nat} {lg : Log} {K : (Nat→AV)→AaI→Nat→Log→Prop} {want : Bool} :
 AdG P mu (⟨d,op,ty,pos,af,g⟩::os) (some (j,want)::gs) s H N lg K=match s j with
  | .bool b=>(b=want→bop P mu d (upd s j (.bool want)) H N (Ajf P mu os gs (upd s j (.bool want)) d lg K) op)∧(b = !want→AdG P mu os gs (Ady (upd s j (.bool !want)) d .skip) H N (([],[])::lg) K)
  | .skip=>AdG P mu os gs (Ady s d .skip) H N (([],[])::lg) K
  | _=>False:=by
 conv=>lhs; unfold AdG
 cases s j <;> rfl
@[simp] theorem AmQ {P : Program} {mu : List Nat} {d : Option Nat} {op : Op} {ty : TypeId} {pos : String} {af : Array Edge} {g : Option (Nat×Bool)} {os : List Oper} {j : Nat} {gs : List (Option (Nat×Bool))} {s : Nat→AV} {H : AaI} {N : Nat} {lg : Log} {K : (Nat→AV)→AaI→Nat→Log→Prop} (h : s j = .bool true) : AdG P mu (⟨d,op,ty,pos,af,g⟩::os) (some (j,true)::gs) s H N lg K=bop P mu d s H N (Ajf P mu os gs s d lg K) op:=by
 rw [Ac4,h]; simp [Agy h]
@[simp] theorem AmU {P : Program} {mu : List Nat} {d : Option Nat} {op : Op} {ty : TypeId} {pos : String} {af : Array Edge} {g : Option (Nat×Bool)} {os : List Oper} {j : Nat} {gs : List (Option (Nat×Bool))} {s : Nat→AV} {H : AaI} {N : Nat} {lg : Log} {K : (Nat→AV)→AaI→Nat→Log→Prop} (h : s j = .bool false) : AdG P mu (⟨d,op,ty,pos,af,g⟩::os) (some (j,false)::gs) s H N lg K=bop P mu d s H N (Ajf P mu os gs s d lg K) op:=by
 rw [Ac4,h]; simp [Agy h]
@[simp] theorem AmR {P : Program} {mu : List Nat} {d : Option Nat} {op : Op} {ty : TypeId} {pos : String} {af : Array Edge} {g : Option (Nat×Bool)} {os : List Oper} {j : Nat} {gs : List (Option (Nat×Bool))} {s : Nat→AV} {H : AaI} {N : Nat} {lg : Log} {K : (Nat→AV)→AaI→Nat→Log→Prop} (h : s j = .bool true) : AdG P mu (⟨d,op,ty,pos,af,g⟩::os) (some (j,false)::gs) s H N lg K=AdG P mu os gs (Ady s d .skip) H N (([],[])::lg) K:=by
 rw [Ac4,h]; simp [Agy h]
@[simp] theorem AmT {P : Program} {mu : List Nat} {d : Option Nat} {op : Op} {ty : TypeId} {pos : String} {af : Array Edge} {g : Option (Nat×Bool)} {os : List Oper} {j : Nat} {gs : List (Option (Nat×Bool))} {s : Nat→AV} {H : AaI} {N : Nat} {lg : Log} {K : (Nat→AV)→AaI→Nat→Log→Prop} (h : s j = .bool false) : AdG P mu (⟨d,op,ty,pos,af,g⟩::os) (some (j,true)::gs) s H N lg K=AdG P mu os gs (Ady s d .skip) H N (([],[])::lg) K:=by
 rw [Ac4,h]; simp [Agy h]
@[simp] theorem AmS {P : Program} {mu : List Nat} {d : Option Nat} {op : Op} {ty : TypeId} {pos : String} {af : Array Edge} {g : Option (Nat×Bool)} {os : List Oper} {j : Nat} {gs : List (Option (Nat×Bool))} {s : Nat→AV} {H : AaI} {N : Nat} {lg : Log} {K : (Nat→AV)→AaI→Nat→Log→Prop} {want : Bool} (h : s j = .skip) : AdG P mu (⟨d,op,ty,pos,af,g⟩::os) (some (j,want)::gs) s H N lg K=AdG P mu os gs (Ady s d .skip) H N (([],[])::lg) K:=by
 rw [Ac4,h]
@[simp] theorem AmA {P : Program} {mu : List Nat} {os : List Oper} {gs : List (Option (Nat×Bool))} {s : Nat→AV} {d : Option Nat} {lg : Log} {K : (Nat→AV)→AaI→Nat→Log→Prop} {x : AV} {H : AaI} {N : Nat} {T W : List Nat} :
 Ajf P mu os gs s d lg K x H N T W=AdG P mu os gs (Ady s d x) H N ((T,W)::lg) K:=rfl
@[congr] theorem AkD {P : Program} {mu : List Nat} {os : List Oper} {gs : List (Option (Nat×Bool))} {s : Nat→AV} {d : Option Nat} {lg : Log} {K : (Nat→AV)→AaI→Nat→Log→Prop} : Ajf P mu os gs s d lg K=Ajf P mu os gs s d lg K:=rfl
@[congr] theorem AkK {P : Program} {mu : List Nat} {os : List Oper} {gs : List (Option (Nat×Bool))} {s : Nat→AV} {H : AaI} {N : Nat} {lg : Log} {K : (Nat→AV)→AaI→Nat→Log→Prop} : AdG P mu os gs s H N lg K=AdG P mu os gs s H N lg K:=rfl
@[congr] theorem Ak3 {P : Program} {mu : List Nat} {d : Option Nat} {op : Op} {s : Nat→AV} {H : AaI} {N : Nat} {K : CK} : bop P mu d s H N K op=bop P mu d s H N K op:=rfl
@[congr] theorem Ajy {P : Program} {f : FuncId} {args args' : List AV} {H : AaI} {N : Nat} {K : CK} (h : args=args') : Ahk P f args H N K=Ahk P f args' H N K:=by rw [h]
attribute [simp] AmM AgB AmN Ajs AmL bop Ajo AiL AiP Ajq Agt AiJ AiX Adu AiR AmH AmJ AiQ Aff Ai5 Aeu Ajn AiK AiN AmI AiM AiW AiV AmK AlG Aig AgS Acm Ajr AmP Ai6 Ajw Aju Afg Ajt AmO AiS AiU AiT Ai7 Ajv Agu AiO Ajp Afe AgF Af6 Aep
theorem Ajc {a b : Bool} (h : ¬ a=b) : a = !b:=by cases a <;> cases b <;> simp_all
theorem AdD {ops : List Oper} {K : (Nat→AV)→AaI→Nat→Log→Prop} : ∀ (l : List Oper) (gs : List (Option (Nat×Bool))) (s : Nat→AV) (H : AaI) (N : Nat) (lg : Log),(∀ o ∈ l,AaE o=true)→AkE ops l gs=true →
 AdG P mu l gs s H N lg K→∃ st s' H' N',Tr P ops.toArray l s H N st s' H' N'∧K s' H' N' (lg.reverse++st.map fun t=>(t.T,t.W))
 | [],gs,s,H,N,lg,_,_,h=>⟨[],s,H,N,⟨rfl,rfl,rfl,rfl⟩,by simpa [AdG] using h⟩
 | o::os,[],s,H,N,lg,_,hg,_=>by simp [AkE] at hg
 | o::os,none::gs,s,H,N,lg,hc,hg,h=>by
  simp only [AkE,Bool.and_eq_true] at hg
  have hgd : o.guard=none:=by
   cases hh : o.guard with
   | none=>rfl
   | some p=>simp [hh] at hg
  unfold AdG at h
  obtain ⟨x,H',N',T,W,h1,h2⟩:=AgE (hc o (by simp)) h
  obtain ⟨st,s'',H'',N'',k1,k2⟩:=AdD os gs _ _ _ _ (fun o ho=>hc o (by simp [ho])) hg.2 h2
  exact ⟨⟨true,x,H',T,W,N'⟩::st,s'',H'',N'',⟨_,_,rfl,by simp [AbM,hgd],fun _=>⟨h1.op,h1.rest⟩,fun h=>(by cases h),h1.n,h1.tn,h1.wn,k1⟩,by simpa using k2⟩
 | o::os,some (d,want)::gs,s,H,N,lg,hc,hg,h=>by
  simp only [AkE,Bool.and_eq_true] at hg
  obtain ⟨j,hgd,hd⟩ : ∃ j,o.guard=some (j,want)∧(ops[j]?).bind (·.dst)=some d:=by
   cases hh : o.guard with
   | none=>simp [hh] at hg
   | some p =>
    obtain ⟨j,w⟩:=p
    simp only [hh,Bool.and_eq_true,beq_iff_eq] at hg
    exact ⟨j,by rw [hg.1.2],hg.1.1⟩
  have hd' : (ops.toArray[j]?).bind (·.dst)=some d:=by simpa using hd
  have skipped : AbM ops.toArray o s false→AdG P mu os gs (Ady s o.dst .skip) H N (([],[])::lg) K→∃ st s' H' N',Tr P ops.toArray (o::os) s H N st s' H' N'∧K s' H' N' (lg.reverse++st.map fun t=>(t.T,t.W)):=by
   intro hs h
   obtain ⟨st,s'',H'',N'',k1,k2⟩:=AdD os gs _ _ _ _ (fun o ho=>hc o (by simp [ho])) hg.2 h
   exact ⟨⟨false,.skip,H,[],[],N⟩::st,s'',H'',N'',⟨_,_,rfl,hs,fun h=>(by cases h),fun _=>⟨rfl,rfl,rfl,rfl⟩,Nat.le_refl _,by simp,by simp,k1⟩,by simpa using k2⟩
  unfold AdG at h
  split at h
  ·rename_i b hb
   have same : ∀ v,b=v→upd s d (.bool v)=s:=by
    intro v hv
    funext t
    by_cases e : t=d
    ·subst e; rw [Aaq,hb,hv]
    ·rw [AbX _ _ e]
   by_cases hbw : b=want
   ·have h':=h.1 hbw
    rw [same want hbw] at h'
    obtain ⟨x,H',N',T,W,h1,h2⟩:=AgE (hc o (by simp)) h'
    obtain ⟨st,s'',H'',N'',k1,k2⟩:=AdD os gs _ _ _ _ (fun o ho=>hc o (by simp [ho])) hg.2 h2
    exact ⟨⟨true,x,H',T,W,N'⟩::st,s'',H'',N'',⟨_,_,rfl,by simp only [AbM,hgd]; exact ⟨d,hd',.inl ⟨b,hb,by simp [hbw]⟩⟩,fun _=>⟨h1.op,h1.rest⟩,fun h=>(by cases h),h1.n,h1.tn,h1.wn,k1⟩,by simpa using k2⟩
   ·have hbw' : b = !want:=Ajc hbw
    have h':=h.2 hbw'
    rw [same _ hbw'] at h'
    refine skipped ?_ h'
    simp only [AbM,hgd]
    exact ⟨d,hd',.inl ⟨b,hb,by simp [hbw]⟩⟩
  ·rename_i hb
   refine skipped ?_ h
   simp only [AbM,hgd]
   exact ⟨d,hd',.inr (by simp [hb])⟩
  ·exact h.elim
def Ahw (n : Nat) (ops : List Oper) (gs : List (Option (Nat×Bool))) : Bool :=
 AgT n ops&&AcX ops&&Afo ops&&ops.all AaE&&AkE ops ops gs
theorem St.draw {n : Nat} {c0 : Cx} {w0 : World} {a : Act} {w w' : World} (h : St n c0 w0 s H N a w) (e : w'.heap=w.heap) (h1 : w'.os=w.os) (h2 : w'.tape=w.tape) (h3 : w'.output=w.output) : St n c0 w0 s H N a w':=by
 obtain ⟨c,hr,hd,g,hu⟩:=h
 exact ⟨c,⟨hr.hr.world e,hr.size,hr.slot⟩,hd,g.trans (Acb.world e h1 h2 h3),hu⟩
theorem AW.region {n : Nat} {c0 : Cx} {w0 : World} {Q : Abo} {id : Nat} {ops : List Oper} {draw : Bool} (hm : P.follows .mixedOrders=true) (mu : List Nat) (gs : List (Option (Nat×Bool))) (hok : Ahw n ops gs=true)
 (h : ∀ (G : Log→Prop) (K : (Nat→AV)→AaI→Nat→Prop),(∀ lg,(!draw||AdR ops lg)=true→G lg)→(∀ s' H' N',Q .normal s' H' N'→K s' H' N')→AdG P mu ops gs s H N [] (fun s' H' N' lg=>G lg∧K s' H' N')) :
 AW P n c0 w0 (.region id ops.toArray draw) Q s H N:=by
 simp only [Ahw,Bool.and_eq_true] at hok
 obtain ⟨⟨⟨⟨h1,h2⟩,h3⟩,h4⟩,h5⟩:=hok
 obtain ⟨st,s',H',N',htr,hio,hq⟩:=AdD ops gs s H N [] (fun o ho=>List.all_eq_true.1 h4 o ho) h5 (h (fun lg=>(!draw||AdR ops lg)=true) (fun s' H' N'=>Q .normal s' H' N') (fun _ h=>h) (fun _ _ _ h=>h))
 simp only [List.reverse_nil,List.nil_append] at hio
 intro a w hst
 cases draw with
 | false =>
  obtain ⟨c,hr,hd,g,hu⟩:=hst
  refine wp_region_list (Afi ops s H N st s' H' N' (Ae2 h1) htr ?_ c a w hr hd g hu)
  intro c' a' w' hr' hd' g' hu'
  exact ⟨s',H',N',hq,c',hr',hd',g',hu'⟩
 | true =>
  simp only [Bool.not_true,Bool.false_or] at hio
  obtain ⟨c,hr,hd,g,hu⟩:=hst.draw (w' := { w with drawn:=w.drawn+1 }) rfl rfl rfl rfl
  refine wp_region_any hm ?_
  simp only [List.size_toArray]
  have hE : ∀ k,k<ops.length→AaZ (Array.replicate ops.length false) k=false:=by
   intro k hk; simp [AaZ,Array.getD,hk]
  have hcnt : ∀ m,m≤ops.length→cnt (AaZ (Array.replicate ops.length false)) m=0:=by
   intro m
   induction m with
   | zero=>intro _; rfl
   | succ m ih=>intro hm; simp [cnt,ih (by omega),hE m (by omega)]
  obtain ⟨t1,t2,t3,t4,t5⟩:=AjT ops s H N st s' H' N' htr
  have hNN:=AeI t1 t5 0 ops.length (by omega) (Nat.le_refl _)
  rw [t4] at hNN
  refine Aik h1 h2 h3 hio htr (c0:=c0) (w0:=w0) (df:=[]) ?_ ops.length _ c a _ (by simp) (by rw [hcnt _ (Nat.le_refl _)]; omega) ?_
  ·intro c' a' w' hr' hd' g' hu'
   exact ⟨s',H',N',hq,c',hr',hd',g',hu'⟩
  ·refine ⟨?_,hd,g,?_,fun i hi=>hu i (by simp only [stN] at hNN; omega),?_⟩
   ·have e1 : (fun t=>AdV (s t) (fun k=>(ops[k]?.bind (·.dst))==some t) (fun k=>(st[k]?.map (·.x)).getD .undef) (AaZ (Array.replicate ops.length false)) ops.length)=s:=by
     funext t
     rw [AcY _ _ _ _ 0 ops.length (by omega) (fun k _ hk _=>hE k hk)]; rfl
    have e2 : (fun id=>AdV (H id) (fun k=>((st[k]?.map (·.W)).getD []).contains id) (fun k=>stH st H (k+1) id) (AaZ (Array.replicate ops.length false)) ops.length)=H:=by
     funext t
     rw [AcY _ _ _ _ 0 ops.length (by omega) (fun k _ hk _=>hE k hk)]; rfl
    rw [e1,e2]; exact hr
   ·intro i t ht hi id k1 k2
    have hil : i<ops.length:=by have:=(List.getElem?_eq_some_iff.1 ht).1; omega
    have A:=(t5 i ops[i] t (by simp [hil]) ht).wn id k1
    have:=AeI t1 t5 0 i (by omega) (by omega)
    simp only [stN] at this
    exact hu id (by have:=A.2 k2; omega)
   ·intro j o' hj hjE
    have hjl : j<ops.length:=(List.getElem?_eq_some_iff.1 hj).1
    rw [hE j hjl] at hjE; cases hjE
end
end Go.Abs
