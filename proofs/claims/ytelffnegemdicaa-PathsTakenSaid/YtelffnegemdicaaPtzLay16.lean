import Derived.Test.YtelffnegemdicaaPtzLay15
set_option linter.unusedVariables false
set_option linter.unusedSimpArgs false
namespace Go.Abs
open Go.RowKit (Below)
section
variable {P : Program} {o : Oper} {s : Nat→AV} {H : Aas} {N : Nat} {K : CK} {mu : List Nat}
def Api (P : Program) (o : Oper) (s : Nat→AV) (H : Aas) (N : Nat) (K : CK) : Prop:=∃ x H' N' T W,Aau P o s H N x H' N' T W∧K x H' N' T W
theorem Abr {α : Type} {a : Array α} {l : List α} (h : a.toList=l) : a=l.toArray:=by cases a; simpa using h
theorem Aii (hc : Aap o=true) (m : Bool) (b : Builtin) (args : Array Operand) (ts : Array TypeId) (ho : o.op = .call { callee := .builtin b,args:=args,argTypes:=ts })
 (h : Agk P m b ts.toList (args.toList.map (ev s)) H N K) : Api P o s H N K:=by
 generalize hx : args.toList.map (ev s)=xs at h
 generalize ht : ts.toList=tl at h
 have one : ∀ y,[y]=xs→∃ z,args = #[z]∧ev s z=y:=by
  intro y h; rw [← hx] at h
  cases ha : args.toList with
  | nil=>simp [ha] at h
  | cons z l =>
   cases l with
   | nil=>simp [ha] at h; exact ⟨z,Abr ha,h.symm⟩
   | cons=>simp [ha] at h
 have two : ∀ y y',[y,y']=xs→∃ z z',args = #[z,z']∧ev s z=y∧ev s z'=y':=by
  intro y y' h; rw [← hx] at h
  match ha : args.toList,h with
  | [z,z'],h=>simp at h; exact ⟨z,z',Abr ha,h.1.symm,h.2.symm⟩
  | [],h=>simp at h
  | [_],h=>simp at h
  | _::_::_::_,h=>simp at h
 unfold Agk at h
 split at h
 ·rename_i t nl fl ys
  obtain ⟨z,rfl,hz⟩:=one _ rfl
  have:=Abr ht; subst this
  obtain ⟨e,he⟩:=AjO h.1
  exact ⟨_,_,_,_,_,AmB hc t e z ho nl fl ys hz he,h.2⟩
 ·rename_i t b
  obtain ⟨z,rfl,hz⟩:=one _ rfl
  have:=Abr ht; subst this
  exact ⟨_,_,_,_,_,Al9 hc t z ho b hz (Adm h.1),h.2⟩
 ·rename_i t id off es len full
  obtain ⟨z,rfl,hz⟩:=one _ rfl
  have:=Abr ht; subst this
  obtain ⟨e,he⟩:=AjO h.1
  obtain ⟨o',ho'⟩:=h.2.2.1
  exact ⟨_,_,_,_,_,AmA hc t e z ho id off es len full hz h.2.1 o' ho' he,h.2.2.2⟩
 ·rename_i k a k' b
  obtain ⟨z,z',rfl,hz,hz'⟩:=two _ _ rfl
  obtain ⟨rfl,h⟩:=h
  exact ⟨_,_,_,_,_,Aol hc ts z z' ho k a b hz hz',h⟩
 ·rename_i k a k' b
  obtain ⟨z,z',rfl,hz,hz'⟩:=two _ _ rfl
  obtain ⟨rfl,h⟩:=h
  exact ⟨_,_,_,_,_,Aok hc ts z z' ho k a b hz hz',h⟩
 ·rename_i t t' nl fl ys z
  obtain ⟨y,z',rfl,hy,hz⟩:=two _ _ rfl
  have:=Abr ht; subst this
  obtain ⟨h2,h⟩:=h
  split at h
  ·rcases h with ⟨hfl,hnl,h⟩ | ⟨hnf,h⟩
   ·split at h
    ·rename_i e es by_ hE
     obtain ⟨h3,h4,h⟩:=h
     obtain ⟨zs,T,k1,k2,⟨k0,k3,k4,k5,k6,k7⟩,k8⟩:=Adr h
     refine ⟨_,_,_,_,_,AjD hc t t' y z' ho nl fl ys hy hfl e es by_ hE h2 zs T ⟨by rw [hz]; exact k1,k3.1,k3.2,?_,k2⟩ h3 k0 h4.1 h4.2 k5 k6,k7⟩
     intro hs
     rw [hz] at hs
     obtain ⟨id,rfl⟩:=k8 hs
     exact List.all_eq_true.1 (k4 (by simp))
    ·exact h.elim
   split at h
   ·rename_i e es by_ hE
    obtain ⟨h3,h⟩:=h
    obtain ⟨zs,T,k1,k2,⟨k3,k4,k5,k6,k7⟩,k8⟩:=Adr h
    refine ⟨_,_,_,_,_,AjB hc t t' y z' ho nl fl ys hy hnf e es by_ hE h2 zs T ⟨by rw [hz]; exact k1,k3.1,k3.2,?_,k2⟩ h3 k5 k6,k7⟩
    intro hs
    rw [hz] at hs
    obtain ⟨id,rfl⟩:=k8 hs
    exact List.all_eq_true.1 (k4 (by simp))
   ·exact h.elim
  ·obtain ⟨h1,h⟩:=h
   split at h
   ·rename_i e es by_ hE
    obtain ⟨h3,h⟩:=h
    obtain ⟨zs,T,k1,k2,⟨k3,k4,k5,k6,k7⟩,k8⟩:=Adr h
    refine ⟨_,_,_,_,_,AjC hc t t' y z' ho nl fl ys hy h1 e es by_ hE h2 zs T ⟨by rw [hz]; exact k1,k3.1,k3.2,?_,k2⟩ h3.1 h3.2 k5 k6,k7⟩
    intro hs
    rw [hz] at hs
    obtain ⟨id,rfl⟩:=k8 hs
    exact List.all_eq_true.1 (k4 (by simp))
   ·exact h.elim
 ·rename_i t t' id off es len full z
  obtain ⟨y,z',rfl,hy,hz⟩:=two _ _ rfl
  have:=Abr ht; subst this
  obtain ⟨h0,h2,h⟩:=h
  split at h
  ·rename_i e es' by_ obj hE hob
   split at h
   ·rename_i cs hcs
    obtain ⟨rfl,h3,h4,h5,h6,h⟩:=h
    obtain ⟨zs,T,k1,k2,⟨k3,k4,k5,k6,k7⟩,k8⟩:=Adr h
    refine ⟨_,_,_,_,_,AjA hc t t' y z' ho id off es' len full hy h0 obj hob cs hcs h4 h5 e by_ hE h2 zs T ⟨by rw [hz]; exact k1,k3.1,k3.2,?_,k2⟩ (List.all_eq_true.1 h6) h3 k5 k6,k7⟩
    intro hs
    rw [hz] at hs
    obtain ⟨id,rfl⟩:=k8 hs
    exact List.all_eq_true.1 (k4 (by simp))
   ·exact h.elim
  ·exact h.elim
 ·rename_i t id off es len full
  obtain ⟨z,rfl,hz⟩:=one _ rfl
  have:=Abr ht; subst this
  split at h
  ·rename_i e es' by_ hE
   split at h
   ·rename_i x hx0
    obtain ⟨h0,obj,cs,e1,e2,h1,rfl,h2,h3,h4,h⟩:=Abz h
    exact ⟨_,_,_,_,_,AmE hc t z ho id off es' len full hz h0 obj e1 cs e2 h1 e by_ hE x hx0 h2 h3 h4,h⟩
   ·exact h.elim
  ·exact h.elim
 ·rename_i t t' id off es len full z
  obtain ⟨y,z',rfl,hy,hz⟩:=two _ _ rfl
  have:=Abr ht; subst this
  split at h
  ·rename_i e es' by_ hE
   obtain ⟨h0,obj,cs,e1,e2,h1,rfl,h2,h⟩:=Abz h
   obtain ⟨zs,T,k1,k2,⟨k3,k4,k5,k6⟩,k8⟩:=Adr h
   refine ⟨_,_,_,_,_,AnO hc t t' y z' ho id off es' len full hy h0 obj e1 cs e2 h1 e by_ hE h2 zs T (by rw [hz]; exact k1) k2 k3.1 k3.2 ?_ k5,k6⟩
   rintro ⟨i1,i2,i3,i4,i5,hs⟩
   rw [hz] at hs; subst hs
   obtain ⟨id,rfl⟩:=k8 ⟨_,_,_,_,_,rfl⟩
   exact List.all_eq_true.1 (k4 (by simp))
  ·exact h.elim
 ·rename_i t t' id z
  obtain ⟨y,z',rfl,hy,hz⟩:=two _ _ rfl
  have:=Abr ht; subst this
  obtain ⟨h0,h⟩:=h
  split at h
  ·rename_i es kd zv e1 e2
   subst hz
   exact ⟨_,_,_,_,_,AlN hc t t' y z' ho id hy h0 es e1 kd zv e2 h.1 h.2.1,h.2.2⟩
  ·exact h.elim
 ·exact h.elim
theorem Amy (hc : Aap o=true) (h : aop P mu o s H N K) : Api P o s H N K:=by
 unfold aop at h
 split at h
 ·rename_i y ho; exact ⟨_,_,_,_,_,Akm hc y (.inl ho),h⟩
 ·rename_i y ho; exact ⟨_,_,_,_,_,Akm hc y (.inr ho),h⟩
 ·rename_i t x y ho
  split at h
  ·rename_i b hb; exact ⟨_,_,_,_,_,AnN hc t x y ho b hb,h⟩
  ·exact h.elim
 ·rename_i op xt x y yt ho
  split at h
  ·rename_i r hr; exact ⟨_,_,_,_,_,Aon hc op xt yt x y ho r hr h.1,h.2⟩
  ·exact h.elim
 ·rename_i op xt x ho
  split at h
  ·rename_i r hr; exact ⟨_,_,_,_,_,AqU hc op xt x ho r hr,h⟩
  ·exact h.elim
 ·rename_i t y ho
  split at h
  ·rename_i cs hy
   split at h
   ·rename_i x hx; exact ⟨_,_,_,_,_,AlM hc t y ho cs hy x hx,h⟩
   ·exact h.elim
  ·rename_i id off hy
   obtain ⟨hid,obj,cs,hob,hcs,h⟩:=Abz h
   split at h
   ·rename_i x hx; exact ⟨_,_,_,_,_,AlL hc t y ho id off hy hid obj hob cs hcs x hx,h⟩
   ·exact h.elim
  ·exact h.elim
 ·rename_i t y z ho
  split at h
  ·rename_i id off hy
   obtain ⟨hid,obj,cs,hob,hcs,h0,h1,h2,h⟩:=Abz h
   exact ⟨_,_,_,_,_,Al7 hc t y z ho id off hy hid obj hob cs hcs h1 h2 h0,h⟩
  ·exact h.elim
 ·rename_i t y ho; exact ⟨_,_,_,_,_,Aom hc t y ho h.1,h.2⟩
 ·rename_i t ho
  split at h
  ·rename_i z hz; exact ⟨_,_,_,_,_,AmG t ho z hz,h⟩
  ·exact h.elim
 ·rename_i t y f ho
  split at h
  ·rename_i d hd
   split at h
   ·rename_i cs hy; exact ⟨_,_,_,_,_,AkD hc t y f ho cs hy d hd,h⟩
   ·rename_i id off hy
    obtain ⟨hid,obj,cs,hob,hcs,h0,h⟩:=Abz h
    exact ⟨_,_,_,_,_,AkC hc t y f ho id off hy hid obj hob (AcV hcs h0) d hd,h⟩
   ·exact h.elim
  ·exact h.elim
 ·rename_i y ho
  split at h
  ·rename_i cs hy; exact ⟨_,_,_,_,_,AhX hc y ho cs hy,h⟩
  ·rename_i f cs hy; exact ⟨_,_,_,_,_,AhW hc y ho f cs hy,h⟩
  ·rename_i id off hy
   obtain ⟨hid,obj,cs,hob,hcs,h0,h⟩:=Abz h
   exact ⟨_,_,_,_,_,AhV hc y ho id off hy hid obj hob (AcV hcs h0),h⟩
  ·exact h.elim
 ·rename_i t y z ho
  unfold Asv at h
  split at h
  ·rename_i k i hz
   split at h
   ·rename_i nl fl xs hy
    split at h
    ·rename_i e es by_ hE
     obtain ⟨h0,h1,h2,h3,h⟩:=h
     exact ⟨_,_,_,_,_,Aj9 hc t y z ho nl fl xs hy k i hz e es by_ hE h0 h1 _ (by simp [h1]) h2 h3,h⟩
    ·exact h.elim
   ·rename_i id off es len full hy
    split at h
    ·rename_i e es' by_ hE
     obtain ⟨hid,obj,cs,hob,hcs,h0,rfl,h1,h2,h⟩:=Abz h
     exact ⟨_,_,_,_,_,Aj8 hc t y z ho id off _ len full hy hid obj hob (AcV hcs h0) k i hz e by_ hE h1 h2,h⟩
    ·exact h.elim
   ·rename_i cs hy
    split at h
    ·rename_i m es hE; exact ⟨_,_,_,_,_,Ai6 hc t y z ho cs hy k i hz m es hE h.1 h.2.1,h.2.2⟩
    ·exact h.elim
   ·rename_i id off hy
    split at h
    ·rename_i m es hE
     obtain ⟨hid,obj,cs,hob,hcs,h0,h1,h2,h⟩:=Abz h
     exact ⟨_,_,_,_,_,Ai5 hc t y z ho id off hy hid obj hob (AcV hcs h0) k i hz m es hE h1 h2,h⟩
    ·exact h.elim
   ·exact h.elim
  ·exact h.elim
 ·rename_i t y z ho
  split at h
  ·rename_i b k i hy hz
   exact ⟨_,_,_,_,_,AkA hc t y z ho b hy k i hz (Adm h.1) h.2.1 h.2.2.1,h.2.2.2⟩
  ·rename_i xs k i hy hz
   split at h
   ·rename_i m kk hE
    obtain ⟨e,hu,ha,hs⟩:=Ann hE
    exact ⟨_,_,_,_,_,AkB hc t y z ho xs hy k i hz m e hu ha hs h.1 h.2.1 _ (by rw [List.getElem?_eq_getElem h.2.2.1]; rfl),h.2.2.2⟩
   ·exact h.elim
  ·exact h.elim
 ·rename_i y i ho
  split at h
  ·rename_i xs hy
   split at h
   ·rename_i x hx; exact ⟨_,_,_,_,_,AkE hc y i ho xs hy x hx,h⟩
   ·exact h.elim
  ·exact h.elim
 ·rename_i f first caps ho
  have : first = #[]:=Array.size_eq_zero_iff.1 h.1
  subst this
  exact ⟨_,_,_,_,_,Ai4 hc f caps ho,h.2⟩
 ·rename_i t y l hh m ho
  split at h
  ·rename_i nl fl xs hy
   split at h
   ·rename_i e es by_ hE
    obtain ⟨h0,h⟩:=h
    obtain ⟨lo,hlo,h⟩:=AfA h
    obtain ⟨hi,hhi,hm,h1,h2,h⟩:=AfA h
    exact ⟨_,_,_,_,_,Aj6 hc t y l hh m ho nl fl xs hy e es by_ hE h0.1 lo hi hlo hhi hm h1 h2,h⟩
   ·exact h.elim
  ·rename_i b hy
   obtain ⟨h0,rfl,h⟩:=h
   obtain ⟨lo,hlo,h⟩:=AfA h
   obtain ⟨hi,hhi,h1,h2,h⟩:=AfA h
   exact ⟨_,_,_,_,_,Aj4 hc t y l hh ho b hy (Adm h0) lo hi hlo hhi h1 h2,h⟩
  ·rename_i id off es len full hy
   split at h
   ·rename_i e es' by_ hE
    obtain ⟨hid,obj,cs,hob,hcs,h0,rfl,h⟩:=Abz h
    obtain ⟨lo,hlo,h⟩:=AfA h
    obtain ⟨hi,hhi,hm,h1,h2,h⟩:=AfA h
    exact ⟨_,_,_,_,_,Aj5 hc t y l hh m ho id off _ len full hy hid obj hob (AcV hcs h0) e by_ hE lo hi hlo hhi hm h1 h2,h⟩
   ·exact h.elim
  ·exact h.elim
 ·rename_i t n parts ho
  split at h
  ·rename_i e es by_ hE
   obtain ⟨h1,h2,h3,h4,h5,h⟩:=h
   split at h
   ·exact ⟨_,_,_,_,_,AgU hc t n parts ho e es by_ hE h1 h2 h3.1 h3.2 h4 h5,h⟩
   ·exact ⟨_,_,_,_,_,AgV hc t n parts ho e es by_ hE h1 h2 h3.1 h3.2 h4 h5,h⟩
  ·exact h.elim
 ·rename_i t y z ho
  split at h
  ·rename_i e es by_ hE
   split at h
   ·rename_i k m k' m' x hy hz hx
    obtain ⟨rfl,h0,h1,h2,h⟩:=h
    split at h
    ·exact ⟨_,_,_,_,_,Ag0 hc t y z ho e es by_ hE k k' _ hy hz h0 h1 h2 x hx,h⟩
    ·exact ⟨_,_,_,_,_,Ag1 hc t y z ho e es by_ hE k k' _ hy hz h0 h1 h2 x hx,h⟩
   ·exact h.elim
  ·exact h.elim
 ·rename_i t parts ho
  obtain ⟨h0,h⟩:=h
  split at h
  ·rename_i cs hb; exact ⟨_,_,_,_,_,AmF hc t parts ho h0 cs hb,h⟩
  ·exact h.elim
 ·rename_i src dst y ho
  split at h
  ·rename_i k n hy
   obtain ⟨h0,h⟩:=h
   split at h
   ·rename_i k' hk; exact ⟨_,_,_,_,_,Ai8 hc src dst y ho k k' n hy h0 (AlV hk),h⟩
   ·exact h.elim
  ·rename_i b hy
   obtain ⟨h0,h1,h2,h⟩:=h
   obtain ⟨e,he,he2⟩:=Afu h1
   split at h2
   ·rename_i e' es by_ hE
    subst h2
    obtain ⟨i,hu,_⟩:=AbR hE
    rw [he] at hu
    simp only [Option.some.injEq,Go.TypeDesc.slice.injEq] at hu
    subst hu
    split at h
    ·exact ⟨_,_,_,_,_,AiM hc src dst e by_ y ho (Adm h0) hE he2 b hy,h⟩
    ·exact ⟨_,_,_,_,_,Ai9 hc src dst e by_ y ho (Adm h0) hE he2 b hy,h⟩
   ·exact h2.elim
  ·rename_i id off es len full hy
   rcases h with ⟨rfl,rfl,h1,h⟩ | ⟨h0,h1,h⟩
   ·obtain ⟨e,he,he2⟩:=Afu h1
    obtain ⟨hid,obj,cs,hob,hcs,hne,h⟩:=Abz h
    exact ⟨_,_,_,_,_,Ai7 hc src e y ho he he2 id off len full hy hid obj hob (AcV hcs hne) cs hcs,h⟩
   ·obtain ⟨e,he,he2⟩:=Afu h0
    obtain ⟨ys,T,k1,k2,⟨k3,k4⟩,k5⟩:=Adr h
    exact ⟨_,_,_,_,_,Ahh hc src dst e y ho he he2 (Adm h1) ys T (by rw [hy]; exact k1) (fun b hb=>by rw [hy] at hb; cases hb) k3 k2,k4⟩
  ·rename_i hn1 hn2 hn3
   obtain ⟨h0,h1,h⟩:=h
   obtain ⟨e,he,he2⟩:=Afu h0
   obtain ⟨ys,T,k1,k2,⟨k3,k4⟩,k5⟩:=Adr h
   exact ⟨_,_,_,_,_,Ahh hc src dst e y ho he he2 (Adm h1) ys T k1 (fun b hb=>hn2 b hb) k3 k2,k4⟩
 ·rename_i t y f ho
  split at h
  ·rename_i cs hy
   split at h
   ·rename_i x hx; exact ⟨_,_,_,_,_,AmC hc t y f ho cs hy x hx,h⟩
   ·exact h.elim
  ·exact h.elim
 ·rename_i t ho; exact ⟨_,_,_,_,_,Aj7 t ho,h⟩
 ·rename_i t y z ok ho
  split at h
  ·rename_i id hy
   obtain ⟨hid,h⟩:=h
   split at h
   ·rename_i es kd zv hob ht
    refine ⟨_,_,_,_,_,AlK hc t y z ok ho id hy hid es hob kd zv ht h.1 h.2.1,?_⟩
    have h:=h.2.2
    cases ok
    ·simpa [AjN] using h
    ·simpa [AjN] using h
   ·exact h.elim
  ·exact h.elim
 ·rename_i t y z v ho
  split at h
  ·rename_i id hy
   obtain ⟨hid,h⟩:=h
   split at h
   ·rename_i es kd zv hob ht
    exact ⟨_,_,_,_,_,Afn hc t y z v (.inl ho) id hy hid es hob kd zv ht h.1 h.2.1,h.2.2⟩
   ·exact h.elim
  ·exact h.elim
 ·rename_i t y z v ho
  split at h
  ·rename_i id hy
   obtain ⟨hid,h⟩:=h
   split at h
   ·rename_i es kd zv hob ht
    exact ⟨_,_,_,_,_,Afn hc t y z v (.inr ho) id hy hid es hob kd zv ht h.1 h.2.1,h.2.2⟩
   ·exact h.elim
  ·exact h.elim
 ·rename_i c ho
  split at h
  ·rename_i b hb
   exact Aii hc _ b c.args c.argTypes (by rw [ho]; cases c; simp_all) h
  ·rename_i g hg
   split at h
   ·rename_i f caps hf
    obtain ⟨x,H',N',T,W,h1,h2⟩:=h
    exact ⟨x,H',N',T,W,h1 o s g c.args c.argTypes caps hc (by rw [ho]; cases c; simp_all) hf rfl,h2⟩
   ·exact h.elim
  ·exact h.elim
 ·exact h.elim
def oCs (o : Option Aat) : Option (Aat×List AV):=o.bind fun o=>o.cs?.map fun cs=>(o,cs)
@[simp] theorem AqZ (cs : List AV) : oCs (some (.cells cs))=some (.cells cs,cs):=rfl
@[simp] theorem ArY (cs : List AV) : oCs (some (.grow cs))=some (.grow cs,cs):=rfl
theorem AcS {H : Aas} {N id : Nat} {o : Aat} {cs : List AV} (h : oCs (H id)=some (o,cs)) {k : Aat→List AV→Prop} (hN : id<N) (hk : k o cs) : AeR H N id k:=by
 unfold oCs at h
 cases hh : H id with
 | none=>simp [hh] at h
 | some o' =>
  simp only [hh,Option.bind_some,Option.map_eq_some_iff,Prod.mk.injEq] at h
  obtain ⟨cs',h1,rfl,rfl⟩:=h
  refine ⟨hN,?_⟩
  simp only [hh,h1]; exact hk
def ApV (K : CK) (H : Aas) (N : Nat) (x y : AV) : AV→Prop
 | .bool b=>K (Ai3 b x y) H N [] []
 | _=>False
def Amk (K : CK) (H : Aas) (N : Nat) (T : List Nat) : Option AV→Prop
 | some r=>K r H N T []
 | none=>False
def Amo (P : Program) (t : TypeId) (K : CK) (H : Aas) (N id off : Nat) : Option (Aat×List AV)→Prop
 | some (_,cs)=>id<N∧Amk K H N [id] (AeS P t (cs.drop off))
 | none=>False
def ApX (P : Program) (t : TypeId) (K : CK) (H : Aas) (N : Nat) : AV→Prop
 | .cptr cs=>Amk K H N [] (AeS P t cs)
 | .ptr id off=>Amo P t K H N id off (oCs (H id))
 | _=>False
def AkS (P : Program) (t : TypeId) (z : AV) (K : CK) (H : Aas) (N id off : Nat) : Option (Aat×List AV)→Prop
 | some (obj,cs)=>id<N∧cs≠[]∧z.fits P t=true∧off+z.cells.length≤cs.length∧K .skip (upd H id (some (obj.with (setR cs off z.cells)))) N [id] [id]
 | none=>False
def Ami (P : Program) (t : TypeId) (z : AV) (K : CK) (H : Aas) (N : Nat) : AV→Prop
 | .ptr id off=>AkS P t z K H N id off (oCs (H id))
 | _=>False
def Amw (K : CK) (H : Aas) (N : Nat) : Option (List AV)→Prop
 | some z=>K (.ptr N 0) (upd H N (some (.cells z))) (N+1) [] [N]
 | none=>False
def Af5 (x : AV) (K : CK) (H : Aas) (N id : Nat) : Option (Aat×List AV)→Prop
 | some (_,cs)=>id<N∧cs≠[]∧K x H N [id] []
 | none=>False
def Amq (K : CK) (H : Aas) (N : Nat) : Option Nat→AV→Prop
 | some d,.cptr cs=>K (.cptr (cs.drop d)) H N [] []
 | some d,.ptr id off=>Af5 (.ptr id (off+d)) K H N id (oCs (H id))
 | _,_=>False
def Asf (K : CK) (H : Aas) (N : Nat) : AV→Prop
 | .cptr cs=>K (.cptr cs) H N [] []
 | .fn f cs=>K (.fn f cs) H N [] []
 | .ptr id off=>Af5 (.ptr id off) K H N id (oCs (H id))
 | _=>False
def Ash (P : Program) (t : TypeId) (K : CK) (H : Aas) (N : Nat) : AV→AV→Option (TypeId×Nat×Nat)→Option (Nat×Nat)→Prop
 | .lst _ _ xs,.int _ i,some (_,es,_),_=>0≤i∧i.toNat<xs.length∧((xs[i.toNat]?).getD .undef).okc=true∧((xs[i.toNat]?).getD .undef).cells.length=es∧K (.cptr ((xs[i.toNat]?).getD .undef).cells) H N [] []
 | .slc id off es len _,.int _ i,some (_,es',_),_=>es'=es∧0≤i∧i.toNat<len∧Af5 (.ptr id (off+i.toNat*es)) K H N id (oCs (H id))
 | .cptr cs,.int _ i,_,some (m,es)=>0≤i∧i<m∧K (.cptr (cs.drop (i.toNat*es))) H N [] []
 | .ptr id off,.int _ i,_,some (m,es)=>0≤i∧i<m∧Af5 (.ptr id (off+i.toNat*es)) K H N id (oCs (H id))
 | _,_,_,_=>False
def Amp (P : Program) (t : TypeId) (K : CK) (H : Aas) (N : Nat) : AV→AV→Option (Nat×Abj)→Prop
 | .str b,.int _ i,_=>AkK P t=true∧0≤i∧i.toNat<b.size∧K (.int .u8 (b.data.toList.getD i.toNat 0).toNat) H N [] []
 | .agg xs,.int _ i,some (m,_)=>0≤i∧i<m∧i.toNat<xs.length∧K ((xs[i.toNat]?).getD .undef) H N [] []
 | _,_,_=>False
def Aik (i : Nat) (K : CK) (H : Aas) (N : Nat) : AV→Prop
 | .tup xs=>Amk K H N [] xs[i]?
 | _=>False
def Anj (s : Nat→AV) : Option Operand→Prop
 | none=>True
 | some y=>match ev s y with
  | .int _ n=>0≤n
  | _=>False
def Aha (s : Nat→AV) (d : Nat) : Option Operand→Nat
 | none=>d
 | some y=>match ev s y with
  | .int _ n=>n.toNat
  | _=>0
theorem Ahz {s : Nat→AV} {d : Nat} {x : Option Operand} {k : Nat→Prop} (h : Anj s x) (hk : k (Aha s d x)) : bnd s d x k:=by
 unfold Anj at h; unfold Aha at hk; unfold bnd
 cases x with
 | none=>exact hk
 | some y =>
  simp only [] at h hk ⊢
  split at h
  ·rename_i hy; simp only [hy] at hk ⊢; exact ⟨h,hk⟩
  ·exact h.elim
def ApU (s : Nat→AV) (l h m : Option Operand) (K : CK) (H : Aas) (N id off es len : Nat) (full : Bool) : Option (Aat×List AV)→Prop
 | some (_,cs)=>id<N∧cs≠[]∧Anj s l∧Anj s h∧(m=none∨(h.isSome=true∧AcB s 0 m=some (Aha s len h)))∧Aha s 0 l≤Aha s len h∧Aha s len h≤len ∧
  K (.slc id (off+Aha s 0 l*es) es (Aha s len h-Aha s 0 l) (m.isSome||(full&&h.isNone))) H N [id] []
 | none=>False
def Amj (P : Program) (t : TypeId) (s : Nat→AV) (l h m : Option Operand) (K : CK) (H : Aas) (N : Nat) : AV→Option (TypeId×Nat×Nat)→Prop
 | .lst nl fl xs,some (_,es,_)=>okEls es xs∧Anj s l∧Anj s h∧(m=none∨(h.isSome=true∧AcB s 0 m=some (Aha s xs.length h)))∧Aha s 0 l≤Aha s xs.length h∧Aha s xs.length h≤xs.length ∧
  K (.lst nl (m.isSome||(fl&&h.isNone)) ((xs.take (Aha s xs.length h)).drop (Aha s 0 l))) H N [] []
 | .str b,_=>AkK P t=true∧m=none∧Anj s l∧Anj s h∧Aha s 0 l≤Aha s b.size h∧Aha s b.size h≤b.size∧K (.str (b.extract (Aha s 0 l) (Aha s b.size h))) H N [] []
 | .slc id off es len full,some (_,es',_)=>es'=es∧ApU s l h m K H N id off es len full (oCs (H id))
 | _,_=>False
def Amm (K : CK) (H : Aas) (N : Nat) (x : AV) (y : List AV) (o : Aat) : Bool→Prop
 | true=>K x (upd H N (some o)) (N+1) [] [N]
 | false=>K (.lst false true y) H N [] []
def Asg (s : Nat→AV) (n : Nat) (parts : List (Nat×Operand)) (mu : Bool) (K : CK) (H : Aas) (N : Nat) : Option (TypeId×Nat×Nat)→Prop
 | some (_,es,_)=>Af1 0 parts=true∧parts.length=n∧okEls es (parts.map fun p=>ev s p.2)∧n*es≤16777216∧0<es ∧
  Amm K H N (.slc N 0 es n true) (parts.map fun p=>ev s p.2) (.cells (AaJ (parts.map fun p=>ev s p.2))) mu
 | none=>False
def Aml (P : Program) (mu : Bool) (K : CK) (H : Aas) (N : Nat) : AV→AV→Option (TypeId×Nat×Nat)→Prop
 | .int _ m,.int _ m',some (e,es,by_)=>m'=m∧0≤m∧by_*m.toNat≤281474976710656∧m.toNat≤maxLen∧(Abn P e).isSome=true ∧
  Amm K H N (.slc N 0 es m.toNat true) (List.replicate m.toNat ((Abn P e).getD .undef)) (.cells (AaJ (List.replicate m.toNat ((Abn P e).getD .undef)))) mu
 | _,_,_=>False
def Amv (K : CK) (H : Aas) (N : Nat) : Option (List AV)→Prop
 | some cs=>K (.agg cs) H N [] []
 | none=>False
def Amu (n : Int) (K : CK) (H : Aas) (N : Nat) : Option IntKind→Prop
 | some k'=>K (.int k' (k'.wrap n)) H N [] []
 | none=>False
def Asj : Option (TypeId×Nat×Nat)→Prop
 | some (_,es,_)=>es=1
 | none=>False
def ArJ (n : Nat) : Option (Aat×List AV)→Prop
 | some (_,cs)=>n≤cs.length
 | none=>False
theorem Alq {n : Nat} {x : Option (Aat×List AV)} (h : ArJ n x) : ∃ o cs,x=some (o,cs)∧n≤cs.length:=by
 unfold ArJ at h; split at h
 ·exact ⟨_,_,rfl,h⟩
 ·exact h.elim
def Am6 (H : Aas) (N : Nat) : AV→Prop
 | .lst _ _ _ | .str _=>True
 | .slc id off es len _=>es=1∧id<N∧ArJ (off+len) (oCs (H id))
 | _=>False
def Ajx : AV→List Nat
 | .slc id _ _ _ _=>[id]
 | _=>[]
def AeX (H : Aas) : AV→List AV
 | .lst _ _ ys=>ys
 | .str b=>bytes b.data.toList
 | .slc id off _ len _=>(((oCs (H id)).map (·.2)).getD []).drop off |>.take len
 | _=>[]
theorem Afa {H : Aas} {N : Nat} {X : AV} {k : List AV→List Nat→Prop} (h : Am6 H N X) (hk : k (AeX H X) (Ajx X)) : Am1 H N X k:=by
 unfold Am6 at h
 split at h
 ·exact hk
 ·exact hk
 ·rename_i id off es len f
  obtain ⟨rfl,h1,hq⟩:=h
  obtain ⟨o,cs,h2,h3⟩:=Alq hq
  simp only [AeX,h2,Option.map_some,Option.getD_some,Ajx] at hk
  unfold oCs at h2
  cases hh : H id with
  | none=>simp [hh] at h2
  | some o' =>
   simp only [hh,Option.bind_some,Option.map_eq_some_iff,Prod.mk.injEq] at h2
   obtain ⟨cs',q1,rfl,rfl⟩:=h2
   simp only [Am1,hh,q1]
   exact ⟨trivial,h1,h3,hk⟩
 ·exact h.elim
def Amr (K : CK) (H : Aas) (N : Nat) (b : ByteArray) : Bool→Prop
 | true=>K (.slc N 0 1 b.size false) (upd H N (some (.cells (bytes b.data.toList)))) (N+1) [] [N]
 | false=>K (.lst false false (bytes b.data.toList)) H N [] []
def Amt (P : Program) (src : TypeId) (K : CK) (H : Aas) (N id off es len : Nat) (full : Bool) : Option (Aat×List AV)→Prop
 | some (obj,cs)=>id<N∧cs≠[]∧es=1∧Am9 P src=true∧K (.slc id off es len full) (upd H id (some obj)) N [id] [id]
 | none=>False
def Ams (P : Program) (src dst : TypeId) (K : CK) (H : Aas) (N id off es len : Nat) (full : Bool) : Bool→Prop
 | true=>src=dst∧Amt P src K H N id off es len full (oCs (H id))
 | false=>Am9 P src=true∧AkK P dst=true∧Am6 H N (.slc id off es len full)∧AeQ (AeX H (.slc id off es len full))=true∧K (.str (sOf (AeX H (.slc id off es len full)))) H N (Ajx (.slc id off es len full)) []
def ApY (P : Program) (mu : Bool) (src dst : TypeId) (K : CK) (H : Aas) (N : Nat) : AV→Prop
 | .int _ n=>(P.underlying src).isSome=true∧Amu n K H N (AjP P dst)
 | .str b=>AkK P src=true∧Am9 P dst=true∧Asj (Aa5 P dst)∧Amr K H N b mu
 | .slc id off es len full=>Ams P src dst K H N id off es len full (decide (src=dst))
 | X=>Am9 P src=true∧AkK P dst=true∧Am6 H N X∧AeQ (AeX H X)=true∧K (.str (sOf (AeX H X))) H N (Ajx X) []
def Aso (K : CK) (H : Aas) (N : Nat) (nl : Bool) (ys : List AV) (z : AV) : Option (TypeId×Nat×Nat)→Prop
 | some (_,es,by_)=>okEls es ys∧Am6 H N z∧okEls es (AeX H z)∧(Ajx z≠[]→(AeX H z).all AV.one=true)∧ys.length+(AeX H z).length≤maxLen∧(ys.length+(AeX H z).length)*by_≤140737488355328 ∧
  K (.lst (nl&&(AeX H z).isEmpty) false (ys++AeX H z)) H N (Ajx z) []
 | none=>False
def Apb (K : CK) (H : Aas) (N id off es len : Nat) (z : AV) : Option (TypeId×Nat×Nat)→Option (Aat×List AV)→Prop
 | some (_,es',by_),some (obj,cs)=>id<N∧es'=es∧0<es∧off+len*es=cs.length∧(off=0∨∃ x,obj = .cells x)∧cs.all AV.one=true∧Am6 H N z∧okEls es (AeX H z)∧(Ajx z≠[]→(AeX H z).all AV.one=true) ∧
  len+(AeX H z).length≤maxLen∧(len+(AeX H z).length)*by_≤140737488355328 ∧
  K (.slc N 0 es (len+(AeX H z).length) false) (upd (upd H id none) N (some (obj.with (cs.drop off++AaJ (AeX H z))))) (N+1) (id::Ajx z) [id,N]
 | _,_=>False
def Anl (K : CK) (H : Aas) (N : Nat) (z : AV) : Option (TypeId×Nat×Nat)→Prop
 | some (_,es,by_)=>0<es∧Am6 H N z∧okEls es (AeX H z)∧(Ajx z≠[]→(AeX H z).all AV.one=true)∧(AeX H z).length≤maxLen∧(AeX H z).length*by_≤140737488355328 ∧
  K (.slc N 0 es (AeX H z).length false) (upd H N (some (.grow (AaJ (AeX H z))))) (N+1) (Ajx z) [N]
 | none=>False
def Anm (K : CK) (H : Aas) (N : Nat) (ys : List AV) (z : AV) : Option (TypeId×Nat×Nat)→Prop
 | some (_,es,by_)=>0<es∧okEls es ys∧Am6 H N z∧AeX H z≠[]∧okEls es (AeX H z)∧(Ajx z≠[]→(AeX H z).all AV.one=true)∧ys.length+(AeX H z).length≤maxLen∧(ys.length+(AeX H z).length)*by_≤140737488355328 ∧
  K (.slc N 0 es (ys.length+(AeX H z).length) false) (upd H N (some (.grow (AaJ (ys++AeX H z))))) (N+1) (Ajx z) [N]
 | none=>False
def AtA (mu : List Nat) (d : Option Nat) : Bool:=match d with | some d=>mu.contains (d+1000000) | none=>false
def Apc (K : CK) (H : Aas) (N : Nat) (nl fl : Bool) (ys : List AV) (z : AV) (e : Option (TypeId×Nat×Nat)) : Bool→Prop
 | true=>fl=true∧nl=false∧Anm K H N ys z e
 | false=>(nl=true∨(fl=true∧ys = []))∧Anl K H N z e
def Apd (mf : Bool) (K : CK) (H : Aas) (N : Nat) (nl fl : Bool) (ys : List AV) (z : AV) (e : Option (TypeId×Nat×Nat)) : Bool→Prop
 | true=>Apc K H N nl fl ys z e mf
 | false=>(fl=true∨nl=true)∧Aso K H N nl ys z e
def oMp : Option Aat→Option (List (AV×AV))
 | some (.mp es)=>some es
 | _=>none
@[simp] theorem As2 (es : List (AV×AV)) : oMp (some (.mp es))=some es:=rfl
theorem Agd {o : Option Aat} {es : List (AV×AV)} (h : oMp o=some es) : o=some (.mp es):=by
 unfold oMp at h; split at h
 ·simp only [Option.some.injEq] at h; rw [h]
 ·cases h
def ApZ (K : CK) (H : Aas) (N id off es len : Nat) (obj : Aat) (cs : List AV) : Option AV→Prop
 | some x=>cs≠[]∧off+len*es≤cs.length∧x.cells.length=es∧x.cells.all AV.one=true∧K (.tup []) (upd H id (some (obj.with (setR cs off (AaJ (List.replicate len x)))))) N [id] [id]
 | none=>False
def Asm (P : Program) (K : CK) (H : Aas) (N id off es len : Nat) : Option (TypeId×Nat×Nat)→Option (Aat×List AV)→Prop
 | some (e,es',_),some (obj,cs)=>id<N∧es'=es∧ApZ K H N id off es len obj cs (Abn P e)
 | _,_=>False
def Asl (K : CK) (H : Aas) (N id off es len : Nat) (z : AV) : Option (TypeId×Nat×Nat)→Option (Aat×List AV)→Prop
 | some (_,es',_),some (obj,cs)=>id<N∧es'=es∧cs≠[]∧off+len*es≤cs.length∧Am6 H N z∧okEls es (AeX H z)∧(Ajx z≠[]→(AeX H z).all AV.one=true)∧(AeX H z).length≤len ∧
  K (.int .i64 (AeX H z).length) (upd H id (some (obj.with (setR cs off (AaJ (AeX H z)))))) N (id::Ajx z) [id]
 | _,_=>False
def Ask (K : CK) (H : Aas) (N id : Nat) (z : AV) : Option (List (AV×AV))→Option (Abj×AV)→Prop
 | some es,some (kd,_)=>id<N∧kd.has z=true∧(es.all fun p=>kd.has p.1)=true∧K (.tup []) (upd H id (some (.mp (AiS es z)))) N [id] [id]
 | _,_=>False
def Ail (P : Program) (mu mf : Bool) (K : CK) (H : Aas) (N : Nat) : Builtin→List TypeId→List AV→Prop
 | .len,[t],[.lst _ _ ys]=>AlU P t=true∧K (.int .i64 ys.length) H N [] []
 | .len,[t],[.str b]=>AkK P t=true∧K (.int .i64 b.size) H N [] []
 | .len,[t],[.slc id _ _ len _]=>AlU P t=true∧id<N∧(∃ o,H id=some o)∧K (.int .i64 len) H N [id] []
 | .max,_,[.int k a,.int k' b]=>k=k'∧K (Aqm k a b) H N [] []
 | .min,_,[.int k a,.int k' b]=>k=k'∧K (Aql k a b) H N [] []
 | .append,[t,t'],[.lst nl fl ys,z]=>Aco P t'=true∧Apd mf K H N nl fl ys z (Aa5 P t) mu
 | .append,[t,t'],[.slc id off es len _,z]=>Aco P t'=true∧Apb K H N id off es len z (Aa5 P t) (oCs (H id))
 | .clear,[t],[.slc id off es len _]=>Asm P K H N id off es len (Aa5 P t) (oCs (H id))
 | .copy,[t,_],[.slc id off es len _,z]=>Asl K H N id off es len (Ajc len z) (Aa5 P t) (oCs (H id))
 | .delete,[t,_],[.map id,z]=>Ask K H N id z (oMp (H id)) (AeY P t)
 | _,_,_=>False
def Apa (P : Program) (args : List AV) (K : CK) (H : Aas) (N : Nat) : AV→Prop
 | .fn f caps=>Ale P f (args++caps) H N K
 | _=>False
def Asn (op : BinOp) (x y : AV) (K : CK) (H : Aas) (N : Nat) : Option AV→Prop
 | some r=>AgW op x y∧K r H N [] []
 | none=>False
def AkT (K : CK) (H : Aas) (N : Nat) (q : Option (Nat×Option Nat)) : AV→Prop
 | .agg cs=>Amk K H N [] (AhT cs q)
 | _=>False
def Amn (K : CK) (H : Aas) (N id : Nat) (z : AV) (ok : Bool) : Option (List (AV×AV))→Option (Abj×AV)→Prop
 | some es,some (kd,zv)=>id<N∧kd.has z=true∧(es.all fun p=>kd.has p.1)=true∧K (AjN zv (AfS es z) ok) H N [id] []
 | _,_=>False
def ApW (K : CK) (H : Aas) (N : Nat) (z : AV) (ok : Bool) (q : Option (Abj×AV)) : AV→Prop
 | .map id=>Amn K H N id z ok (oMp (H id)) q
 | _=>False
def Aij (K : CK) (H : Aas) (N id : Nat) (z v : AV) : Option (List (AV×AV))→Option (Abj×AV)→Prop
 | some es,some (kd,_)=>id<N∧kd.has z=true∧(es.all fun p=>kd.has p.1)=true∧K .skip (upd H id (some (.mp (AcW es z v)))) N [id] [id]
 | _,_=>False
def Aji (K : CK) (H : Aas) (N : Nat) (z v : AV) (q : Option (Abj×AV)) : AV→Prop
 | .map id=>Aij K H N id z v (oMp (H id)) q
 | _=>False
def bop (P : Program) (mu : List Nat) (d : Option Nat) (s : Nat→AV) (H : Aas) (N : Nat) (K : CK) : Op→Prop
 | .move y=>K (ev s y) H N [] []
 | .assign y=>K (ev s y) H N [] []
 | .pick t x y=>ApV K H N (ev s x) (ev s y) (ev s t)
 | .binOp op xt x y _=>Asn op (ev s x) (ev s y) K H N (ArD P op xt (ev s x) (ev s y))
 | .unOp op _ x=>Amk K H N [] (aun op (ev s x))
 | .load t y=>ApX P t K H N (ev s y)
 | .store t y z=>Ami P t (ev s z) K H N (ev s y)
 | .box t y=>(ev s y).fits P t=true∧K (.ptr N 0) (upd H N (some (.cells (ev s y).cells))) (N+1) [] [N]
 | .alloc t=>Amw K H N (Abv P t)
 | .fieldAddr t y f=>Amq K H N (Ab2 P t f) (ev s y)
 | .nilCheck y=>Asf K H N (ev s y)
 | .indexAddr t y z=>Ash P t K H N (ev s y) (ev s z) (Aa5 P t) (AfZ P t)
 | .index t y z=>Amp P t K H N (ev s y) (ev s z) (AoL P t)
 | .extract y i=>Aik i K H N (ev s y)
 | .makeFunc (.func f) first caps=>first.size=0∧K (.fn f (caps.toList.map (ev s))) H N [] []
 | .slice t y l h m=>Amj P t s l h m K H N (ev s y) (Aa5 P t)
 | .buildSlice t n parts=>Asg s n parts.toList (AnX mu d) K H N (Aa5 P t)
 | .makeSlice t y z=>Aml P (AnX mu d) K H N (ev s y) (ev s z) (Aa5 P t)
 | .build t parts=>Aci P t=true∧Amv K H N (Ajn P t (parts.toList.map fun p=>(p.1,ev s p.2)))
 | .convert src dst y=>ApY P (AnX mu d) src dst K H N (ev s y)
 | .field t y f=>AkT K H N (Ab7 P t f) (ev s y)
 | .makeMap _ none=>K (.map N) (upd H N (some (.mp []))) (N+1) [] [N]
 | .lookup t y z ok=>ApW K H N (ev s z) ok (AeY P t) (ev s y)
 | .mapUpdate t y z v=>Aji K H N (ev s z) (ev s v) (AeY P t) (ev s y)
 | .insert t y z v=>Aji K H N (ev s z) (ev s v) (AeY P t) (ev s y)
 | .call { callee := .builtin b,args:=as,argTypes:=ts } => Ail P (AnX mu d) (AtA mu d) K H N b ts.toList (as.toList.map (ev s))
 | .call { callee := .value g,args:=as,argTypes:=_ } => Apa P (as.toList.map (ev s)) K H N (ev s g)
 | _=>False
theorem ApT (h : bop P mu o.dst s H N K o.op) : aop P mu o s H N K:=by
 generalize ho : o.op=p at h
 unfold aop
 rw [ho]
 unfold bop at h
 split at h
 ·exact h
 ·exact h
 ·unfold ApV at h; split at h
  ·rename_i hh; simp only [hh]; exact h
  ·exact h.elim
 ·unfold Asn at h; split at h
  ·rename_i hh; simp only [hh]; exact h
  ·exact h.elim
 ·unfold Amk at h; split at h
  ·rename_i hh; simp only [hh]; exact h
  ·exact h.elim
 ·unfold ApX at h; split at h
  ·rename_i hh; simp only [hh]
   unfold Amk at h; split at h
   ·rename_i h2; simp only [h2]; exact h
   ·exact h.elim
  ·rename_i hh; simp only [hh]
   unfold Amo at h; split at h
   ·rename_i h2
    refine AcS h2 h.1 ?_
    have h3:=h.2
    unfold Amk at h3; split at h3
    ·rename_i h4; simp only [h4]; exact h3
    ·exact h3.elim
   ·exact h.elim
  ·exact h.elim
 ·unfold Ami at h; split at h
  ·rename_i hh; simp only [hh]
   unfold AkS at h; split at h
   ·rename_i h2; exact AcS h2 h.1 h.2
   ·exact h.elim
  ·exact h.elim
 ·exact h
 ·unfold Amw at h; split at h
  ·rename_i hh; simp only [hh]; exact h
  ·exact h.elim
 ·unfold Amq at h; split at h
  ·rename_i h1 h2; simp only [h1,h2]; exact h
  ·rename_i h1 h2; simp only [h1,h2]
   unfold Af5 at h; split at h
   ·rename_i h3; exact AcS h3 h.1 h.2
   ·exact h.elim
  ·exact h.elim
 ·unfold Asf at h; split at h
  ·rename_i h1; simp only [h1]; exact h
  ·rename_i h1; simp only [h1]; exact h
  ·rename_i h1; simp only [h1]
   unfold Af5 at h; split at h
   ·rename_i h3; exact AcS h3 h.1 h.2
   ·exact h.elim
  ·exact h.elim
 ·simp only []
  unfold Asv
  unfold Ash at h; split at h
  ·rename_i h1 h2 h3; simp only [h1,h2,h3]; exact h
  ·rename_i h1 h2 h3; simp only [h1,h2,h3]
   obtain ⟨q1,q2,q3,h⟩:=h
   unfold Af5 at h; split at h
   ·rename_i h4; exact AcS h4 h.1 ⟨h.2.1,q1,q2,q3,h.2.2⟩
   ·exact h.elim
  ·rename_i h1 h2 h3; simp only [h1,h2,h3]; exact h
  ·rename_i h1 h2 h3; simp only [h1,h2,h3]
   obtain ⟨q2,q3,h⟩:=h
   unfold Af5 at h; split at h
   ·rename_i h4; exact AcS h4 h.1 ⟨h.2.1,q2,q3,h.2.2⟩
   ·exact h.elim
  ·exact h.elim
 ·unfold Amp at h; split at h
  ·rename_i h1 h2; simp only [h1,h2]; exact h
  ·rename_i h1 h2 h3; simp only [h1,h2,h3]; exact h
  ·exact h.elim
 ·unfold Aik at h; split at h
  ·rename_i h1; simp only [h1]
   unfold Amk at h; split at h
   ·rename_i h2; simp only [h2]; exact h
   ·exact h.elim
  ·exact h.elim
 ·exact h
 ·unfold Amj at h; split at h
  ·rename_i h1 h2; simp only [h1,h2]
   obtain ⟨q1,q2,q3,q4,q5,q6,h⟩:=h
   exact ⟨q1,Ahz q2 (Ahz q3 ⟨q4,q5,q6,h⟩)⟩
  ·rename_i h1; simp only [h1]
   obtain ⟨q0,q1,q2,q3,q5,q6,h⟩:=h
   exact ⟨q0,q1,Ahz q2 (Ahz q3 ⟨q5,q6,h⟩)⟩
  ·rename_i h1 h2; simp only [h1,h2]
   obtain ⟨q1,h⟩:=h
   unfold ApU at h; split at h
   ·rename_i h3
    obtain ⟨q2,q3,q4,q5,q6,q7,q8,h⟩:=h
    exact AcS h3 q2 ⟨q3,q1,Ahz q4 (Ahz q5 ⟨q6,q7,q8,h⟩)⟩
   ·exact h.elim
  ·exact h.elim
 ·unfold Asg at h; split at h
  ·rename_i h1; simp only [h1]
   obtain ⟨q1,q2,q3,q4,q5,h⟩:=h
   refine ⟨q1,by simpa using q2,q3,q4,q5,?_⟩
   unfold Amm at h
   split at h
   ·rename_i h2; simp only [h2,if_true]; exact h
   ·rename_i h2; simp only [h2,Bool.false_eq_true,if_false]; exact h
  ·exact h.elim
 ·unfold Aml at h; split at h
  ·rename_i h1 h2 h3; simp only [h1,h2,h3]
   obtain ⟨q1,q2,q3,q4,q5,h⟩:=h
   obtain ⟨x,hx⟩:=Option.isSome_iff_exists.1 q5
   simp only [hx,Option.getD_some] at h ⊢
   refine ⟨q1,q2,q3,q4,?_⟩
   unfold Amm at h
   split at h
   ·rename_i h2; simp only [h2,if_true]; exact h
   ·rename_i h2; simp only [h2,Bool.false_eq_true,if_false]; exact h
  ·exact h.elim
 ·refine ⟨h.1,?_⟩
  have h2:=h.2
  unfold Amv at h2; split at h2
  ·rename_i h3; simp only [h3]; exact h2
  ·exact h2.elim
 ·unfold ApY at h; split at h
  ·rename_i h1; simp only [h1]
   refine ⟨h.1,?_⟩
   have h2:=h.2
   unfold Amu at h2; split at h2
   ·rename_i h3; simp only [h3]; exact h2
   ·exact h2.elim
  ·rename_i h1; simp only [h1]
   obtain ⟨q1,q2,q3,h⟩:=h
   refine ⟨q1,q2,?_,?_⟩
   ·unfold Asj at q3; split at q3
    ·rename_i h3; simp only [h3]; exact q3
    ·exact q3.elim
   ·unfold Amr at h; split at h
    ·rename_i h3; simp only [h3,if_true]; exact h
    ·rename_i h3; simp only [h3,Bool.false_eq_true,if_false]; exact h
  ·rename_i h1; simp only [h1]
   unfold Ams at h; split at h
   ·left
    obtain ⟨q0,h⟩:=h
    unfold Amt at h; split at h
    ·rename_i h3
     obtain ⟨r1,r2,r3,r4,h⟩:=h
     exact ⟨q0,r3,r4,AcS h3 r1 ⟨r2,h⟩⟩
    ·exact h.elim
   ·right
    obtain ⟨r1,r2,r3,r4,h⟩:=h
    exact ⟨r1,r2,Afa r3 ⟨r4,h⟩⟩
  ·rename_i n1 n2 n3
   obtain ⟨q1,q2,q3,q4,h⟩:=h
   simp only []
   exact ⟨q1,q2,Afa q3 ⟨q4,h⟩⟩
 ·unfold AkT at h; split at h
  ·rename_i h1; simp only [h1]
   unfold Amk at h; split at h
   ·rename_i h2; simp only [h2]; exact h
   ·exact h.elim
  ·exact h.elim
 ·exact h
 ·unfold ApW at h; split at h
  ·rename_i h1; simp only [h1]
   unfold Amn at h; split at h
   ·rename_i h2 h3
    simp only [Agd h2,h3]; exact h
   ·exact h.elim
  ·exact h.elim
 ·unfold Aji at h; split at h
  ·rename_i h1; simp only [h1]
   unfold Aij at h; split at h
   ·rename_i h2 h3
    simp only [Agd h2,h3]; exact h
   ·exact h.elim
  ·exact h.elim
 ·unfold Aji at h; split at h
  ·rename_i h1; simp only [h1]
   unfold Aij at h; split at h
   ·rename_i h2 h3
    simp only [Agd h2,h3]; exact h
   ·exact h.elim
  ·exact h.elim
 ·rename_i b as ts
  simp only []
  generalize ts.toList=tl at h ⊢
  generalize as.toList.map (ev s)=xs at h ⊢
  unfold Ail at h
  unfold Agk
  split at h
  ·exact h
  ·exact h
  ·exact h
  ·exact h
  ·exact h
  ·rename_i t t' nl fl ys z
   obtain ⟨q2,h⟩:=h
   simp only []
   refine ⟨q2,?_⟩
   unfold Apd at h; split at h
   ·rename_i hmu
    rw [if_pos hmu]
    have h : (fl=true∧nl=false∧Anm K H N ys z (Aa5 P t))∨((nl=true∨(fl=true∧ys = []))∧Anl K H N z (Aa5 P t)):=by
     unfold Apc at h; split at h
     ·exact .inl h
     ·exact .inr h
    rcases h with ⟨hf,hn,h⟩ | h
    ·left
     refine ⟨hf,hn,?_⟩
     unfold Anm at h; split at h
     ·rename_i h3; simp only [h3]
      obtain ⟨r1,r2,r3,r4,r5,r6,r7,r8,h⟩:=h
      exact ⟨r1,r2,Afa r3 ⟨r4,r5,r6,r7,r8,h⟩⟩
     ·exact h.elim
    right
    refine ⟨h.1,?_⟩
    have h:=h.2
    unfold Anl at h; split at h
    ·rename_i h3; simp only [h3]
     obtain ⟨r1,r2,r3,r4,r5,r6,h⟩:=h
     exact ⟨r1,Afa r2 ⟨r3,r4,r5,r6,h⟩⟩
    ·exact h.elim
   ·rename_i hmu
    rw [if_neg (by simp [hmu])]
    refine ⟨h.1,?_⟩
    have h:=h.2
    unfold Aso at h; split at h
    ·rename_i h3; simp only [h3]
     obtain ⟨r1,r2,r3,r4,r5,r6,h⟩:=h
     exact ⟨r1,Afa r2 ⟨r3,r4,r5,r6,h⟩⟩
    ·exact h.elim
  ·obtain ⟨q2,h⟩:=h
   simp only []
   unfold Apb at h; split at h
   ·rename_i h3 h4; simp only [h3]
    obtain ⟨r0,r1,r2,r3,r4,r5,r6,r7,r8,r9,r10,h⟩:=h
    have h5:=AcS (k:=fun obj' cs'=>obj'=_∧cs'=_) h4 r0 ⟨rfl,rfl⟩
    obtain ⟨_,o',cs',e1,e2,rfl,rfl⟩:=Abz h5
    simp only [e1,e2]
    exact ⟨r0,q2,r1,r2,r3,r4,r5,Afa r6 ⟨r7,r8,r9,r10,h⟩⟩
   ·exact h.elim
  ·rename_i t id off es len full
   simp only []
   unfold Asm at h; split at h
   ·rename_i h3 h4; simp only [h3]
    obtain ⟨r0,r1,h⟩:=h
    unfold ApZ at h; split at h
    ·rename_i x h5; simp only [h5]
     obtain ⟨q0,q1,q2,q3,h⟩:=h
     exact AcS h4 r0 ⟨q0,r1,q1,q2,q3,h⟩
    ·exact h.elim
   ·exact h.elim
  ·rename_i t t' id off es len full z
   simp only []
   unfold Asl at h; split at h
   ·rename_i h3 h4; simp only [h3]
    obtain ⟨r0,r1,q0,q1,r6,r7,r8,r9,h⟩:=h
    exact AcS h4 r0 ⟨q0,r1,q1,Afa r6 ⟨r7,r8,r9,h⟩⟩
   ·exact h.elim
  ·rename_i t t' id z
   simp only []
   unfold Ask at h; split at h
   ·rename_i h3 h4
    obtain ⟨r0,r1,r2,h⟩:=h
    have h5:=Agd h3
    simp only [h5,h4]
    exact ⟨r0,r1,r2,h⟩
   ·exact h.elim
  ·exact h.elim
 ·unfold Apa at h; split at h
  ·rename_i h1; simp only [h1]; exact h
  ·exact h.elim
 ·exact h.elim
theorem AhF (hc : Aap o=true) (h : bop P mu o.dst s H N K o.op) : Api P o s H N K:=Amy hc (ApT h)
def Apv (ops : List Oper) : List Oper→List (Option (Nat×Bool))→Bool
 | [],[]=>true
 | o::os,g::gs=>(match o.guard,g with
  | none,none=>true
  | some (j,w),some (d,w')=>(ops[j]?).bind (·.dst)==some d&&w==w'
  | _,_=>false)&&Apv ops os gs
 | _,_=>false
def AfF (P : Program) (mu : List Nat) : List Oper→List (Option (Nat×Bool))→(Nat→AV)→Aas→Nat→Log→((Nat→AV)→Aas→Nat→Log→Prop)→Prop
 | [],_,s,H,N,lg,K=>K s H N lg.reverse
 | _::_,[],_,_,_,_,_=>False
 | o::os,none::gs,s,H,N,lg,K=>bop P mu o.dst s H N (fun x H' N' T W=>AfF P mu os gs (Abx s o.dst x) H' N' ((T,W)::lg) K) o.op
 | o::os,some (d,want)::gs,s,H,N,lg,K=>match s d with
  | .bool b=>(b=want→bop P mu o.dst (upd s d (.bool want)) H N (fun x H' N' T W=>AfF P mu os gs (Abx (upd s d (.bool want)) o.dst x) H' N' ((T,W)::lg) K) o.op) ∧
   (b = !want→AfF P mu os gs (Abx (upd s d (.bool !want)) o.dst .skip) H N (([],[])::lg) K)
  | .skip=>AfF P mu os gs (Abx s o.dst .skip) H N (([],[])::lg) K
  | _=>False
def Ao9 (P : Program) (mu : List Nat) (os : List Oper) (gs : List (Option (Nat×Bool))) (s : Nat→AV) (d : Option Nat) (lg : Log) (K : (Nat→AV)→Aas→Nat→Log→Prop) : CK :=
 fun x H' N' T W=>AfF P mu os gs (Abx s d x) H' N' ((T,W)::lg) K
@[simp] theorem Arr {P : Program} {mu : List Nat} {gs : List (Option (Nat×Bool))} {s : Nat→AV} {H : Aas} {N : Nat} {lg : Log} {K : (Nat→AV)→Aas→Nat→Log→Prop} : AfF P mu [] gs s H N lg K=K s H N lg.reverse:=by unfold AfF; rfl
@[simp] theorem ArA {P : Program} {mu : List Nat} {d : Option Nat} {op : Op} {ty : TypeId} {pos : String} {af : Array Edge} {g : Option (Nat×Bool)} {os : List Oper} {gs : List (Option (Nat×Bool))} {s : Nat→AV} {H : Aas} {N : Nat} {lg : Log} {K : (Nat→AV)→Aas→Nat→Log→Prop} :
 AfF P mu (⟨d,op,ty,pos,af,g⟩::os) (none::gs) s H N lg K=bop P mu d s H N (Ao9 P mu os gs s d lg K) op:=by
 conv=>lhs; unfold AfF
 rfl
theorem AkZ {α : Type} {s : Nat→α} {j : Nat} {v : α} (h : s j=v) : upd s j v=s:=by
 funext t
 by_cases e : t=j
 ·subst e; rw [AbW,h]
 ·rw [AbQ _ _ e]
theorem Aez {P : Program} {mu : List Nat} {d : Option Nat} {op : Op} {ty : TypeId} {pos : String} {af : Array Edge} {g : Option (Nat×Bool)} {os : List Oper} {j : Nat} {gs : List (Option (Nat×Bool))} {s : Nat→AV} {H : Aas} {N : Nat} {lg : Log} {K : (Nat→AV)→Aas→Nat→Log→Prop} {want : Bool} :
 AfF P mu (⟨d,op,ty,pos,af,g⟩::os) (some (j,want)::gs) s H N lg K=match s j with
  | .bool b=>(b=want→bop P mu d (upd s j (.bool want)) H N (Ao9 P mu os gs (upd s j (.bool want)) d lg K) op)∧(b = !want→AfF P mu os gs (Abx (upd s j (.bool !want)) d .skip) H N (([],[])::lg) K)
  | .skip=>AfF P mu os gs (Abx s d .skip) H N (([],[])::lg) K
  | _=>False:=by
 conv=>lhs; unfold AfF
 cases s j <;> rfl
@[simp] theorem Asq {P : Program} {mu : List Nat} {d : Option Nat} {op : Op} {ty : TypeId} {pos : String} {af : Array Edge} {g : Option (Nat×Bool)} {os : List Oper} {j : Nat} {gs : List (Option (Nat×Bool))} {s : Nat→AV} {H : Aas} {N : Nat} {lg : Log} {K : (Nat→AV)→Aas→Nat→Log→Prop} (h : s j = .bool true) : AfF P mu (⟨d,op,ty,pos,af,g⟩::os) (some (j,true)::gs) s H N lg K=bop P mu d s H N (Ao9 P mu os gs s d lg K) op:=by
 rw [Aez,h]; simp [AkZ h]
@[simp] theorem Asu {P : Program} {mu : List Nat} {d : Option Nat} {op : Op} {ty : TypeId} {pos : String} {af : Array Edge} {g : Option (Nat×Bool)} {os : List Oper} {j : Nat} {gs : List (Option (Nat×Bool))} {s : Nat→AV} {H : Aas} {N : Nat} {lg : Log} {K : (Nat→AV)→Aas→Nat→Log→Prop} (h : s j = .bool false) : AfF P mu (⟨d,op,ty,pos,af,g⟩::os) (some (j,false)::gs) s H N lg K=bop P mu d s H N (Ao9 P mu os gs s d lg K) op:=by
 rw [Aez,h]; simp [AkZ h]
@[simp] theorem Asr {P : Program} {mu : List Nat} {d : Option Nat} {op : Op} {ty : TypeId} {pos : String} {af : Array Edge} {g : Option (Nat×Bool)} {os : List Oper} {j : Nat} {gs : List (Option (Nat×Bool))} {s : Nat→AV} {H : Aas} {N : Nat} {lg : Log} {K : (Nat→AV)→Aas→Nat→Log→Prop} (h : s j = .bool true) : AfF P mu (⟨d,op,ty,pos,af,g⟩::os) (some (j,false)::gs) s H N lg K=AfF P mu os gs (Abx s d .skip) H N (([],[])::lg) K:=by
 rw [Aez,h]; simp [AkZ h]
@[simp] theorem Ast {P : Program} {mu : List Nat} {d : Option Nat} {op : Op} {ty : TypeId} {pos : String} {af : Array Edge} {g : Option (Nat×Bool)} {os : List Oper} {j : Nat} {gs : List (Option (Nat×Bool))} {s : Nat→AV} {H : Aas} {N : Nat} {lg : Log} {K : (Nat→AV)→Aas→Nat→Log→Prop} (h : s j = .bool false) : AfF P mu (⟨d,op,ty,pos,af,g⟩::os) (some (j,true)::gs) s H N lg K=AfF P mu os gs (Abx s d .skip) H N (([],[])::lg) K:=by
 rw [Aez,h]; simp [AkZ h]
@[simp] theorem Ass {P : Program} {mu : List Nat} {d : Option Nat} {op : Op} {ty : TypeId} {pos : String} {af : Array Edge} {g : Option (Nat×Bool)} {os : List Oper} {j : Nat} {gs : List (Option (Nat×Bool))} {s : Nat→AV} {H : Aas} {N : Nat} {lg : Log} {K : (Nat→AV)→Aas→Nat→Log→Prop} {want : Bool} (h : s j = .skip) : AfF P mu (⟨d,op,ty,pos,af,g⟩::os) (some (j,want)::gs) s H N lg K=AfF P mu os gs (Abx s d .skip) H N (([],[])::lg) K:=by
 rw [Aez,h]
@[simp] theorem AsS {P : Program} {mu : List Nat} {os : List Oper} {gs : List (Option (Nat×Bool))} {s : Nat→AV} {d : Option Nat} {lg : Log} {K : (Nat→AV)→Aas→Nat→Log→Prop} {x : AV} {H : Aas} {N : Nat} {T W : List Nat} :
 Ao9 P mu os gs s d lg K x H N T W=AfF P mu os gs (Abx s d x) H N ((T,W)::lg) K:=rfl
@[congr] theorem Apu {P : Program} {mu : List Nat} {os : List Oper} {gs : List (Option (Nat×Bool))} {s : Nat→AV} {d : Option Nat} {lg : Log} {K : (Nat→AV)→Aas→Nat→Log→Prop} : Ao9 P mu os gs s d lg K=Ao9 P mu os gs s d lg K:=rfl
@[congr] theorem Ap3 {P : Program} {mu : List Nat} {os : List Oper} {gs : List (Option (Nat×Bool))} {s : Nat→AV} {H : Aas} {N : Nat} {lg : Log} {K : (Nat→AV)→Aas→Nat→Log→Prop} : AfF P mu os gs s H N lg K=AfF P mu os gs s H N lg K:=rfl
@[congr] theorem Aq7 {P : Program} {mu : List Nat} {d : Option Nat} {op : Op} {s : Nat→AV} {H : Aas} {N : Nat} {K : CK} : bop P mu d s H N K op=bop P mu d s H N K op:=rfl
@[congr] theorem Ape {P : Program} {f : FuncId} {args args' : List AV} {H : Aas} {N : Nat} {K : CK} (h : args=args') : Ale P f args H N K=Ale P f args' H N K:=by rw [h]
attribute [simp] Asl Ajc Asm ApZ Ask bop ApV Amk Amo ApX AkS Ami Amw Af5 Amq Asf Ash Amp Aik Anj Aha ApU Amj Amm Asg Aml Amv Amu Asj ArJ Am6 Ajx AeX ApY Aso Anl Apd Apb Ail Apa Asn Amr Amt Ams Anm Apc AkT Amn ApW Aij Aji AjN AhT
theorem Aox {a b : Bool} (h : ¬ a=b) : a = !b:=by cases a <;> cases b <;> simp_all
theorem AfB {ops : List Oper} {K : (Nat→AV)→Aas→Nat→Log→Prop} : ∀ (l : List Oper) (gs : List (Option (Nat×Bool))) (s : Nat→AV) (H : Aas) (N : Nat) (lg : Log),(∀ o ∈ l,Aap o=true)→Apv ops l gs=true →
 AfF P mu l gs s H N lg K→∃ st s' H' N',Tr P ops.toArray l s H N st s' H' N'∧K s' H' N' (lg.reverse++st.map fun t=>(t.T,t.W))
 | [],gs,s,H,N,lg,_,_,h=>⟨[],s,H,N,⟨rfl,rfl,rfl,rfl⟩,by simpa [AfF] using h⟩
 | o::os,[],s,H,N,lg,_,hg,_=>by simp [Apv] at hg
 | o::os,none::gs,s,H,N,lg,hc,hg,h=>by
  simp only [Apv,Bool.and_eq_true] at hg
  have hgd : o.guard=none:=by
   cases hh : o.guard with
   | none=>rfl
   | some p=>simp [hh] at hg
  unfold AfF at h
  obtain ⟨x,H',N',T,W,h1,h2⟩:=AhF (hc o (by simp)) h
  obtain ⟨st,s'',H'',N'',k1,k2⟩:=AfB os gs _ _ _ _ (fun o ho=>hc o (by simp [ho])) hg.2 h2
  exact ⟨⟨true,x,H',T,W,N'⟩::st,s'',H'',N'',⟨_,_,rfl,by simp [AcM,hgd],fun _=>⟨h1.op,h1.rest⟩,fun h=>(by cases h),h1.n,h1.tn,h1.wn,k1⟩,by simpa using k2⟩
 | o::os,some (d,want)::gs,s,H,N,lg,hc,hg,h=>by
  simp only [Apv,Bool.and_eq_true] at hg
  obtain ⟨j,hgd,hd⟩ : ∃ j,o.guard=some (j,want)∧(ops[j]?).bind (·.dst)=some d:=by
   cases hh : o.guard with
   | none=>simp [hh] at hg
   | some p =>
    obtain ⟨j,w⟩:=p
    simp only [hh,Bool.and_eq_true,beq_iff_eq] at hg
    exact ⟨j,by rw [hg.1.2],hg.1.1⟩
  have hd' : (ops.toArray[j]?).bind (·.dst)=some d:=by simpa using hd
  have skipped : AcM ops.toArray o s false→AfF P mu os gs (Abx s o.dst .skip) H N (([],[])::lg) K→∃ st s' H' N',Tr P ops.toArray (o::os) s H N st s' H' N'∧K s' H' N' (lg.reverse++st.map fun t=>(t.T,t.W)):=by
   intro hs h
   obtain ⟨st,s'',H'',N'',k1,k2⟩:=AfB os gs _ _ _ _ (fun o ho=>hc o (by simp [ho])) hg.2 h
   exact ⟨⟨false,.skip,H,[],[],N⟩::st,s'',H'',N'',⟨_,_,rfl,hs,fun h=>(by cases h),fun _=>⟨rfl,rfl,rfl,rfl⟩,Nat.le_refl _,by simp,by simp,k1⟩,by simpa using k2⟩
  unfold AfF at h
  split at h
  ·rename_i b hb
   have same : ∀ v,b=v→upd s d (.bool v)=s:=by
    intro v hv
    funext t
    by_cases e : t=d
    ·subst e; rw [AbW,hb,hv]
    ·rw [AbQ _ _ e]
   by_cases hbw : b=want
   ·have h':=h.1 hbw
    rw [same want hbw] at h'
    obtain ⟨x,H',N',T,W,h1,h2⟩:=AhF (hc o (by simp)) h'
    obtain ⟨st,s'',H'',N'',k1,k2⟩:=AfB os gs _ _ _ _ (fun o ho=>hc o (by simp [ho])) hg.2 h2
    exact ⟨⟨true,x,H',T,W,N'⟩::st,s'',H'',N'',⟨_,_,rfl,by simp only [AcM,hgd]; exact ⟨d,hd',.inl ⟨b,hb,by simp [hbw]⟩⟩,fun _=>⟨h1.op,h1.rest⟩,fun h=>(by cases h),h1.n,h1.tn,h1.wn,k1⟩,by simpa using k2⟩
   ·have hbw' : b = !want:=Aox hbw
    have h':=h.2 hbw'
    rw [same _ hbw'] at h'
    refine skipped ?_ h'
    simp only [AcM,hgd]
    exact ⟨d,hd',.inl ⟨b,hb,by simp [hbw]⟩⟩
  ·rename_i hb
   refine skipped ?_ h
   simp only [AcM,hgd]
   exact ⟨d,hd',.inr (by simp [hb])⟩
  ·exact h.elim
def Aly (n : Nat) (ops : List Oper) (gs : List (Option (Nat×Bool))) : Bool :=
 Ags n ops&&AdQ ops&&Aiv ops&&ops.all Aap&&Apv ops ops gs
theorem St.draw {n : Nat} {c0 : Cx} {w0 : World} {a : Act} {w w' : World} (h : St n c0 w0 s H N a w) (e : w'.heap=w.heap) (h1 : w'.os=w.os) (h2 : w'.tape=w.tape) (h3 : w'.output=w.output) : St n c0 w0 s H N a w':=by
 obtain ⟨c,hr,hd,g,hu⟩:=h
 exact ⟨c,⟨hr.hr.world e,hr.size,hr.slot⟩,hd,g.trans (AeG.world e h1 h2 h3),hu⟩
theorem AW.region {n : Nat} {c0 : Cx} {w0 : World} {Q : Acl} {id : Nat} {ops : List Oper} {draw : Bool} (hm : P.follows .mixedOrders=true) (mu : List Nat) (gs : List (Option (Nat×Bool))) (hok : Aly n ops gs=true)
 (h : ∀ (G : Log→Prop) (K : (Nat→AV)→Aas→Nat→Prop),(∀ lg,(!draw||Ad1 ops lg)=true→G lg)→(∀ s' H' N',Q .normal s' H' N'→K s' H' N')→AfF P mu ops gs s H N [] (fun s' H' N' lg=>G lg∧K s' H' N')) :
 AW P n c0 w0 (.region id ops.toArray draw) Q s H N:=by
 simp only [Aly,Bool.and_eq_true] at hok
 obtain ⟨⟨⟨⟨h1,h2⟩,h3⟩,h4⟩,h5⟩:=hok
 obtain ⟨st,s',H',N',htr,hio,hq⟩:=AfB ops gs s H N [] (fun o ho=>List.all_eq_true.1 h4 o ho) h5 (h (fun lg=>(!draw||Ad1 ops lg)=true) (fun s' H' N'=>Q .normal s' H' N') (fun _ h=>h) (fun _ _ _ h=>h))
 simp only [List.reverse_nil,List.nil_append] at hio
 intro a w hst
 cases draw with
 | false =>
  obtain ⟨c,hr,hd,g,hu⟩:=hst
  refine wp_region_list (Aip ops s H N st s' H' N' (AgA h1) htr ?_ c a w hr hd g hu)
  intro c' a' w' hr' hd' g' hu'
  exact ⟨s',H',N',hq,c',hr',hd',g',hu'⟩
 | true =>
  simp only [Bool.not_true,Bool.false_or] at hio
  obtain ⟨c,hr,hd,g,hu⟩:=hst.draw (w' := { w with drawn:=w.drawn+1 }) rfl rfl rfl rfl
  refine wp_region_any hm ?_
  simp only [List.size_toArray]
  have hE : ∀ k,k<ops.length→Aav (Array.replicate ops.length false) k=false:=by
   intro k hk; simp [Aav,Array.getD,hk]
  have hcnt : ∀ m,m≤ops.length→cnt (Aav (Array.replicate ops.length false)) m=0:=by
   intro m
   induction m with
   | zero=>intro _; rfl
   | succ m ih=>intro hm; simp [cnt,ih (by omega),hE m (by omega)]
  obtain ⟨t1,t2,t3,t4,t5⟩:=AoU ops s H N st s' H' N' htr
  have hNN:=AgZ t1 t5 0 ops.length (by omega) (Nat.le_refl _)
  rw [t4] at hNN
  refine AnB h1 h2 h3 hio htr (c0:=c0) (w0:=w0) (df:=[]) ?_ ops.length _ c a _ (by simp) (by rw [hcnt _ (Nat.le_refl _)]; omega) ?_
  ·intro c' a' w' hr' hd' g' hu'
   exact ⟨s',H',N',hq,c',hr',hd',g',hu'⟩
  ·refine ⟨?_,hd,g,?_,fun i hi=>hu i (by simp only [stN] at hNN; omega),?_⟩
   ·have e1 : (fun t=>AfY (s t) (fun k=>(ops[k]?.bind (·.dst))==some t) (fun k=>(st[k]?.map (·.x)).getD .undef) (Aav (Array.replicate ops.length false)) ops.length)=s:=by
     funext t
     rw [AeE _ _ _ _ 0 ops.length (by omega) (fun k _ hk _=>hE k hk)]; rfl
    have e2 : (fun id=>AfY (H id) (fun k=>((st[k]?.map (·.W)).getD []).contains id) (fun k=>stH st H (k+1) id) (Aav (Array.replicate ops.length false)) ops.length)=H:=by
     funext t
     rw [AeE _ _ _ _ 0 ops.length (by omega) (fun k _ hk _=>hE k hk)]; rfl
    rw [e1,e2]; exact hr
   ·intro i t ht hi id k1 k2
    have hil : i<ops.length:=by have:=(List.getElem?_eq_some_iff.1 ht).1; omega
    have A:=(t5 i ops[i] t (by simp [hil]) ht).wn id k1
    have:=AgZ t1 t5 0 i (by omega) (by omega)
    simp only [stN] at this
    exact hu id (by have:=A.2 k2; omega)
   ·intro j o' hj hjE
    have hjl : j<ops.length:=(List.getElem?_eq_some_iff.1 hj).1
    rw [hE j hjl] at hjE; cases hjE
end
end Go.Abs
