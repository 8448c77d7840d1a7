import Derived.Test.YthiodjlppahmkaaGreatExtLay15
set_option linter.unusedVariables false
set_option linter.unusedSimpArgs false
namespace Go.Abs
open Go.RowKit (Below)
section
variable {P : Program} {o : Oper} {s : Nat→AV} {H : Aac} {N : Nat} {K : CK} {mu : List Nat}
def Aq9 (P : Program) (o : Oper) (s : Nat→AV) (H : Aac) (N : Nat) (K : CK) : Prop:=∃ x H' N' T W,Aao P o s H N x H' N' T W∧K x H' N' T W
theorem AbU {α : Type} {a : Array α} {l : List α} (h : a.toList=l) : a=l.toArray:=by cases a; simpa using h
theorem AlC (hc : AaY o=true) (m : Bool) (b : Builtin) (args : Array Operand) (ts : Array TypeId) (ho : o.op = .call { callee := .builtin b,args:=args,argTypes:=ts })
 (h : AiL P m b ts.toList (args.toList.map (ev s)) H N K) : Aq9 P o s H N K:=by
 generalize hx : args.toList.map (ev s)=xs at h
 generalize ht : ts.toList=tl at h
 have one : ∀ y,[y]=xs→∃ z,args = #[z]∧ev s z=y:=by
  intro y h; rw [← hx] at h
  cases ha : args.toList with
  | nil=>simp [ha] at h
  | cons z l =>
   cases l with
   | nil=>simp [ha] at h; exact ⟨z,AbU ha,h.symm⟩
   | cons=>simp [ha] at h
 have two : ∀ y y',[y,y']=xs→∃ z z',args = #[z,z']∧ev s z=y∧ev s z'=y':=by
  intro y y' h; rw [← hx] at h
  match ha : args.toList,h with
  | [z,z'],h=>simp at h; exact ⟨z,z',AbU ha,h.1.symm,h.2.symm⟩
  | [],h=>simp at h
  | [_],h=>simp at h
  | _::_::_::_,h=>simp at h
 unfold AiL at h
 split at h
 ·rename_i t nl fl ys
  obtain ⟨z,rfl,hz⟩:=one _ rfl
  have:=AbU ht; subst this
  obtain ⟨e,he⟩:=Aix h.1
  exact ⟨_,_,_,_,_,Apk hc t e z ho nl fl ys hz he,h.2⟩
 ·rename_i t b
  obtain ⟨z,rfl,hz⟩:=one _ rfl
  have:=AbU ht; subst this
  exact ⟨_,_,_,_,_,Apj hc t z ho b hz (Adp h.1),h.2⟩
 ·rename_i t id off es len full
  obtain ⟨z,rfl,hz⟩:=one _ rfl
  have:=AbU ht; subst this
  obtain ⟨e,he⟩:=Aix h.1
  obtain ⟨o',ho'⟩:=h.2.2.1
  exact ⟨_,_,_,_,_,Alf hc t e z ho id off es len full (by rw [hz]; rfl) h.2.1 o' ho' he,h.2.2.2⟩
 ·rename_i t id off es len full
  obtain ⟨z,rfl,hz⟩:=one _ rfl
  have:=AbU ht; subst this
  obtain ⟨e,he⟩:=Aix h.1
  obtain ⟨o',ho'⟩:=h.2.2.1
  exact ⟨_,_,_,_,_,Alf hc t e z ho id off es len full (by rw [hz]; rfl) h.2.1 o' ho' he,h.2.2.2⟩
 ·rename_i k a k' b
  obtain ⟨z,z',rfl,hz,hz'⟩:=two _ _ rfl
  obtain ⟨rfl,h⟩:=h
  exact ⟨_,_,_,_,_,AtG hc ts z z' ho k a b hz hz',h⟩
 ·rename_i k a k' b
  obtain ⟨z,z',rfl,hz,hz'⟩:=two _ _ rfl
  obtain ⟨rfl,h⟩:=h
  exact ⟨_,_,_,_,_,AtF hc ts z z' ho k a b hz hz',h⟩
 ·rename_i t t' nl fl ys z
  obtain ⟨y,z',rfl,hy,hz⟩:=two _ _ rfl
  have:=AbU ht; subst this
  obtain ⟨h2,h⟩:=h
  split at h
  ·rcases h with ⟨hfl,hnl,h⟩ | ⟨hnf,h⟩
   ·split at h
    ·rename_i e es by_ hE
     obtain ⟨h3,h4,h⟩:=h
     obtain ⟨zs,T,k1,k2,⟨k0,k3,k4,k5,k6,k7⟩,k8⟩:=Adv h
     refine ⟨_,_,_,_,_,Als hc t t' y z' ho nl fl ys hy hfl e es by_ hE h2 zs T ⟨by rw [hz]; exact k1,k3.1,k3.2,?_,k2⟩ h3 k0 h4.1 h4.2 k5 k6,k7⟩
     intro hs
     rw [hz] at hs
     obtain ⟨id,rfl⟩:=k8 hs
     exact List.all_eq_true.1 (k4 (by simp))
    ·exact h.elim
   split at h
   ·rename_i e es by_ hE
    obtain ⟨h3,h⟩:=h
    obtain ⟨zs,T,k1,k2,⟨k3,k4,k5,k6,k7⟩,k8⟩:=Adv h
    refine ⟨_,_,_,_,_,Alq hc t t' y z' ho nl fl ys hy hnf e es by_ hE h2 zs T ⟨by rw [hz]; exact k1,k3.1,k3.2,?_,k2⟩ h3 k5 k6,k7⟩
    intro hs
    rw [hz] at hs
    obtain ⟨id,rfl⟩:=k8 hs
    exact List.all_eq_true.1 (k4 (by simp))
   ·exact h.elim
  ·obtain ⟨h1,h⟩:=h
   split at h
   ·rename_i e es by_ hE
    obtain ⟨h3,h⟩:=h
    obtain ⟨zs,T,k1,k2,⟨k3,k4,k5,k6,k7⟩,k8⟩:=Adv h
    refine ⟨_,_,_,_,_,Alr hc t t' y z' ho nl fl ys hy h1 e es by_ hE h2 zs T ⟨by rw [hz]; exact k1,k3.1,k3.2,?_,k2⟩ h3.1 h3.2 k5 k6,k7⟩
    intro hs
    rw [hz] at hs
    obtain ⟨id,rfl⟩:=k8 hs
    exact List.all_eq_true.1 (k4 (by simp))
   ·exact h.elim
 ·rename_i t t' id off es len full z
  obtain ⟨y,z',rfl,hy,hz⟩:=two _ _ rfl
  have:=AbU ht; subst this
  obtain ⟨h0,h2,h⟩:=h
  split at h
  ·rename_i e es' by_ obj hE hob
   split at h
   ·rename_i cs hcs
    obtain ⟨rfl,h3,h4,h5,h6,h⟩:=h
    obtain ⟨zs,T,k1,k2,⟨k3,k4,k5,k6,k7⟩,k8⟩:=Adv h
    refine ⟨_,_,_,_,_,Alp hc t t' y z' ho id off es' len full hy h0 obj hob cs hcs h4 h5 e by_ hE h2 zs T ⟨by rw [hz]; exact k1,k3.1,k3.2,?_,k2⟩ (List.all_eq_true.1 h6) h3 k5 k6,k7⟩
    intro hs
    rw [hz] at hs
    obtain ⟨id,rfl⟩:=k8 hs
    exact List.all_eq_true.1 (k4 (by simp))
   ·exact h.elim
  ·exact h.elim
 ·rename_i t t' id off es len full z
  obtain ⟨y,z',rfl,hy,hz⟩:=two _ _ rfl
  have:=AbU ht; subst this
  obtain ⟨h0,h2,h⟩:=h
  split at h
  ·rename_i e es' by_ obj hE hob
   split at h
   ·rename_i cs hcs
    obtain ⟨rfl,h3,h4,h⟩:=h
    obtain ⟨zs,T,k1,k2,⟨k9,k3,k4,k7⟩,k8⟩:=Adv h
    refine ⟨_,_,_,_,_,Alo hc t t' y z' ho id off es' len full hy h0 obj hob cs hcs h3 h4 e by_ hE h2 zs T ⟨by rw [hz]; exact k1,k3.1,k3.2,?_,k2⟩ k9,k7⟩
    intro hs
    rw [hz] at hs
    obtain ⟨id,rfl⟩:=k8 hs
    exact List.all_eq_true.1 (k4 (by simp))
   ·exact h.elim
  ·exact h.elim
 ·rename_i t id off es len full
  obtain ⟨z,rfl,hz⟩:=one _ rfl
  have:=AbU ht; subst this
  split at h
  ·rename_i e es' by_ hE
   split at h
   ·rename_i x hx0
    obtain ⟨h0,obj,cs,e1,e2,h1,rfl,h2,h3,h4,h⟩:=Abm h
    exact ⟨_,_,_,_,_,Apm hc t z ho id off es' len full hz h0 obj e1 cs e2 h1 e by_ hE x hx0 h2 h3 h4,h⟩
   ·exact h.elim
  ·exact h.elim
 ·rename_i t t' id off es len full z
  obtain ⟨y,z',rfl,hy,hz⟩:=two _ _ rfl
  have:=AbU ht; subst this
  split at h
  ·rename_i e es' by_ hE
   obtain ⟨h0,obj,cs,e1,e2,h1,rfl,h2,h⟩:=Abm h
   obtain ⟨zs,T,k1,k2,⟨k3,k4,k5,k6⟩,k8⟩:=Adv h
   refine ⟨_,_,_,_,_,ArZ hc t t' y z' ho id off es' len full hy h0 obj e1 cs e2 h1 e by_ hE h2 zs T (by rw [hz]; exact k1) k2 k3.1 k3.2 ?_ k5,k6⟩
   rintro ⟨i1,i2,i3,i4,i5,hs⟩
   rw [hz] at hs; subst hs
   obtain ⟨id,rfl⟩:=k8 ⟨_,_,_,_,_,rfl⟩
   exact List.all_eq_true.1 (k4 (by simp))
  ·exact h.elim
 ·rename_i t t' id z
  obtain ⟨y,z',rfl,hy,hz⟩:=two _ _ rfl
  have:=AbU ht; subst this
  obtain ⟨h0,h⟩:=h
  split at h
  ·rename_i es kd zv e1 e2
   subst hz
   exact ⟨_,_,_,_,_,Aoj hc t t' y z' ho id hy h0 es e1 kd zv e2 h.1 h.2.1,h.2.2⟩
  ·exact h.elim
 ·exact h.elim
theorem Aqz (hc : AaY o=true) (h : aop P mu o s H N K) : Aq9 P o s H N K:=by
 unfold aop at h
 split at h
 ·rename_i y ho; exact ⟨_,_,_,_,_,Anu hc y (.inl ho),h⟩
 ·rename_i y ho; exact ⟨_,_,_,_,_,Anu hc y (.inr ho),h⟩
 ·rename_i t x y ho
  split at h
  ·rename_i b hb; exact ⟨_,_,_,_,_,ArX hc t x y ho b hb,h⟩
  ·exact h.elim
 ·rename_i op xt x y yt ho
  split at h
  ·rename_i r hr; exact ⟨_,_,_,_,_,AtJ hc op xt yt x y ho r hr h.1,h.2⟩
  ·exact h.elim
 ·rename_i op xt x ho
  split at h
  ·rename_i r hr; exact ⟨_,_,_,_,_,AvI hc op xt x ho r hr,h⟩
  ·exact h.elim
 ·rename_i t y ho
  split at h
  ·rename_i cs hy
   split at h
   ·rename_i x hx; exact ⟨_,_,_,_,_,Aoi hc t y ho cs hy x hx,h⟩
   ·exact h.elim
  ·rename_i id off hy
   obtain ⟨hid,obj,cs,hob,hcs,h⟩:=Abm h
   split at h
   ·rename_i x hx; exact ⟨_,_,_,_,_,Aoh hc t y ho id off hy hid obj hob cs hcs x hx,h⟩
   ·exact h.elim
  ·exact h.elim
 ·rename_i t y z ho
  split at h
  ·rename_i id off hy
   obtain ⟨hid,obj,cs,hob,hcs,h0,h1,h2,h⟩:=Abm h
   exact ⟨_,_,_,_,_,Apg hc t y z ho id off hy hid obj hob cs hcs h1 h2 h0,h⟩
  ·exact h.elim
 ·rename_i t y ho; exact ⟨_,_,_,_,_,AtI hc t y ho h.1,h.2⟩
 ·rename_i t ho
  split at h
  ·rename_i z hz; exact ⟨_,_,_,_,_,Apq t ho z hz,h⟩
  ·exact h.elim
 ·rename_i t y f ho
  split at h
  ·rename_i d hd
   split at h
   ·rename_i cs hy; exact ⟨_,_,_,_,_,Am7 hc t y f ho cs hy d hd,h⟩
   ·rename_i id off hy
    obtain ⟨hid,obj,cs,hob,hcs,h0,h⟩:=Abm h
    exact ⟨_,_,_,_,_,Am6 hc t y f ho id off hy hid obj hob (AcW hcs h0) d hd,h⟩
   ·exact h.elim
  ·exact h.elim
 ·rename_i y ho
  split at h
  ·rename_i cs hy; exact ⟨_,_,_,_,_,AjX hc y ho cs hy,h⟩
  ·rename_i f cs hy; exact ⟨_,_,_,_,_,AjW hc y ho f cs hy,h⟩
  ·rename_i id off hy
   obtain ⟨hid,obj,cs,hob,hcs,h0,h⟩:=Abm h
   exact ⟨_,_,_,_,_,AjV hc y ho id off hy hid obj hob (AcW hcs h0),h⟩
  ·exact h.elim
 ·rename_i t y z ho
  unfold Ax4 at h
  split at h
  ·rename_i k i hz
   split at h
   ·rename_i nl fl xs hy
    split at h
    ·rename_i e es by_ hE
     obtain ⟨h0,h1,h2,h3,h⟩:=h
     exact ⟨_,_,_,_,_,Am3 hc t y z ho nl fl xs hy k i hz e es by_ hE h0 h1 _ (by simp [h1]) h2 h3,h⟩
    ·exact h.elim
   ·rename_i id off es len full hy
    split at h
    ·rename_i e es' by_ hE
     obtain ⟨hid,obj,cs,hob,hcs,h0,rfl,h1,h2,h⟩:=Abm h
     exact ⟨_,_,_,_,_,Am2 hc t y z ho id off _ len full hy hid obj hob (AcW hcs h0) k i hz e by_ hE h1 h2,h⟩
    ·exact h.elim
   ·rename_i cs hy
    split at h
    ·rename_i m es hE; exact ⟨_,_,_,_,_,Alh hc t y z ho cs hy k i hz m es hE h.1 h.2.1,h.2.2⟩
    ·exact h.elim
   ·rename_i id off hy
    split at h
    ·rename_i m es hE
     obtain ⟨hid,obj,cs,hob,hcs,h0,h1,h2,h⟩:=Abm h
     exact ⟨_,_,_,_,_,Alg hc t y z ho id off hy hid obj hob (AcW hcs h0) k i hz m es hE h1 h2,h⟩
    ·exact h.elim
   ·exact h.elim
  ·exact h.elim
 ·rename_i t y z ho
  split at h
  ·rename_i b k i hy hz
   exact ⟨_,_,_,_,_,Am4 hc t y z ho b hy k i hz (Adp h.1) h.2.1 h.2.2.1,h.2.2.2⟩
  ·rename_i xs k i hy hz
   split at h
   ·rename_i m kk hE
    obtain ⟨e,hu,ha,hs⟩:=AsF hE
    exact ⟨_,_,_,_,_,Am5 hc t y z ho xs hy k i hz m e hu ha hs h.1 h.2.1 _ (by rw [List.getElem?_eq_getElem h.2.2.1]; rfl),h.2.2.2⟩
   ·exact h.elim
  ·exact h.elim
 ·rename_i y i ho
  split at h
  ·rename_i xs hy
   split at h
   ·rename_i x hx; exact ⟨_,_,_,_,_,Am8 hc y i ho xs hy x hx,h⟩
   ·exact h.elim
  ·exact h.elim
 ·rename_i f first caps ho
  have : first = #[]:=Array.size_eq_zero_iff.1 h.1
  subst this
  exact ⟨_,_,_,_,_,Ale hc f caps ho,h.2⟩
 ·rename_i t y l hh m ho
  split at h
  ·rename_i nl fl xs hy
   split at h
   ·rename_i e es by_ hE
    obtain ⟨h0,h⟩:=h
    obtain ⟨lo,hlo,h⟩:=Aeg h
    obtain ⟨hi,hhi,hm,h1,h2,h⟩:=Aeg h
    exact ⟨_,_,_,_,_,Am0 hc t y l hh m ho nl fl xs hy e es by_ hE h0.1 lo hi hlo hhi hm h1 h2,h⟩
   ·exact h.elim
  ·rename_i b hy
   obtain ⟨h0,rfl,h⟩:=h
   obtain ⟨lo,hlo,h⟩:=Aeg h
   obtain ⟨hi,hhi,h1,h2,h⟩:=Aeg h
   exact ⟨_,_,_,_,_,Amz hc t y l hh ho b hy (Adp h0) lo hi hlo hhi h1 h2,h⟩
  ·rename_i id off es len full hy
   split at h
   ·rename_i e es' by_ hE
    obtain ⟨hid,obj,cs,hob,hcs,h0,rfl,h⟩:=Abm h
    obtain ⟨lo,hlo,h⟩:=Aeg h
    obtain ⟨hi,hhi,hm,h1,h2,h⟩:=Aeg h
    exact ⟨_,_,_,_,_,Aih hc t y l hh m ho id off _ len full (by rw [hy]; rfl) hid obj hob (AcW hcs h0) e by_ hE lo hi hlo hhi hm h1 h2,h⟩
   ·exact h.elim
  ·rename_i id off es len full hy
   split at h
   ·rename_i e es' by_ hE
    obtain ⟨hid,obj,cs,hob,hcs,h0,rfl,h⟩:=Abm h
    obtain ⟨lo,hlo,h⟩:=Aeg h
    obtain ⟨hi,hhi,hm,h1,h2,h⟩:=Aeg h
    exact ⟨_,_,_,_,_,Aih hc t y l hh m ho id off _ len full (by rw [hy]; rfl) hid obj hob (AcW hcs h0) e by_ hE lo hi hlo hhi hm h1 h2,h⟩
   ·exact h.elim
  ·exact h.elim
 ·rename_i t n parts ho
  split at h
  ·rename_i e es by_ hE
   obtain ⟨h1,h2,h3,h4,h5,h⟩:=h
   split at h
   ·exact ⟨_,_,_,_,_,Ah2 hc t n parts ho e es by_ hE h1 h2 h3.1 h3.2 h4 h5,h⟩
   ·exact ⟨_,_,_,_,_,Ah3 hc t n parts ho e es by_ hE h1 h2 h3.1 h3.2 h4 h5,h⟩
  ·exact h.elim
 ·rename_i t y z ho
  split at h
  ·rename_i e es by_ hE
   split at h
   ·rename_i k m k' m' x hy hz hx
    obtain ⟨rfl,h0,h1,h2,h⟩:=h
    split at h
    ·exact ⟨_,_,_,_,_,Aii hc t y z ho e es by_ hE k k' _ hy hz h0 h1 h2 x hx,h⟩
    ·exact ⟨_,_,_,_,_,Aij hc t y z ho e es by_ hE k k' _ hy hz h0 h1 h2 x hx,h⟩
   ·exact h.elim
  ·exact h.elim
 ·rename_i t parts ho
  obtain ⟨h0,h⟩:=h
  split at h
  ·rename_i cs hb; exact ⟨_,_,_,_,_,Apo hc t parts ho h0 cs hb,h⟩
  ·exact h.elim
 ·rename_i src dst y ho
  split at h
  ·rename_i k n hy
   obtain ⟨h0,h⟩:=h
   split at h
   ·rename_i k' hk; exact ⟨_,_,_,_,_,Alk hc src dst y ho k k' n hy h0 (Aos hk),h⟩
   ·exact h.elim
  ·rename_i b hy
   obtain ⟨h0,h1,h2,h⟩:=h
   obtain ⟨e,he,he2⟩:=Ag9 h1
   split at h2
   ·rename_i e' es by_ hE
    subst h2
    obtain ⟨i,hu,_⟩:=Aa9 hE
    rw [he] at hu
    simp only [Option.some.injEq,Go.TypeDesc.slice.injEq] at hu
    subst hu
    split at h
    ·exact ⟨_,_,_,_,_,Akn hc src dst e by_ y ho (Adp h0) hE he2 b hy,h⟩
    ·exact ⟨_,_,_,_,_,Alm hc src dst e by_ y ho (Adp h0) hE he2 b hy,h⟩
   ·exact h2.elim
  ·rename_i id off es len full hy
   rcases h with ⟨rfl,rfl,h1,h⟩ | ⟨h0,h1,h⟩
   ·obtain ⟨e,he,he2⟩:=Ag9 h1
    obtain ⟨hid,obj,cs,hob,hcs,hne,h⟩:=Abm h
    exact ⟨_,_,_,_,_,Alj hc src e y ho he he2 id off len full hy hid obj hob (AcW hcs hne) cs hcs,h⟩
   ·obtain ⟨e,he,he2⟩:=Ag9 h0
    obtain ⟨ys,T,k1,k2,⟨k3,k4⟩,k5⟩:=Adv h
    exact ⟨_,_,_,_,_,Ajn hc src dst e y ho he he2 (Adp h1) ys T (by rw [hy]; exact k1) (fun b hb=>by rw [hy] at hb; cases hb) k3 k2,k4⟩
  ·rename_i hn1 hn2 hn3
   obtain ⟨h0,h1,h⟩:=h
   obtain ⟨e,he,he2⟩:=Ag9 h0
   obtain ⟨ys,T,k1,k2,⟨k3,k4⟩,k5⟩:=Adv h
   exact ⟨_,_,_,_,_,Ajn hc src dst e y ho he he2 (Adp h1) ys T k1 (fun b hb=>hn2 b hb) k3 k2,k4⟩
 ·rename_i t y f ho
  split at h
  ·rename_i cs hy
   split at h
   ·rename_i x hx; exact ⟨_,_,_,_,_,Apl hc t y f ho cs hy x hx,h⟩
   ·exact h.elim
  ·exact h.elim
 ·rename_i t ho; exact ⟨_,_,_,_,_,Am1 t ho,h⟩
 ·rename_i t y ho
  split at h
  ·rename_i b hy; exact ⟨_,_,_,_,_,Aph hc t y ho b hy (Adp h.1),h.2⟩
  ·exact h.elim
 ·rename_i y ho
  split at h
  ·rename_i id hy
   obtain ⟨hid,h⟩:=h
   split at h
   ·rename_i b p hob
    split at h
    ·rename_i hp; exact ⟨_,_,_,_,_,ArY hc y ho id hy hid b p hob hp h.1,h.2⟩
    ·rename_i hp; exact ⟨_,_,_,_,_,Ald hc y ho id hy hid b p hob hp,h⟩
   ·exact h.elim
  ·exact h.elim
 ·rename_i t y z ok ho
  split at h
  ·rename_i id hy
   obtain ⟨hid,h⟩:=h
   split at h
   ·rename_i es kd zv hob ht
    refine ⟨_,_,_,_,_,Aog hc t y z ok ho id hy hid es hob kd zv ht h.1 h.2.1,?_⟩
    have h:=h.2.2
    cases ok
    ·simpa [Ajq] using h
    ·simpa [Ajq] using h
   ·exact h.elim
  ·exact h.elim
 ·rename_i t y z v ho
  split at h
  ·rename_i id hy
   obtain ⟨hid,h⟩:=h
   split at h
   ·rename_i es kd zv hob ht
    exact ⟨_,_,_,_,_,Ag2 hc t y z v (.inl ho) id hy hid es hob kd zv ht h.1 h.2.1,h.2.2⟩
   ·exact h.elim
  ·exact h.elim
 ·rename_i t y z v ho
  split at h
  ·rename_i id hy
   obtain ⟨hid,h⟩:=h
   split at h
   ·rename_i es kd zv hob ht
    exact ⟨_,_,_,_,_,Ag2 hc t y z v (.inr ho) id hy hid es hob kd zv ht h.1 h.2.1,h.2.2⟩
   ·exact h.elim
  ·exact h.elim
 ·rename_i c ho
  split at h
  ·rename_i b hb
   exact AlC hc _ b c.args c.argTypes (by rw [ho]; cases c; simp_all) h
  ·rename_i g hg
   split at h
   ·rename_i f caps hf
    obtain ⟨x,H',N',T,W,h1,h2⟩:=h
    exact ⟨x,H',N',T,W,h1 o s g c.args c.argTypes caps hc (by rw [ho]; cases c; simp_all) hf rfl,h2⟩
   ·exact h.elim
  ·exact h.elim
 ·exact h.elim
def oCs (o : Option AaZ) : Option (AaZ×List AV):=o.bind fun o=>o.cs?.map fun cs=>(o,cs)
@[simp] theorem AvQ (cs : List AV) : oCs (some (.cells cs))=some (.cells cs,cs):=rfl
@[simp] theorem Awb (cs : List AV) : oCs (some (.grow cs))=some (.grow cs,cs):=rfl
theorem AcQ {H : Aac} {N id : Nat} {o : AaZ} {cs : List AV} (h : oCs (H id)=some (o,cs)) {k : AaZ→List AV→Prop} (hN : id<N) (hk : k o cs) : Aev H N id k:=by
 unfold oCs at h
 cases hh : H id with
 | none=>simp [hh] at h
 | some o' =>
  simp only [hh,Option.bind_some,Option.map_eq_some_iff,Prod.mk.injEq] at h
  obtain ⟨cs',h1,rfl,rfl⟩:=h
  refine ⟨hN,?_⟩
  simp only [hh,h1]; exact hk
def Ar9 (K : CK) (H : Aac) (N : Nat) (x y : AV) : AV→Prop
 | .bool b=>K (Akk b x y) H N [] []
 | _=>False
def Ao9 (K : CK) (H : Aac) (N : Nat) (T : List Nat) : Option AV→Prop
 | some r=>K r H N T []
 | none=>False
def Aqp (P : Program) (t : TypeId) (K : CK) (H : Aac) (N id off : Nat) : Option (AaZ×List AV)→Prop
 | some (_,cs)=>id<N∧Ao9 K H N [id] (AeL P t (cs.drop off))
 | none=>False
def Aqq (P : Program) (t : TypeId) (K : CK) (H : Aac) (N : Nat) : AV→Prop
 | .cptr cs=>Ao9 K H N [] (AeL P t cs)
 | .ptr id off=>Aqp P t K H N id off (oCs (H id))
 | _=>False
def AnS (P : Program) (t : TypeId) (z : AV) (K : CK) (H : Aac) (N id off : Nat) : Option (AaZ×List AV)→Prop
 | some (obj,cs)=>id<N∧cs≠[]∧z.fits P t=true∧off+z.cells.length≤cs.length∧K .skip (upd H id (some (obj.with (setR cs off z.cells)))) N [id] [id]
 | none=>False
def Amb (P : Program) (t : TypeId) (z : AV) (K : CK) (H : Aac) (N : Nat) : AV→Prop
 | .ptr id off=>AnS P t z K H N id off (oCs (H id))
 | _=>False
def AoO (K : CK) (H : Aac) (N : Nat) : Option (List AV)→Prop
 | some z=>K (.ptr N 0) (upd H N (some (.cells z))) (N+1) [] [N]
 | none=>False
def AgY (x : AV) (K : CK) (H : Aac) (N id : Nat) : Option (AaZ×List AV)→Prop
 | some (_,cs)=>id<N∧cs≠[]∧K x H N [id] []
 | none=>False
def AoL (K : CK) (H : Aac) (N : Nat) : Option Nat→AV→Prop
 | some d,.cptr cs=>K (.cptr (cs.drop d)) H N [] []
 | some d,.ptr id off=>AgY (.ptr id (off+d)) K H N id (oCs (H id))
 | _,_=>False
def Aws (K : CK) (H : Aac) (N : Nat) : AV→Prop
 | .cptr cs=>K (.cptr cs) H N [] []
 | .fn f cs=>K (.fn f cs) H N [] []
 | .ptr id off=>AgY (.ptr id off) K H N id (oCs (H id))
 | _=>False
def Awu (P : Program) (t : TypeId) (K : CK) (H : Aac) (N : Nat) : AV→AV→Option (TypeId×Nat×Nat)→Option (Nat×Nat)→Prop
 | .lst _ _ xs,.int _ i,some (_,es,_),_=>0≤i∧i.toNat<xs.length∧((xs[i.toNat]?).getD .undef).okc=true∧((xs[i.toNat]?).getD .undef).cells.length=es∧K (.cptr ((xs[i.toNat]?).getD .undef).cells) H N [] []
 | .slc id off es len _,.int _ i,some (_,es',_),_=>es'=es∧0≤i∧i.toNat<len∧AgY (.ptr id (off+i.toNat*es)) K H N id (oCs (H id))
 | .cptr cs,.int _ i,_,some (m,es)=>0≤i∧i<m∧K (.cptr (cs.drop (i.toNat*es))) H N [] []
 | .ptr id off,.int _ i,_,some (m,es)=>0≤i∧i<m∧AgY (.ptr id (off+i.toNat*es)) K H N id (oCs (H id))
 | _,_,_,_=>False
def AoK (P : Program) (t : TypeId) (K : CK) (H : Aac) (N : Nat) : AV→AV→Option (Nat×Abe)→Prop
 | .str b,.int _ i,_=>Aiw P t=true∧0≤i∧i.toNat<b.size∧K (.int .u8 (b.data.toList.getD i.toNat 0).toNat) H N [] []
 | .agg xs,.int _ i,some (m,_)=>0≤i∧i<m∧i.toNat<xs.length∧K ((xs[i.toNat]?).getD .undef) H N [] []
 | _,_,_=>False
def AiJ (i : Nat) (K : CK) (H : Aac) (N : Nat) : AV→Prop
 | .tup xs=>Ao9 K H N [] xs[i]?
 | _=>False
def Aqh (s : Nat→AV) : Option Operand→Prop
 | none=>True
 | some y=>match ev s y with
  | .int _ n=>0≤n
  | _=>False
def AfJ (s : Nat→AV) (d : Nat) : Option Operand→Nat
 | none=>d
 | some y=>match ev s y with
  | .int _ n=>n.toNat
  | _=>0
theorem Aht {s : Nat→AV} {d : Nat} {x : Option Operand} {k : Nat→Prop} (h : Aqh s x) (hk : k (AfJ s d x)) : bnd s d x k:=by
 unfold Aqh at h; unfold AfJ at hk; unfold bnd
 cases x with
 | none=>exact hk
 | some y =>
  simp only [] at h hk ⊢
  split at h
  ·rename_i hy; simp only [hy] at hk ⊢; exact ⟨h,hk⟩
  ·exact h.elim
def Ao5 (s : Nat→AV) (l h m : Option Operand) (K : CK) (H : Aac) (N id off es len : Nat) (full : Bool) : Option (AaZ×List AV)→Prop
 | some (_,cs)=>id<N∧cs≠[]∧Aqh s l∧Aqh s h∧(m=none∨(h.isSome=true∧AcE s 0 m=some (AfJ s len h)))∧AfJ s 0 l≤AfJ s len h∧AfJ s len h≤len ∧
  K (.slc id (off+AfJ s 0 l*es) es (AfJ s len h-AfJ s 0 l) (m.isSome||(full&&h.isNone))) H N [id] []
 | none=>False
def AoI (P : Program) (t : TypeId) (s : Nat→AV) (l h m : Option Operand) (K : CK) (H : Aac) (N : Nat) : AV→Option (TypeId×Nat×Nat)→Prop
 | .lst nl fl xs,some (_,es,_)=>okEls es xs∧Aqh s l∧Aqh s h∧(m=none∨(h.isSome=true∧AcE s 0 m=some (AfJ s xs.length h)))∧AfJ s 0 l≤AfJ s xs.length h∧AfJ s xs.length h≤xs.length ∧
  K (.lst nl (m.isSome||(fl&&h.isNone)) ((xs.take (AfJ s xs.length h)).drop (AfJ s 0 l))) H N [] []
 | .str b,_=>Aiw P t=true∧m=none∧Aqh s l∧Aqh s h∧AfJ s 0 l≤AfJ s b.size h∧AfJ s b.size h≤b.size∧K (.str (b.extract (AfJ s 0 l) (AfJ s b.size h))) H N [] []
 | .slc id off es len full,some (_,es',_)=>es'=es∧Ao5 s l h m K H N id off es len full (oCs (H id))
 | .rm (.slc id off es len full),some (_,es',_)=>es'=es∧Ao5 s l h m K H N id off es len full (oCs (H id))
 | _,_=>False
def Ao6 (K : CK) (H : Aac) (N : Nat) (x : AV) (y : List AV) (o : AaZ) : Bool→Prop
 | true=>K x (upd H N (some o)) (N+1) [] [N]
 | false=>K (.lst false true y) H N [] []
def Awt (s : Nat→AV) (n : Nat) (parts : List (Nat×Operand)) (mu : Bool) (K : CK) (H : Aac) (N : Nat) : Option (TypeId×Nat×Nat)→Prop
 | some (_,es,_)=>AgV 0 parts=true∧parts.length=n∧okEls es (parts.map fun p=>ev s p.2)∧n*es≤16777216∧0<es ∧
  Ao6 K H N (.slc N 0 es n true) (parts.map fun p=>ev s p.2) (.cells (AaI (parts.map fun p=>ev s p.2))) mu
 | none=>False
def AoJ (P : Program) (mu : Bool) (K : CK) (H : Aac) (N : Nat) : AV→AV→Option (TypeId×Nat×Nat)→Prop
 | .int _ m,.int _ m',some (e,es,by_)=>m'=m∧0≤m∧by_*m.toNat≤281474976710656∧m.toNat≤maxLen∧(AbD P e).isSome=true ∧
  Ao6 K H N (.slc N 0 es m.toNat true) (List.replicate m.toNat ((AbD P e).getD .undef)) (.cells (AaI (List.replicate m.toNat ((AbD P e).getD .undef)))) mu
 | _,_,_=>False
def AoN (K : CK) (H : Aac) (N : Nat) : Option (List AV)→Prop
 | some cs=>K (.agg cs) H N [] []
 | none=>False
def AoM (n : Int) (K : CK) (H : Aac) (N : Nat) : Option IntKind→Prop
 | some k'=>K (.int k' (k'.wrap n)) H N [] []
 | none=>False
def Av4 : Option (TypeId×Nat×Nat)→Prop
 | some (_,es,_)=>es=1
 | none=>False
def Au2 (n : Nat) : Option (AaZ×List AV)→Prop
 | some (_,cs)=>n≤cs.length
 | none=>False
theorem AlO {n : Nat} {x : Option (AaZ×List AV)} (h : Au2 n x) : ∃ o cs,x=some (o,cs)∧n≤cs.length:=by
 unfold Au2 at h; split at h
 ·exact ⟨_,_,rfl,h⟩
 ·exact h.elim
def Amr (H : Aac) (N : Nat) : AV→Prop
 | .lst _ _ _ | .str _=>True
 | .slc id off es len _=>es=1∧id<N∧Au2 (off+len) (oCs (H id))
 | _=>False
def Af0 : AV→List Nat
 | .slc id _ _ _ _=>[id]
 | _=>[]
def Acm (H : Aac) : AV→List AV
 | .lst _ _ ys=>ys
 | .str b=>bytes b.data.toList
 | .slc id off _ len _=>(((oCs (H id)).map (·.2)).getD []).drop off |>.take len
 | _=>[]
theorem Afx {H : Aac} {N : Nat} {X : AV} {k : List AV→List Nat→Prop} (h : Amr H N X) (hk : k (Acm H X) (Af0 X)) : ApA H N X k:=by
 unfold Amr at h
 split at h
 ·exact hk
 ·exact hk
 ·rename_i id off es len f
  obtain ⟨rfl,h1,hq⟩:=h
  obtain ⟨o,cs,h2,h3⟩:=AlO hq
  simp only [Acm,h2,Option.map_some,Option.getD_some,Af0] at hk
  unfold oCs at h2
  cases hh : H id with
  | none=>simp [hh] at h2
  | some o' =>
   simp only [hh,Option.bind_some,Option.map_eq_some_iff,Prod.mk.injEq] at h2
   obtain ⟨cs',q1,rfl,rfl⟩:=h2
   simp only [ApA,hh,q1]
   exact ⟨trivial,h1,h3,hk⟩
 ·exact h.elim
def Aqr (K : CK) (H : Aac) (N : Nat) (b : ByteArray) : Bool→Prop
 | true=>K (.slc N 0 1 b.size false) (upd H N (some (.cells (bytes b.data.toList)))) (N+1) [] [N]
 | false=>K (.lst false false (bytes b.data.toList)) H N [] []
def Aqt (P : Program) (src : TypeId) (K : CK) (H : Aac) (N id off es len : Nat) (full : Bool) : Option (AaZ×List AV)→Prop
 | some (obj,cs)=>id<N∧cs≠[]∧es=1∧An4 P src=true∧K (.slc id off es len full) (upd H id (some obj)) N [id] [id]
 | none=>False
def Aqs (P : Program) (src dst : TypeId) (K : CK) (H : Aac) (N id off es len : Nat) (full : Bool) : Bool→Prop
 | true=>src=dst∧Aqt P src K H N id off es len full (oCs (H id))
 | false=>An4 P src=true∧Aiw P dst=true∧Amr H N (.slc id off es len full)∧AeP (Acm H (.slc id off es len full))=true∧K (.str (sOf (Acm H (.slc id off es len full)))) H N (Af0 (.slc id off es len full)) []
def Aqu (P : Program) (mu : Bool) (src dst : TypeId) (K : CK) (H : Aac) (N : Nat) : AV→Prop
 | .int _ n=>(P.underlying src).isSome=true∧AoM n K H N (Aiy P dst)
 | .str b=>Aiw P src=true∧An4 P dst=true∧Av4 (Aap P dst)∧Aqr K H N b mu
 | .slc id off es len full=>Aqs P src dst K H N id off es len full (decide (src=dst))
 | X=>An4 P src=true∧Aiw P dst=true∧Amr H N X∧AeP (Acm H X)=true∧K (.str (sOf (Acm H X))) H N (Af0 X) []
def Axy (K : CK) (H : Aac) (N : Nat) (nl : Bool) (ys : List AV) (z : AV) : Option (TypeId×Nat×Nat)→Prop
 | some (_,es,by_)=>okEls es ys∧Amr H N z∧okEls es (Acm H z)∧(Af0 z≠[]→(Acm H z).all AV.one=true)∧ys.length+(Acm H z).length≤maxLen∧(ys.length+(Acm H z).length)*by_≤140737488355328 ∧
  K (.lst (nl&&(Acm H z).isEmpty) false (ys++Acm H z)) H N (Af0 z) []
 | none=>False
def AsB (K : CK) (H : Aac) (N id off es len : Nat) (z : AV) : Option (TypeId×Nat×Nat)→Option (AaZ×List AV)→Prop
 | some (_,es',by_),some (obj,cs)=>id<N∧es'=es∧0<es∧off+len*es=cs.length∧(off=0∨∃ x,obj = .cells x)∧cs.all AV.one=true∧Amr H N z∧okEls es (Acm H z)∧(Af0 z≠[]→(Acm H z).all AV.one=true) ∧
  len+(Acm H z).length≤maxLen∧(len+(Acm H z).length)*by_≤140737488355328 ∧
  K (.slc N 0 es (len+(Acm H z).length) false) (upd (upd H id none) N (some (obj.with (cs.drop off++AaI (Acm H z))))) (N+1) (id::Af0 z) [id,N]
 | _,_=>False
def AuB (K : CK) (H : Aac) (N id off es len : Nat) (z : AV) : Option (TypeId×Nat×Nat)→Option (AaZ×List AV)→Prop
 | some (_,es',_),some (obj,cs)=>id<N∧es'=es∧cs≠[]∧off+len*es=cs.length∧Amr H N z∧(Acm H z).length=1∧okEls es (Acm H z)∧(Af0 z≠[]→(Acm H z).all AV.one=true) ∧
  K (.slc id off es (len+(Acm H z).length) false) (upd H id (some (obj.with (cs++AaI (Acm H z))))) N (id::Af0 z) [id]
 | _,_=>False
def AsC (K : CK) (H : Aac) (N : Nat) (z : AV) : Option (TypeId×Nat×Nat)→Prop
 | some (_,es,by_)=>0<es∧Amr H N z∧okEls es (Acm H z)∧(Af0 z≠[]→(Acm H z).all AV.one=true)∧(Acm H z).length≤maxLen∧(Acm H z).length*by_≤140737488355328 ∧
  K (.slc N 0 es (Acm H z).length false) (upd H N (some (.grow (AaI (Acm H z))))) (N+1) (Af0 z) [N]
 | none=>False
def AsE (K : CK) (H : Aac) (N : Nat) (ys : List AV) (z : AV) : Option (TypeId×Nat×Nat)→Prop
 | some (_,es,by_)=>0<es∧okEls es ys∧Amr H N z∧Acm H z≠[]∧okEls es (Acm H z)∧(Af0 z≠[]→(Acm H z).all AV.one=true)∧ys.length+(Acm H z).length≤maxLen∧(ys.length+(Acm H z).length)*by_≤140737488355328 ∧
  K (.slc N 0 es (ys.length+(Acm H z).length) false) (upd H N (some (.grow (AaI (ys++Acm H z))))) (N+1) (Af0 z) [N]
 | none=>False
def AuX (mu : List Nat) (d : Option Nat) : Bool:=match d with | some d=>mu.contains (d+1000000) | none=>false
def AuC (K : CK) (H : Aac) (N : Nat) (nl fl : Bool) (ys : List AV) (z : AV) (e : Option (TypeId×Nat×Nat)) : Bool→Prop
 | true=>fl=true∧nl=false∧AsE K H N ys z e
 | false=>(nl=true∨(fl=true∧ys = []))∧AsC K H N z e
def AsD (mf : Bool) (K : CK) (H : Aac) (N : Nat) (nl fl : Bool) (ys : List AV) (z : AV) (e : Option (TypeId×Nat×Nat)) : Bool→Prop
 | true=>AuC K H N nl fl ys z e mf
 | false=>(fl=true∨nl=true)∧Axy K H N nl ys z e
def oMp : Option AaZ→Option (List (AV×AV))
 | some (.mp es)=>some es
 | _=>none
@[simp] theorem AyB (es : List (AV×AV)) : oMp (some (.mp es))=some es:=rfl
theorem Ag5 {o : Option AaZ} {es : List (AV×AV)} (h : oMp o=some es) : o=some (.mp es):=by
 unfold oMp at h; split at h
 ·simp only [Option.some.injEq] at h; rw [h]
 ·cases h
def AuA (K : CK) (H : Aac) (N id off es len : Nat) (obj : AaZ) (cs : List AV) : Option AV→Prop
 | some x=>cs≠[]∧off+len*es≤cs.length∧x.cells.length=es∧x.cells.all AV.one=true∧K (.tup []) (upd H id (some (obj.with (setR cs off (AaI (List.replicate len x)))))) N [id] [id]
 | none=>False
def Axx (P : Program) (K : CK) (H : Aac) (N id off es len : Nat) : Option (TypeId×Nat×Nat)→Option (AaZ×List AV)→Prop
 | some (e,es',_),some (obj,cs)=>id<N∧es'=es∧AuA K H N id off es len obj cs (AbD P e)
 | _,_=>False
def Awv (K : CK) (H : Aac) (N id off es len : Nat) (z : AV) : Option (TypeId×Nat×Nat)→Option (AaZ×List AV)→Prop
 | some (_,es',_),some (obj,cs)=>id<N∧es'=es∧cs≠[]∧off+len*es≤cs.length∧Amr H N z∧okEls es (Acm H z)∧(Af0 z≠[]→(Acm H z).all AV.one=true)∧(Acm H z).length≤len ∧
  K (.int .i64 (Acm H z).length) (upd H id (some (obj.with (setR cs off (AaI (Acm H z)))))) N (id::Af0 z) [id]
 | _,_=>False
def Axw (K : CK) (H : Aac) (N id : Nat) (z : AV) : Option (List (AV×AV))→Option (Abe×AV)→Prop
 | some es,some (kd,_)=>id<N∧kd.has z=true∧(es.all fun p=>kd.has p.1)=true∧K (.tup []) (upd H id (some (.mp (Akq es z)))) N [id] [id]
 | _,_=>False
def AiK (P : Program) (mu mf : Bool) (K : CK) (H : Aac) (N : Nat) : Builtin→List TypeId→List AV→Prop
 | .len,[t],[.lst _ _ ys]=>Aja P t=true∧K (.int .i64 ys.length) H N [] []
 | .len,[t],[.str b]=>Aiw P t=true∧K (.int .i64 b.size) H N [] []
 | .len,[t],[.slc id _ _ len _]=>Aja P t=true∧id<N∧(∃ o,H id=some o)∧K (.int .i64 len) H N [id] []
 | .len,[t],[.rm (.slc id _ _ len _)]=>Aja P t=true∧id<N∧(∃ o,H id=some o)∧K (.int .i64 len) H N [id] []
 | .max,_,[.int k a,.int k' b]=>k=k'∧K (AuU k a b) H N [] []
 | .min,_,[.int k a,.int k' b]=>k=k'∧K (AuT k a b) H N [] []
 | .append,[t,t'],[.lst nl fl ys,z]=>AcP P t'=true∧AsD mf K H N nl fl ys z (Aap P t) mu
 | .append,[t,t'],[.slc id off es len _,z]=>AcP P t'=true∧AsB K H N id off es len z (Aap P t) (oCs (H id))
 | .append,[t,t'],[.rm (.slc id off es len _),z]=>AcP P t'=true∧AuB K H N id off es len z (Aap P t) (oCs (H id))
 | .clear,[t],[.slc id off es len _]=>Axx P K H N id off es len (Aap P t) (oCs (H id))
 | .copy,[t,_],[.slc id off es len _,z]=>Awv K H N id off es len (AlA len z) (Aap P t) (oCs (H id))
 | .delete,[t,_],[.map id,z]=>Axw K H N id z (oMp (H id)) (AfE P t)
 | _,_,_=>False
def AsA (P : Program) (args : List AV) (K : CK) (H : Aac) (N : Nat) : AV→Prop
 | .fn f caps=>Ajc P f (args++caps) H N K
 | _=>False
def Aww (op : BinOp) (x y : AV) (K : CK) (H : Aac) (N : Nat) : Option AV→Prop
 | some r=>AhM op x y∧K r H N [] []
 | none=>False
def AlE (K : CK) (H : Aac) (N : Nat) (q : Option (Nat×Option Nat)) : AV→Prop
 | .agg cs=>Ao9 K H N [] (AiZ cs q)
 | _=>False
def Aqn (K : CK) (H : Aac) (N id : Nat) (z : AV) (ok : Bool) : Option (List (AV×AV))→Option (Abe×AV)→Prop
 | some es,some (kd,zv)=>id<N∧kd.has z=true∧(es.all fun p=>kd.has p.1)=true∧K (Ajq zv (Ah4 es z) ok) H N [id] []
 | _,_=>False
def Aqo (K : CK) (H : Aac) (N : Nat) (z : AV) (ok : Bool) (q : Option (Abe×AV)) : AV→Prop
 | .map id=>Aqn K H N id z ok (oMp (H id)) q
 | _=>False
def AlD (K : CK) (H : Aac) (N id : Nat) (z v : AV) : Option (List (AV×AV))→Option (Abe×AV)→Prop
 | some es,some (kd,_)=>id<N∧kd.has z=true∧(es.all fun p=>kd.has p.1)=true∧K .skip (upd H id (some (.mp (Aeo es z v)))) N [id] [id]
 | _,_=>False
def AjE (K : CK) (H : Aac) (N : Nat) (z v : AV) (q : Option (Abe×AV)) : AV→Prop
 | .map id=>AlD K H N id z v (oMp (H id)) q
 | _=>False
def Aqk (P : Program) (t : TypeId) (K : CK) (H : Aac) (N : Nat) : AV→Prop
 | .str b=>Aiw P t=true∧K (.ptr N 0) (upd H N (some (.it b 0))) (N+1) [] [N]
 | _=>False
def oIt : Option AaZ→Option (ByteArray×Nat)
 | some (.it b p)=>some (b,p)
 | _=>none
@[simp] theorem AyC (b : ByteArray) (p : Nat) : oIt (some (.it b p))=some (b,p):=rfl
theorem Are {o : Option AaZ} {b : ByteArray} {p : Nat} (h : oIt o=some (b,p)) : o=some (.it b p):=by
 unfold oIt at h; split at h
 ·simp only [Option.some.injEq,Prod.mk.injEq] at h; rw [h.1,h.2]
 ·cases h
def Aqm (K : CK) (H : Aac) (N id : Nat) (b : ByteArray) (p : Nat) : Option UInt8→Prop
 | some x=>x.toNat<128∧K (.tup [.bool true,.int .i64 p,.int .i32 x.toNat]) (upd H id (some (.it b (p+1)))) N [id] [id]
 | none=>K (.tup [.bool false]) H N [id] []
def Aql (K : CK) (H : Aac) (N id : Nat) : Option (ByteArray×Nat)→Prop
 | some (b,p)=>id<N∧Aqm K H N id b p (b.data[p]?)
 | none=>False
def At9 (K : CK) (H : Aac) (N : Nat) : AV→Prop
 | .ptr id 0=>Aql K H N id (oIt (H id))
 | _=>False
def bop (P : Program) (mu : List Nat) (d : Option Nat) (s : Nat→AV) (H : Aac) (N : Nat) (K : CK) : Op→Prop
 | .move y=>K (ev s y) H N [] []
 | .assign y=>K (ev s y) H N [] []
 | .pick t x y=>Ar9 K H N (ev s x) (ev s y) (ev s t)
 | .binOp op xt x y _=>Aww op (ev s x) (ev s y) K H N (Auo P op xt (ev s x) (ev s y))
 | .unOp op _ x=>Ao9 K H N [] (aun op (ev s x))
 | .load t y=>Aqq P t K H N (ev s y)
 | .store t y z=>Amb P t (ev s z) K H N (ev s y)
 | .box t y=>(ev s y).fits P t=true∧K (.ptr N 0) (upd H N (some (.cells (ev s y).cells))) (N+1) [] [N]
 | .alloc t=>AoO K H N (AbW P t)
 | .fieldAddr t y f=>AoL K H N (Abz P t f) (ev s y)
 | .nilCheck y=>Aws K H N (ev s y)
 | .indexAddr t y z=>Awu P t K H N (ev s y) (ev s z) (Aap P t) (Aet P t)
 | .index t y z=>AoK P t K H N (ev s y) (ev s z) (Aqx P t)
 | .extract y i=>AiJ i K H N (ev s y)
 | .makeFunc (.func f) first caps=>first.size=0∧K (.fn f (caps.toList.map (ev s))) H N [] []
 | .slice t y l h m=>AoI P t s l h m K H N (ev s y) (Aap P t)
 | .buildSlice t n parts=>Awt s n parts.toList (Al6 mu d) K H N (Aap P t)
 | .makeSlice t y z=>AoJ P (Al6 mu d) K H N (ev s y) (ev s z) (Aap P t)
 | .build t parts=>Abp P t=true∧AoN K H N (AkB P t (parts.toList.map fun p=>(p.1,ev s p.2)))
 | .convert src dst y=>Aqu P (Al6 mu d) src dst K H N (ev s y)
 | .field t y f=>AlE K H N (AcC P t f) (ev s y)
 | .makeMap _ none=>K (.map N) (upd H N (some (.mp []))) (N+1) [] [N]
 | .range t y=>Aqk P t K H N (ev s y)
 | .next y true=>At9 K H N (ev s y)
 | .lookup t y z ok=>Aqo K H N (ev s z) ok (AfE P t) (ev s y)
 | .mapUpdate t y z v=>AjE K H N (ev s z) (ev s v) (AfE P t) (ev s y)
 | .insert t y z v=>AjE K H N (ev s z) (ev s v) (AfE P t) (ev s y)
 | .call { callee := .builtin b,args:=as,argTypes:=ts } => AiK P (Al6 mu d) (AuX mu d) K H N b ts.toList (as.toList.map (ev s))
 | .call { callee := .value g,args:=as,argTypes:=_ } => AsA P (as.toList.map (ev s)) K H N (ev s g)
 | _=>False
theorem At8 (h : bop P mu o.dst s H N K o.op) : aop P mu o s H N K:=by
 generalize ho : o.op=p at h
 unfold aop
 rw [ho]
 unfold bop at h
 split at h
 ·exact h
 ·exact h
 ·unfold Ar9 at h; split at h
  ·rename_i hh; simp only [hh]; exact h
  ·exact h.elim
 ·unfold Aww at h; split at h
  ·rename_i hh; simp only [hh]; exact h
  ·exact h.elim
 ·unfold Ao9 at h; split at h
  ·rename_i hh; simp only [hh]; exact h
  ·exact h.elim
 ·unfold Aqq at h; split at h
  ·rename_i hh; simp only [hh]
   unfold Ao9 at h; split at h
   ·rename_i h2; simp only [h2]; exact h
   ·exact h.elim
  ·rename_i hh; simp only [hh]
   unfold Aqp at h; split at h
   ·rename_i h2
    refine AcQ h2 h.1 ?_
    have h3:=h.2
    unfold Ao9 at h3; split at h3
    ·rename_i h4; simp only [h4]; exact h3
    ·exact h3.elim
   ·exact h.elim
  ·exact h.elim
 ·unfold Amb at h; split at h
  ·rename_i hh; simp only [hh]
   unfold AnS at h; split at h
   ·rename_i h2; exact AcQ h2 h.1 h.2
   ·exact h.elim
  ·exact h.elim
 ·exact h
 ·unfold AoO at h; split at h
  ·rename_i hh; simp only [hh]; exact h
  ·exact h.elim
 ·unfold AoL at h; split at h
  ·rename_i h1 h2; simp only [h1,h2]; exact h
  ·rename_i h1 h2; simp only [h1,h2]
   unfold AgY at h; split at h
   ·rename_i h3; exact AcQ h3 h.1 h.2
   ·exact h.elim
  ·exact h.elim
 ·unfold Aws at h; split at h
  ·rename_i h1; simp only [h1]; exact h
  ·rename_i h1; simp only [h1]; exact h
  ·rename_i h1; simp only [h1]
   unfold AgY at h; split at h
   ·rename_i h3; exact AcQ h3 h.1 h.2
   ·exact h.elim
  ·exact h.elim
 ·simp only []
  unfold Ax4
  unfold Awu at h; split at h
  ·rename_i h1 h2 h3; simp only [h1,h2,h3]; exact h
  ·rename_i h1 h2 h3; simp only [h1,h2,h3]
   obtain ⟨q1,q2,q3,h⟩:=h
   unfold AgY at h; split at h
   ·rename_i h4; exact AcQ h4 h.1 ⟨h.2.1,q1,q2,q3,h.2.2⟩
   ·exact h.elim
  ·rename_i h1 h2 h3; simp only [h1,h2,h3]; exact h
  ·rename_i h1 h2 h3; simp only [h1,h2,h3]
   obtain ⟨q2,q3,h⟩:=h
   unfold AgY at h; split at h
   ·rename_i h4; exact AcQ h4 h.1 ⟨h.2.1,q2,q3,h.2.2⟩
   ·exact h.elim
  ·exact h.elim
 ·unfold AoK at h; split at h
  ·rename_i h1 h2; simp only [h1,h2]; exact h
  ·rename_i h1 h2 h3; simp only [h1,h2,h3]; exact h
  ·exact h.elim
 ·unfold AiJ at h; split at h
  ·rename_i h1; simp only [h1]
   unfold Ao9 at h; split at h
   ·rename_i h2; simp only [h2]; exact h
   ·exact h.elim
  ·exact h.elim
 ·exact h
 ·unfold AoI at h; split at h
  ·rename_i h1 h2; simp only [h1,h2]
   obtain ⟨q1,q2,q3,q4,q5,q6,h⟩:=h
   exact ⟨q1,Aht q2 (Aht q3 ⟨q4,q5,q6,h⟩)⟩
  ·rename_i h1; simp only [h1]
   obtain ⟨q0,q1,q2,q3,q5,q6,h⟩:=h
   exact ⟨q0,q1,Aht q2 (Aht q3 ⟨q5,q6,h⟩)⟩
  ·rename_i h1 h2; simp only [h1,h2]
   obtain ⟨q1,h⟩:=h
   unfold Ao5 at h; split at h
   ·rename_i h3
    obtain ⟨q2,q3,q4,q5,q6,q7,q8,h⟩:=h
    exact AcQ h3 q2 ⟨q3,q1,Aht q4 (Aht q5 ⟨q6,q7,q8,h⟩)⟩
   ·exact h.elim
  ·rename_i h1 h2; simp only [h1,h2]
   obtain ⟨q1,h⟩:=h
   unfold Ao5 at h; split at h
   ·rename_i h3
    obtain ⟨q2,q3,q4,q5,q6,q7,q8,h⟩:=h
    exact AcQ h3 q2 ⟨q3,q1,Aht q4 (Aht q5 ⟨q6,q7,q8,h⟩)⟩
   ·exact h.elim
  ·exact h.elim
 ·unfold Awt at h; split at h
  ·rename_i h1; simp only [h1]
   obtain ⟨q1,q2,q3,q4,q5,h⟩:=h
   refine ⟨q1,by simpa using q2,q3,q4,q5,?_⟩
   unfold Ao6 at h
   split at h
   ·rename_i h2; simp only [h2,if_true]; exact h
   ·rename_i h2; simp only [h2,Bool.false_eq_true,if_false]; exact h
  ·exact h.elim
 ·unfold AoJ at h; split at h
  ·rename_i h1 h2 h3; simp only [h1,h2,h3]
   obtain ⟨q1,q2,q3,q4,q5,h⟩:=h
   obtain ⟨x,hx⟩:=Option.isSome_iff_exists.1 q5
   simp only [hx,Option.getD_some] at h ⊢
   refine ⟨q1,q2,q3,q4,?_⟩
   unfold Ao6 at h
   split at h
   ·rename_i h2; simp only [h2,if_true]; exact h
   ·rename_i h2; simp only [h2,Bool.false_eq_true,if_false]; exact h
  ·exact h.elim
 ·refine ⟨h.1,?_⟩
  have h2:=h.2
  unfold AoN at h2; split at h2
  ·rename_i h3; simp only [h3]; exact h2
  ·exact h2.elim
 ·unfold Aqu at h; split at h
  ·rename_i h1; simp only [h1]
   refine ⟨h.1,?_⟩
   have h2:=h.2
   unfold AoM at h2; split at h2
   ·rename_i h3; simp only [h3]; exact h2
   ·exact h2.elim
  ·rename_i h1; simp only [h1]
   obtain ⟨q1,q2,q3,h⟩:=h
   refine ⟨q1,q2,?_,?_⟩
   ·unfold Av4 at q3; split at q3
    ·rename_i h3; simp only [h3]; exact q3
    ·exact q3.elim
   ·unfold Aqr at h; split at h
    ·rename_i h3; simp only [h3,if_true]; exact h
    ·rename_i h3; simp only [h3,Bool.false_eq_true,if_false]; exact h
  ·rename_i h1; simp only [h1]
   unfold Aqs at h; split at h
   ·left
    obtain ⟨q0,h⟩:=h
    unfold Aqt at h; split at h
    ·rename_i h3
     obtain ⟨r1,r2,r3,r4,h⟩:=h
     exact ⟨q0,r3,r4,AcQ h3 r1 ⟨r2,h⟩⟩
    ·exact h.elim
   ·right
    obtain ⟨r1,r2,r3,r4,h⟩:=h
    exact ⟨r1,r2,Afx r3 ⟨r4,h⟩⟩
  ·rename_i n1 n2 n3
   obtain ⟨q1,q2,q3,q4,h⟩:=h
   simp only []
   exact ⟨q1,q2,Afx q3 ⟨q4,h⟩⟩
 ·unfold AlE at h; split at h
  ·rename_i h1; simp only [h1]
   unfold Ao9 at h; split at h
   ·rename_i h2; simp only [h2]; exact h
   ·exact h.elim
  ·exact h.elim
 ·exact h
 ·unfold Aqk at h; split at h
  ·rename_i h1; simp only [h1]; exact h
  ·exact h.elim
 ·unfold At9 at h; split at h
  ·rename_i id h1; simp only [h1]
   unfold Aql at h; split at h
   ·rename_i b p h2
    obtain ⟨hid,h⟩:=h
    simp only [Are h2]
    refine ⟨hid,?_⟩
    unfold Aqm at h; split at h
    ·rename_i x hx
     obtain ⟨hp,he⟩:=Array.getElem?_eq_some_iff.1 hx
     rw [dif_pos (show p<b.size from hp)]
     have e : b[p]'hp=x:=he
     rw [e]; exact h
    ·rename_i hx
     rw [dif_neg (show ¬ p<b.size from fun hp=>by rw [Array.getElem?_eq_none_iff] at hx; exact absurd hp (by simpa using hx))]
     exact h
   ·exact h.elim
  ·exact h.elim
 ·unfold Aqo at h; split at h
  ·rename_i h1; simp only [h1]
   unfold Aqn at h; split at h
   ·rename_i h2 h3
    simp only [Ag5 h2,h3]; exact h
   ·exact h.elim
  ·exact h.elim
 ·unfold AjE at h; split at h
  ·rename_i h1; simp only [h1]
   unfold AlD at h; split at h
   ·rename_i h2 h3
    simp only [Ag5 h2,h3]; exact h
   ·exact h.elim
  ·exact h.elim
 ·unfold AjE at h; split at h
  ·rename_i h1; simp only [h1]
   unfold AlD at h; split at h
   ·rename_i h2 h3
    simp only [Ag5 h2,h3]; exact h
   ·exact h.elim
  ·exact h.elim
 ·rename_i b as ts
  simp only []
  generalize ts.toList=tl at h ⊢
  generalize as.toList.map (ev s)=xs at h ⊢
  unfold AiK at h
  unfold AiL
  split at h
  ·exact h
  ·exact h
  ·exact h
  ·exact h
  ·exact h
  ·exact h
  ·rename_i t t' nl fl ys z
   obtain ⟨q2,h⟩:=h
   simp only []
   refine ⟨q2,?_⟩
   unfold AsD at h; split at h
   ·rename_i hmu
    rw [if_pos hmu]
    have h : (fl=true∧nl=false∧AsE K H N ys z (Aap P t))∨((nl=true∨(fl=true∧ys = []))∧AsC K H N z (Aap P t)):=by
     unfold AuC at h; split at h
     ·exact .inl h
     ·exact .inr h
    rcases h with ⟨hf,hn,h⟩ | h
    ·left
     refine ⟨hf,hn,?_⟩
     unfold AsE at h; split at h
     ·rename_i h3; simp only [h3]
      obtain ⟨r1,r2,r3,r4,r5,r6,r7,r8,h⟩:=h
      exact ⟨r1,r2,Afx r3 ⟨r4,r5,r6,r7,r8,h⟩⟩
     ·exact h.elim
    right
    refine ⟨h.1,?_⟩
    have h:=h.2
    unfold AsC at h; split at h
    ·rename_i h3; simp only [h3]
     obtain ⟨r1,r2,r3,r4,r5,r6,h⟩:=h
     exact ⟨r1,Afx r2 ⟨r3,r4,r5,r6,h⟩⟩
    ·exact h.elim
   ·rename_i hmu
    rw [if_neg (by simp [hmu])]
    refine ⟨h.1,?_⟩
    have h:=h.2
    unfold Axy at h; split at h
    ·rename_i h3; simp only [h3]
     obtain ⟨r1,r2,r3,r4,r5,r6,h⟩:=h
     exact ⟨r1,Afx r2 ⟨r3,r4,r5,r6,h⟩⟩
    ·exact h.elim
  ·obtain ⟨q2,h⟩:=h
   simp only []
   unfold AsB at h; split at h
   ·rename_i h3 h4; simp only [h3]
    obtain ⟨r0,r1,r2,r3,r4,r5,r6,r7,r8,r9,r10,h⟩:=h
    have h5:=AcQ (k:=fun obj' cs'=>obj'=_∧cs'=_) h4 r0 ⟨rfl,rfl⟩
    obtain ⟨_,o',cs',e1,e2,rfl,rfl⟩:=Abm h5
    simp only [e1,e2]
    exact ⟨r0,q2,r1,r2,r3,r4,r5,Afx r6 ⟨r7,r8,r9,r10,h⟩⟩
   ·exact h.elim
  ·obtain ⟨q2,h⟩:=h
   simp only []
   unfold AuB at h; split at h
   ·rename_i h3 h4; simp only [h3]
    obtain ⟨r0,r1,r2,r3,r6,r9,r7,r8,h⟩:=h
    have h5:=AcQ (k:=fun obj' cs'=>obj'=_∧cs'=_) h4 r0 ⟨rfl,rfl⟩
    obtain ⟨_,o',cs',e1,e2,rfl,rfl⟩:=Abm h5
    simp only [e1,e2]
    exact ⟨r0,q2,r1,r2,r3,Afx r6 ⟨r9,r7,r8,h⟩⟩
   ·exact h.elim
  ·rename_i t id off es len full
   simp only []
   unfold Axx at h; split at h
   ·rename_i h3 h4; simp only [h3]
    obtain ⟨r0,r1,h⟩:=h
    unfold AuA at h; split at h
    ·rename_i x h5; simp only [h5]
     obtain ⟨q0,q1,q2,q3,h⟩:=h
     exact AcQ h4 r0 ⟨q0,r1,q1,q2,q3,h⟩
    ·exact h.elim
   ·exact h.elim
  ·rename_i t t' id off es len full z
   simp only []
   unfold Awv at h; split at h
   ·rename_i h3 h4; simp only [h3]
    obtain ⟨r0,r1,q0,q1,r6,r7,r8,r9,h⟩:=h
    exact AcQ h4 r0 ⟨q0,r1,q1,Afx r6 ⟨r7,r8,r9,h⟩⟩
   ·exact h.elim
  ·rename_i t t' id z
   simp only []
   unfold Axw at h; split at h
   ·rename_i h3 h4
    obtain ⟨r0,r1,r2,h⟩:=h
    have h5:=Ag5 h3
    simp only [h5,h4]
    exact ⟨r0,r1,r2,h⟩
   ·exact h.elim
  ·exact h.elim
 ·unfold AsA at h; split at h
  ·rename_i h1; simp only [h1]; exact h
  ·exact h.elim
 ·exact h.elim
theorem AjD (hc : AaY o=true) (h : bop P mu o.dst s H N K o.op) : Aq9 P o s H N K:=Aqz hc (At8 h)
def AuY (ops : List Oper) : List Oper→List (Option (Nat×Bool))→Bool
 | [],[]=>true
 | o::os,g::gs=>(match o.guard,g with
  | none,none=>true
  | some (j,w),some (d,w')=>(ops[j]?).bind (·.dst)==some d&&w==w'
  | _,_=>false)&&AuY ops os gs
 | _,_=>false
def Ad7 (P : Program) (mu : List Nat) : List Oper→List (Option (Nat×Bool))→(Nat→AV)→Aac→Nat→Log→((Nat→AV)→Aac→Nat→Log→Prop)→Prop
 | [],_,s,H,N,lg,K=>K s H N lg.reverse
 | _::_,[],_,_,_,_,_=>False
 | o::os,none::gs,s,H,N,lg,K=>bop P mu o.dst s H N (fun x H' N' T W=>Ad7 P mu os gs (Ag0 s o.dst x) H' N' ((T,W)::lg) K) o.op
 | o::os,some (d,want)::gs,s,H,N,lg,K=>match s d with
  | .bool b=>(b=want→bop P mu o.dst (upd s d (.bool want)) H N (fun x H' N' T W=>Ad7 P mu os gs (Ag0 (upd s d (.bool want)) o.dst x) H' N' ((T,W)::lg) K) o.op) ∧
   (b = !want→Ad7 P mu os gs (Ag0 (upd s d (.bool !want)) o.dst .skip) H N (([],[])::lg) K)
  | .skip=>Ad7 P mu os gs (Ag0 s o.dst .skip) H N (([],[])::lg) K
  | _=>False
def AtW (P : Program) (mu : List Nat) (os : List Oper) (gs : List (Option (Nat×Bool))) (s : Nat→AV) (d : Option Nat) (lg : Log) (K : (Nat→AV)→Aac→Nat→Log→Prop) : CK :=
 fun x H' N' T W=>Ad7 P mu os gs (Ag0 s d x) H' N' ((T,W)::lg) K
@[simp] theorem Awy {P : Program} {mu : List Nat} {gs : List (Option (Nat×Bool))} {s : Nat→AV} {H : Aac} {N : Nat} {lg : Log} {K : (Nat→AV)→Aac→Nat→Log→Prop} : Ad7 P mu [] gs s H N lg K=K s H N lg.reverse:=by unfold Ad7; rfl
@[simp] theorem Av6 {P : Program} {mu : List Nat} {d : Option Nat} {op : Op} {ty : TypeId} {pos : String} {af : Array Edge} {g : Option (Nat×Bool)} {os : List Oper} {gs : List (Option (Nat×Bool))} {s : Nat→AV} {H : Aac} {N : Nat} {lg : Log} {K : (Nat→AV)→Aac→Nat→Log→Prop} :
 Ad7 P mu (⟨d,op,ty,pos,af,g⟩::os) (none::gs) s H N lg K=bop P mu d s H N (AtW P mu os gs s d lg K) op:=by
 conv=>lhs; unfold Ad7
 rfl
theorem Anb {α : Type} {s : Nat→α} {j : Nat} {v : α} (h : s j=v) : upd s j v=s:=by
 funext t
 by_cases e : t=j
 ·subst e; rw [AbR,h]
 ·rw [AbV _ _ e]
theorem Afu {P : Program} {mu : List Nat} {d : Option Nat} {op : Op} {ty : TypeId} {pos : String} {af : Array Edge} {g : Option (Nat×Bool)} {os : List Oper} {j : Nat} {gs : List (Option (Nat×Bool))} {s : Nat→AV} {H : Aac} {N : Nat} {lg : Log} {K : (Nat→AV)→Aac→Nat→Log→Prop} {want : Bool} :
 Ad7 P mu (⟨d,op,ty,pos,af,g⟩::os) (some (j,want)::gs) s H N lg K=match s j with
  | .bool b=>(b=want→bop P mu d (upd s j (.bool want)) H N (AtW P mu os gs (upd s j (.bool want)) d lg K) op)∧(b = !want→Ad7 P mu os gs (Ag0 (upd s j (.bool !want)) d .skip) H N (([],[])::lg) K)
  | .skip=>Ad7 P mu os gs (Ag0 s d .skip) H N (([],[])::lg) K
  | _=>False:=by
 conv=>lhs; unfold Ad7
 cases s j <;> rfl
@[simp] theorem Axz {P : Program} {mu : List Nat} {d : Option Nat} {op : Op} {ty : TypeId} {pos : String} {af : Array Edge} {g : Option (Nat×Bool)} {os : List Oper} {j : Nat} {gs : List (Option (Nat×Bool))} {s : Nat→AV} {H : Aac} {N : Nat} {lg : Log} {K : (Nat→AV)→Aac→Nat→Log→Prop} (h : s j = .bool true) : Ad7 P mu (⟨d,op,ty,pos,af,g⟩::os) (some (j,true)::gs) s H N lg K=bop P mu d s H N (AtW P mu os gs s d lg K) op:=by
 rw [Afu,h]; simp [Anb h]
@[simp] theorem Ax3 {P : Program} {mu : List Nat} {d : Option Nat} {op : Op} {ty : TypeId} {pos : String} {af : Array Edge} {g : Option (Nat×Bool)} {os : List Oper} {j : Nat} {gs : List (Option (Nat×Bool))} {s : Nat→AV} {H : Aac} {N : Nat} {lg : Log} {K : (Nat→AV)→Aac→Nat→Log→Prop} (h : s j = .bool false) : Ad7 P mu (⟨d,op,ty,pos,af,g⟩::os) (some (j,false)::gs) s H N lg K=bop P mu d s H N (AtW P mu os gs s d lg K) op:=by
 rw [Afu,h]; simp [Anb h]
@[simp] theorem Ax0 {P : Program} {mu : List Nat} {d : Option Nat} {op : Op} {ty : TypeId} {pos : String} {af : Array Edge} {g : Option (Nat×Bool)} {os : List Oper} {j : Nat} {gs : List (Option (Nat×Bool))} {s : Nat→AV} {H : Aac} {N : Nat} {lg : Log} {K : (Nat→AV)→Aac→Nat→Log→Prop} (h : s j = .bool true) : Ad7 P mu (⟨d,op,ty,pos,af,g⟩::os) (some (j,false)::gs) s H N lg K=Ad7 P mu os gs (Ag0 s d .skip) H N (([],[])::lg) K:=by
 rw [Afu,h]; simp [Anb h]
@[simp] theorem Ax2 {P : Program} {mu : List Nat} {d : Option Nat} {op : Op} {ty : TypeId} {pos : String} {af : Array Edge} {g : Option (Nat×Bool)} {os : List Oper} {j : Nat} {gs : List (Option (Nat×Bool))} {s : Nat→AV} {H : Aac} {N : Nat} {lg : Log} {K : (Nat→AV)→Aac→Nat→Log→Prop} (h : s j = .bool false) : Ad7 P mu (⟨d,op,ty,pos,af,g⟩::os) (some (j,true)::gs) s H N lg K=Ad7 P mu os gs (Ag0 s d .skip) H N (([],[])::lg) K:=by
 rw [Afu,h]; simp [Anb h]
@[simp] theorem Ax1 {P : Program} {mu : List Nat} {d : Option Nat} {op : Op} {ty : TypeId} {pos : String} {af : Array Edge} {g : Option (Nat×Bool)} {os : List Oper} {j : Nat} {gs : List (Option (Nat×Bool))} {s : Nat→AV} {H : Aac} {N : Nat} {lg : Log} {K : (Nat→AV)→Aac→Nat→Log→Prop} {want : Bool} (h : s j = .skip) : Ad7 P mu (⟨d,op,ty,pos,af,g⟩::os) (some (j,want)::gs) s H N lg K=Ad7 P mu os gs (Ag0 s d .skip) H N (([],[])::lg) K:=by
 rw [Afu,h]
@[simp] theorem Axb {P : Program} {mu : List Nat} {os : List Oper} {gs : List (Option (Nat×Bool))} {s : Nat→AV} {d : Option Nat} {lg : Log} {K : (Nat→AV)→Aac→Nat→Log→Prop} {x : AV} {H : Aac} {N : Nat} {T W : List Nat} :
 AtW P mu os gs s d lg K x H N T W=Ad7 P mu os gs (Ag0 s d x) H N ((T,W)::lg) K:=rfl
@[congr] theorem AuV {P : Program} {mu : List Nat} {os : List Oper} {gs : List (Option (Nat×Bool))} {s : Nat→AV} {d : Option Nat} {lg : Log} {K : (Nat→AV)→Aac→Nat→Log→Prop} : AtW P mu os gs s d lg K=AtW P mu os gs s d lg K:=rfl
@[congr] theorem Auk {P : Program} {mu : List Nat} {os : List Oper} {gs : List (Option (Nat×Bool))} {s : Nat→AV} {H : Aac} {N : Nat} {lg : Log} {K : (Nat→AV)→Aac→Nat→Log→Prop} : Ad7 P mu os gs s H N lg K=Ad7 P mu os gs s H N lg K:=rfl
@[congr] theorem Av2 {P : Program} {mu : List Nat} {d : Option Nat} {op : Op} {s : Nat→AV} {H : Aac} {N : Nat} {K : CK} : bop P mu d s H N K op=bop P mu d s H N K op:=rfl
@[congr] theorem AuF {P : Program} {f : FuncId} {args args' : List AV} {H : Aac} {N : Nat} {K : CK} (h : args=args') : Ajc P f args H N K=Ajc P f args' H N K:=by rw [h]
attribute [simp] AuB Aqk At9 Aql Aqm Awv AlA Axx AuA Axw bop Ar9 Ao9 Aqp Aqq AnS Amb AoO AgY AoL Aws Awu AoK AiJ Aqh AfJ Ao5 AoI Ao6 Awt AoJ AoN AoM Av4 Au2 Amr Af0 Acm Aqu Axy AsC AsD AsB AiK AsA Aww Aqr Aqt Aqs AsE AuC AlE Aqn Aqo AlD AjE Ajq AiZ
theorem AtQ {a b : Bool} (h : ¬ a=b) : a = !b:=by cases a <;> cases b <;> simp_all
theorem AgF {ops : List Oper} {K : (Nat→AV)→Aac→Nat→Log→Prop} : ∀ (l : List Oper) (gs : List (Option (Nat×Bool))) (s : Nat→AV) (H : Aac) (N : Nat) (lg : Log),(∀ o ∈ l,AaY o=true)→AuY ops l gs=true →
 Ad7 P mu l gs s H N lg K→∃ st s' H' N',Tr P ops.toArray l s H N st s' H' N'∧K s' H' N' (lg.reverse++st.map fun t=>(t.T,t.W))
 | [],gs,s,H,N,lg,_,_,h=>⟨[],s,H,N,⟨rfl,rfl,rfl,rfl⟩,by simpa [Ad7] using h⟩
 | o::os,[],s,H,N,lg,_,hg,_=>by simp [AuY] at hg
 | o::os,none::gs,s,H,N,lg,hc,hg,h=>by
  simp only [AuY,Bool.and_eq_true] at hg
  have hgd : o.guard=none:=by
   cases hh : o.guard with
   | none=>rfl
   | some p=>simp [hh] at hg
  unfold Ad7 at h
  obtain ⟨x,H',N',T,W,h1,h2⟩:=AjD (hc o (by simp)) h
  obtain ⟨st,s'',H'',N'',k1,k2⟩:=AgF os gs _ _ _ _ (fun o ho=>hc o (by simp [ho])) hg.2 h2
  exact ⟨⟨true,x,H',T,W,N'⟩::st,s'',H'',N'',⟨_,_,rfl,by simp [AcI,hgd],fun _=>⟨h1.op,h1.rest⟩,fun h=>(by cases h),h1.n,h1.tn,h1.wn,k1⟩,by simpa using k2⟩
 | o::os,some (d,want)::gs,s,H,N,lg,hc,hg,h=>by
  simp only [AuY,Bool.and_eq_true] at hg
  obtain ⟨j,hgd,hd⟩ : ∃ j,o.guard=some (j,want)∧(ops[j]?).bind (·.dst)=some d:=by
   cases hh : o.guard with
   | none=>simp [hh] at hg
   | some p =>
    obtain ⟨j,w⟩:=p
    simp only [hh,Bool.and_eq_true,beq_iff_eq] at hg
    exact ⟨j,by rw [hg.1.2],hg.1.1⟩
  have hd' : (ops.toArray[j]?).bind (·.dst)=some d:=by simpa using hd
  have skipped : AcI ops.toArray o s false→Ad7 P mu os gs (Ag0 s o.dst .skip) H N (([],[])::lg) K→∃ st s' H' N',Tr P ops.toArray (o::os) s H N st s' H' N'∧K s' H' N' (lg.reverse++st.map fun t=>(t.T,t.W)):=by
   intro hs h
   obtain ⟨st,s'',H'',N'',k1,k2⟩:=AgF os gs _ _ _ _ (fun o ho=>hc o (by simp [ho])) hg.2 h
   exact ⟨⟨false,.skip,H,[],[],N⟩::st,s'',H'',N'',⟨_,_,rfl,hs,fun h=>(by cases h),fun _=>⟨rfl,rfl,rfl,rfl⟩,Nat.le_refl _,by simp,by simp,k1⟩,by simpa using k2⟩
  unfold Ad7 at h
  split at h
  ·rename_i b hb
   have same : ∀ v,b=v→upd s d (.bool v)=s:=by
    intro v hv
    funext t
    by_cases e : t=d
    ·subst e; rw [AbR,hb,hv]
    ·rw [AbV _ _ e]
   by_cases hbw : b=want
   ·have h':=h.1 hbw
    rw [same want hbw] at h'
    obtain ⟨x,H',N',T,W,h1,h2⟩:=AjD (hc o (by simp)) h'
    obtain ⟨st,s'',H'',N'',k1,k2⟩:=AgF os gs _ _ _ _ (fun o ho=>hc o (by simp [ho])) hg.2 h2
    exact ⟨⟨true,x,H',T,W,N'⟩::st,s'',H'',N'',⟨_,_,rfl,by simp only [AcI,hgd]; exact ⟨d,hd',.inl ⟨b,hb,by simp [hbw]⟩⟩,fun _=>⟨h1.op,h1.rest⟩,fun h=>(by cases h),h1.n,h1.tn,h1.wn,k1⟩,by simpa using k2⟩
   ·have hbw' : b = !want:=AtQ hbw
    have h':=h.2 hbw'
    rw [same _ hbw'] at h'
    refine skipped ?_ h'
    simp only [AcI,hgd]
    exact ⟨d,hd',.inl ⟨b,hb,by simp [hbw]⟩⟩
  ·rename_i hb
   refine skipped ?_ h
   simp only [AcI,hgd]
   exact ⟨d,hd',.inr (by simp [hb])⟩
  ·exact h.elim
def Ael (n : Nat) (ops : List Oper) (gs : List (Option (Nat×Bool))) : Bool :=
 AkY n ops&&AeN ops&&AiY ops&&ops.all AaY&&AuY ops ops gs
theorem St.draw {n : Nat} {c0 : Cx} {w0 : World} {a : Act} {w w' : World} (h : St n c0 w0 s H N a w) (e : w'.heap=w.heap) (h1 : w'.os=w.os) (h2 : w'.tape=w.tape) (h3 : w'.output=w.output) : St n c0 w0 s H N a w':=by
 obtain ⟨c,hr,hd,g,hu⟩:=h
 exact ⟨c,⟨hr.hr.world e,hr.size,hr.slot⟩,hd,g.trans (Aeu.world e h1 h2 h3),hu⟩
theorem AW.region {n : Nat} {c0 : Cx} {w0 : World} {Q : AcH} {id : Nat} {ops : List Oper} {draw : Bool} (hm : P.follows .mixedOrders=true) (mu : List Nat) (gs : List (Option (Nat×Bool))) (hok : Ael n ops gs=true)
 (h : ∀ (G : Log→Prop) (K : (Nat→AV)→Aac→Nat→Prop),(∀ lg,(!draw||Abi ops lg)=true→G lg)→(∀ s' H' N',Q .normal s' H' N'→K s' H' N')→Ad7 P mu ops gs s H N [] (fun s' H' N' lg=>G lg∧K s' H' N')) :
 AW P n c0 w0 (.region id ops.toArray draw) Q s H N:=by
 simp only [Ael,Bool.and_eq_true] at hok
 obtain ⟨⟨⟨⟨h1,h2⟩,h3⟩,h4⟩,h5⟩:=hok
 obtain ⟨st,s',H',N',htr,hio,hq⟩:=AgF ops gs s H N [] (fun o ho=>List.all_eq_true.1 h4 o ho) h5 (h (fun lg=>(!draw||Abi ops lg)=true) (fun s' H' N'=>Q .normal s' H' N') (fun _ h=>h) (fun _ _ _ h=>h))
 simp only [List.reverse_nil,List.nil_append] at hio
 intro a w hst
 cases draw with
 | false =>
  obtain ⟨c,hr,hd,g,hu⟩:=hst
  refine wp_region_list (AiM ops s H N st s' H' N' (AhU h1) htr ?_ c a w hr hd g hu)
  intro c' a' w' hr' hd' g' hu'
  exact ⟨s',H',N',hq,c',hr',hd',g',hu'⟩
 | true =>
  simp only [Bool.not_true,Bool.false_or] at hio
  obtain ⟨c,hr,hd,g,hu⟩:=hst.draw (w' := { w with drawn:=w.drawn+1 }) rfl rfl rfl rfl
  refine wp_region_any hm ?_
  simp only [List.size_toArray]
  have hE : ∀ k,k<ops.length→Aay (Array.replicate ops.length false) k=false:=by
   intro k hk; simp [Aay,Array.getD,hk]
  have hcnt : ∀ m,m≤ops.length→cnt (Aay (Array.replicate ops.length false)) m=0:=by
   intro m
   induction m with
   | zero=>intro _; rfl
   | succ m ih=>intro hm; simp [cnt,ih (by omega),hE m (by omega)]
  obtain ⟨t1,t2,t3,t4,t5⟩:=ArK ops s H N st s' H' N' htr
  have hNN:=Afz t1 t5 0 ops.length (by omega) (Nat.le_refl _)
  rw [t4] at hNN
  refine AnZ h1 h2 h3 hio htr (c0:=c0) (w0:=w0) (df:=[]) ?_ ops.length _ c a _ (by simp) (by rw [hcnt _ (Nat.le_refl _)]; omega) ?_
  ·intro c' a' w' hr' hd' g' hu'
   exact ⟨s',H',N',hq,c',hr',hd',g',hu'⟩
  ·refine ⟨?_,hd,g,?_,fun i hi=>hu i (by simp only [stN] at hNN; omega),?_⟩
   ·have e1 : (fun t=>AgK (s t) (fun k=>(ops[k]?.bind (·.dst))==some t) (fun k=>(st[k]?.map (·.x)).getD .undef) (Aay (Array.replicate ops.length false)) ops.length)=s:=by
     funext t
     rw [Adr _ _ _ _ 0 ops.length (by omega) (fun k _ hk _=>hE k hk)]; rfl
    have e2 : (fun id=>AgK (H id) (fun k=>((st[k]?.map (·.W)).getD []).contains id) (fun k=>stH st H (k+1) id) (Aay (Array.replicate ops.length false)) ops.length)=H:=by
     funext t
     rw [Adr _ _ _ _ 0 ops.length (by omega) (fun k _ hk _=>hE k hk)]; rfl
    rw [e1,e2]; exact hr
   ·intro i t ht hi id k1 k2
    have hil : i<ops.length:=by have:=(List.getElem?_eq_some_iff.1 ht).1; omega
    have A:=(t5 i ops[i] t (by simp [hil]) ht).wn id k1
    have:=Afz t1 t5 0 i (by omega) (by omega)
    simp only [stN] at this
    exact hu id (by have:=A.2 k2; omega)
   ·intro j o' hj hjE
    have hjl : j<ops.length:=(List.getElem?_eq_some_iff.1 hj).1
    rw [hE j hjl] at hjE; cases hjE
end
end Go.Abs
