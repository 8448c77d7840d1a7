import Derived.Test.YtelffnegemdicaaMdtLay15
set_option linter.unusedVariables false
set_option linter.unusedSimpArgs false
namespace Go.Abs
open Go.RowKit (Below)
section
variable {P : Program} {o : Oper} {s : Nat→AV} {H : Aai} {N : Nat} {K : CK} {mu : List Nat}
def ArI (P : Program) (o : Oper) (s : Nat→AV) (H : Aai) (N : Nat) (K : CK) : Prop:=∃ x H' N' T W,Aau P o s H N x H' N' T W∧K x H' N' T W
theorem Abm {α : Type} {a : Array α} {l : List α} (h : a.toList=l) : a=l.toArray:=by cases a; simpa using h
theorem Ajn (hc : Aal o=true) (m : Bool) (b : Builtin) (args : Array Operand) (ts : Array TypeId) (ho : o.op = .call { callee := .builtin b,args:=args,argTypes:=ts })
 (h : AhZ P m b ts.toList (args.toList.map (ev s)) H N K) : ArI P o s H N K:=by
 generalize hx : args.toList.map (ev s)=xs at h
 generalize ht : ts.toList=tl at h
 have one : ∀ y,[y]=xs→∃ z,args = #[z]∧ev s z=y:=by
  intro y h; rw [← hx] at h
  cases ha : args.toList with
  | nil=>simp [ha] at h
  | cons z l =>
   cases l with
   | nil=>simp [ha] at h; exact ⟨z,Abm ha,h.symm⟩
   | cons=>simp [ha] at h
 have two : ∀ y y',[y,y']=xs→∃ z z',args = #[z,z']∧ev s z=y∧ev s z'=y':=by
  intro y y' h; rw [← hx] at h
  match ha : args.toList,h with
  | [z,z'],h=>simp at h; exact ⟨z,z',Abm ha,h.1.symm,h.2.symm⟩
  | [],h=>simp at h
  | [_],h=>simp at h
  | _::_::_::_,h=>simp at h
 unfold AhZ at h
 split at h
 ·rename_i t nl fl ys
  obtain ⟨z,rfl,hz⟩:=one _ rfl
  have:=Abm ht; subst this
  obtain ⟨e,he⟩:=Ah5 h.1
  exact ⟨_,_,_,_,_,AnR hc t e z ho nl fl ys hz he,h.2⟩
 ·rename_i t b
  obtain ⟨z,rfl,hz⟩:=one _ rfl
  have:=Abm ht; subst this
  exact ⟨_,_,_,_,_,AnQ hc t z ho b hz (Adj h.1),h.2⟩
 ·rename_i t id off es len full
  obtain ⟨z,rfl,hz⟩:=one _ rfl
  have:=Abm ht; subst this
  obtain ⟨e,he⟩:=Ah5 h.1
  obtain ⟨o',ho'⟩:=h.2.2.1
  exact ⟨_,_,_,_,_,AkL hc t e z ho id off es len full (by rw [hz]; rfl) h.2.1 o' ho' he,h.2.2.2⟩
 ·rename_i t id off es len full
  obtain ⟨z,rfl,hz⟩:=one _ rfl
  have:=Abm ht; subst this
  obtain ⟨e,he⟩:=Ah5 h.1
  obtain ⟨o',ho'⟩:=h.2.2.1
  exact ⟨_,_,_,_,_,AkL hc t e z ho id off es len full (by rw [hz]; rfl) h.2.1 o' ho' he,h.2.2.2⟩
 ·rename_i k a k' b
  obtain ⟨z,z',rfl,hz,hz'⟩:=two _ _ rfl
  obtain ⟨rfl,h⟩:=h
  exact ⟨_,_,_,_,_,AqO hc ts z z' ho k a b hz hz',h⟩
 ·rename_i k a k' b
  obtain ⟨z,z',rfl,hz,hz'⟩:=two _ _ rfl
  obtain ⟨rfl,h⟩:=h
  exact ⟨_,_,_,_,_,AqN hc ts z z' ho k a b hz hz',h⟩
 ·rename_i t t' nl fl ys z
  obtain ⟨y,z',rfl,hy,hz⟩:=two _ _ rfl
  have:=Abm ht; subst this
  obtain ⟨h2,h⟩:=h
  split at h
  ·rcases h with ⟨hfl,hnl,h⟩ | ⟨hnf,h⟩
   ·split at h
    ·rename_i e es by_ hE
     obtain ⟨h3,h4,h⟩:=h
     obtain ⟨zs,T,k1,k2,⟨k0,k3,k4,k5,k6,k7⟩,k8⟩:=Adq h
     refine ⟨_,_,_,_,_,AkV hc t t' y z' ho nl fl ys hy hfl e es by_ hE h2 zs T ⟨by rw [hz]; exact k1,k3.1,k3.2,?_,k2⟩ h3 k0 h4.1 h4.2 k5 k6,k7⟩
     intro hs
     rw [hz] at hs
     obtain ⟨id,rfl⟩:=k8 hs
     exact List.all_eq_true.1 (k4 (by simp))
    ·exact h.elim
   split at h
   ·rename_i e es by_ hE
    obtain ⟨h3,h⟩:=h
    obtain ⟨zs,T,k1,k2,⟨k3,k4,k5,k6,k7⟩,k8⟩:=Adq h
    refine ⟨_,_,_,_,_,AkT hc t t' y z' ho nl fl ys hy hnf e es by_ hE h2 zs T ⟨by rw [hz]; exact k1,k3.1,k3.2,?_,k2⟩ h3 k5 k6,k7⟩
    intro hs
    rw [hz] at hs
    obtain ⟨id,rfl⟩:=k8 hs
    exact List.all_eq_true.1 (k4 (by simp))
   ·exact h.elim
  ·obtain ⟨h1,h⟩:=h
   split at h
   ·rename_i e es by_ hE
    obtain ⟨h3,h⟩:=h
    obtain ⟨zs,T,k1,k2,⟨k3,k4,k5,k6,k7⟩,k8⟩:=Adq h
    refine ⟨_,_,_,_,_,AkU hc t t' y z' ho nl fl ys hy h1 e es by_ hE h2 zs T ⟨by rw [hz]; exact k1,k3.1,k3.2,?_,k2⟩ h3.1 h3.2 k5 k6,k7⟩
    intro hs
    rw [hz] at hs
    obtain ⟨id,rfl⟩:=k8 hs
    exact List.all_eq_true.1 (k4 (by simp))
   ·exact h.elim
 ·rename_i t t' id off es len full z
  obtain ⟨y,z',rfl,hy,hz⟩:=two _ _ rfl
  have:=Abm ht; subst this
  obtain ⟨h0,h2,h⟩:=h
  split at h
  ·rename_i e es' by_ obj hE hob
   split at h
   ·rename_i cs hcs
    obtain ⟨rfl,h3,h4,h5,h6,h⟩:=h
    obtain ⟨zs,T,k1,k2,⟨k3,k4,k5,k6,k7⟩,k8⟩:=Adq h
    refine ⟨_,_,_,_,_,AkS hc t t' y z' ho id off es' len full hy h0 obj hob cs hcs h4 h5 e by_ hE h2 zs T ⟨by rw [hz]; exact k1,k3.1,k3.2,?_,k2⟩ (List.all_eq_true.1 h6) h3 k5 k6,k7⟩
    intro hs
    rw [hz] at hs
    obtain ⟨id,rfl⟩:=k8 hs
    exact List.all_eq_true.1 (k4 (by simp))
   ·exact h.elim
  ·exact h.elim
 ·rename_i t t' id off es len full z
  obtain ⟨y,z',rfl,hy,hz⟩:=two _ _ rfl
  have:=Abm ht; subst this
  obtain ⟨h0,h2,h⟩:=h
  split at h
  ·rename_i e es' by_ obj hE hob
   split at h
   ·rename_i cs hcs
    obtain ⟨rfl,h3,h4,h⟩:=h
    obtain ⟨zs,T,k1,k2,⟨k9,k3,k4,k7⟩,k8⟩:=Adq h
    refine ⟨_,_,_,_,_,AkR hc t t' y z' ho id off es' len full hy h0 obj hob cs hcs h3 h4 e by_ hE h2 zs T ⟨by rw [hz]; exact k1,k3.1,k3.2,?_,k2⟩ k9,k7⟩
    intro hs
    rw [hz] at hs
    obtain ⟨id,rfl⟩:=k8 hs
    exact List.all_eq_true.1 (k4 (by simp))
   ·exact h.elim
  ·exact h.elim
 ·rename_i t id off es len full
  obtain ⟨z,rfl,hz⟩:=one _ rfl
  have:=Abm ht; subst this
  split at h
  ·rename_i e es' by_ hE
   split at h
   ·rename_i x hx0
    obtain ⟨h0,obj,cs,e1,e2,h1,rfl,h2,h3,h4,h⟩:=Abx h
    exact ⟨_,_,_,_,_,AnU hc t z ho id off es' len full hz h0 obj e1 cs e2 h1 e by_ hE x hx0 h2 h3 h4,h⟩
   ·exact h.elim
  ·exact h.elim
 ·rename_i t t' id off es len full z
  obtain ⟨y,z',rfl,hy,hz⟩:=two _ _ rfl
  have:=Abm ht; subst this
  split at h
  ·rename_i e es' by_ hE
   obtain ⟨h0,obj,cs,e1,e2,h1,rfl,h2,h⟩:=Abx h
   obtain ⟨zs,T,k1,k2,⟨k3,k4,k5,k6⟩,k8⟩:=Adq h
   refine ⟨_,_,_,_,_,Aot hc t t' y z' ho id off es' len full hy h0 obj e1 cs e2 h1 e by_ hE h2 zs T (by rw [hz]; exact k1) k2 k3.1 k3.2 ?_ k5,k6⟩
   rintro ⟨i1,i2,i3,i4,i5,hs⟩
   rw [hz] at hs; subst hs
   obtain ⟨id,rfl⟩:=k8 ⟨_,_,_,_,_,rfl⟩
   exact List.all_eq_true.1 (k4 (by simp))
  ·exact h.elim
 ·rename_i t t' id z
  obtain ⟨y,z',rfl,hy,hz⟩:=two _ _ rfl
  have:=Abm ht; subst this
  obtain ⟨h0,h⟩:=h
  split at h
  ·rename_i es kd zv e1 e2
   subst hz
   exact ⟨_,_,_,_,_,Amc hc t t' y z' ho id hy h0 es e1 kd zv e2 h.1 h.2.1,h.2.2⟩
  ·exact h.elim
 ·exact h.elim
theorem AoN (hc : Aal o=true) (h : aop P mu o s H N K) : ArI P o s H N K:=by
 unfold aop at h
 split at h
 ·rename_i y ho; exact ⟨_,_,_,_,_,Al6 hc y (.inl ho),h⟩
 ·rename_i y ho; exact ⟨_,_,_,_,_,Al6 hc y (.inr ho),h⟩
 ·rename_i t x y ho
  split at h
  ·rename_i b hb; exact ⟨_,_,_,_,_,Aor hc t x y ho b hb,h⟩
  ·exact h.elim
 ·rename_i op xt x y yt ho
  split at h
  ·rename_i r hr; exact ⟨_,_,_,_,_,AqQ hc op xt yt x y ho r hr h.1,h.2⟩
  ·exact h.elim
 ·rename_i op xt x ho
  split at h
  ·rename_i r hr; exact ⟨_,_,_,_,_,AsB hc op xt x ho r hr,h⟩
  ·exact h.elim
 ·rename_i t y ho
  split at h
  ·rename_i cs hy
   split at h
   ·rename_i x hx; exact ⟨_,_,_,_,_,Amb hc t y ho cs hy x hx,h⟩
   ·exact h.elim
  ·rename_i id off hy
   obtain ⟨hid,obj,cs,hob,hcs,h⟩:=Abx h
   split at h
   ·rename_i x hx; exact ⟨_,_,_,_,_,Ama hc t y ho id off hy hid obj hob cs hcs x hx,h⟩
   ·exact h.elim
  ·exact h.elim
 ·rename_i t y z ho
  split at h
  ·rename_i id off hy
   obtain ⟨hid,obj,cs,hob,hcs,h0,h1,h2,h⟩:=Abx h
   exact ⟨_,_,_,_,_,AnN hc t y z ho id off hy hid obj hob cs hcs h1 h2 h0,h⟩
  ·exact h.elim
 ·rename_i t y ho; exact ⟨_,_,_,_,_,AqP hc t y ho h.1,h.2⟩
 ·rename_i t ho
  split at h
  ·rename_i z hz; exact ⟨_,_,_,_,_,AnW t ho z hz,h⟩
  ·exact h.elim
 ·rename_i t y f ho
  split at h
  ·rename_i d hd
   split at h
   ·rename_i cs hy; exact ⟨_,_,_,_,_,AlW hc t y f ho cs hy d hd,h⟩
   ·rename_i id off hy
    obtain ⟨hid,obj,cs,hob,hcs,h0,h⟩:=Abx h
    exact ⟨_,_,_,_,_,AlV hc t y f ho id off hy hid obj hob (AcR hcs h0) d hd,h⟩
   ·exact h.elim
  ·exact h.elim
 ·rename_i y ho
  split at h
  ·rename_i cs hy; exact ⟨_,_,_,_,_,AiV hc y ho cs hy,h⟩
  ·rename_i f cs hy; exact ⟨_,_,_,_,_,AiU hc y ho f cs hy,h⟩
  ·rename_i id off hy
   obtain ⟨hid,obj,cs,hob,hcs,h0,h⟩:=Abx h
   exact ⟨_,_,_,_,_,AiT hc y ho id off hy hid obj hob (AcR hcs h0),h⟩
  ·exact h.elim
 ·rename_i t y z ho
  unfold Auo at h
  split at h
  ·rename_i k i hz
   split at h
   ·rename_i nl fl xs hy
    split at h
    ·rename_i e es by_ hE
     obtain ⟨h0,h1,h2,h3,h⟩:=h
     exact ⟨_,_,_,_,_,AlS hc t y z ho nl fl xs hy k i hz e es by_ hE h0 h1 _ (by simp [h1]) h2 h3,h⟩
    ·exact h.elim
   ·rename_i id off es len full hy
    split at h
    ·rename_i e es' by_ hE
     obtain ⟨hid,obj,cs,hob,hcs,h0,rfl,h1,h2,h⟩:=Abx h
     exact ⟨_,_,_,_,_,AlR hc t y z ho id off _ len full hy hid obj hob (AcR hcs h0) k i hz e by_ hE h1 h2,h⟩
    ·exact h.elim
   ·rename_i cs hy
    split at h
    ·rename_i m es hE; exact ⟨_,_,_,_,_,AkN hc t y z ho cs hy k i hz m es hE h.1 h.2.1,h.2.2⟩
    ·exact h.elim
   ·rename_i id off hy
    split at h
    ·rename_i m es hE
     obtain ⟨hid,obj,cs,hob,hcs,h0,h1,h2,h⟩:=Abx h
     exact ⟨_,_,_,_,_,AkM hc t y z ho id off hy hid obj hob (AcR hcs h0) k i hz m es hE h1 h2,h⟩
    ·exact h.elim
   ·exact h.elim
  ·exact h.elim
 ·rename_i t y z ho
  split at h
  ·rename_i b k i hy hz
   exact ⟨_,_,_,_,_,AlT hc t y z ho b hy k i hz (Adj h.1) h.2.1 h.2.2.1,h.2.2.2⟩
  ·rename_i xs k i hy hz
   split at h
   ·rename_i m kk hE
    obtain ⟨e,hu,ha,hs⟩:=ApP hE
    exact ⟨_,_,_,_,_,AlU hc t y z ho xs hy k i hz m e hu ha hs h.1 h.2.1 _ (by rw [List.getElem?_eq_getElem h.2.2.1]; rfl),h.2.2.2⟩
   ·exact h.elim
  ·exact h.elim
 ·rename_i y i ho
  split at h
  ·rename_i xs hy
   split at h
   ·rename_i x hx; exact ⟨_,_,_,_,_,AlX hc y i ho xs hy x hx,h⟩
   ·exact h.elim
  ·exact h.elim
 ·rename_i f first caps ho
  have : first = #[]:=Array.size_eq_zero_iff.1 h.1
  subst this
  exact ⟨_,_,_,_,_,AkK hc f caps ho,h.2⟩
 ·rename_i t y l hh m ho
  split at h
  ·rename_i nl fl xs hy
   split at h
   ·rename_i e es by_ hE
    obtain ⟨h0,h⟩:=h
    obtain ⟨lo,hlo,h⟩:=AeN h
    obtain ⟨hi,hhi,hm,h1,h2,h⟩:=AeN h
    exact ⟨_,_,_,_,_,AlP hc t y l hh m ho nl fl xs hy e es by_ hE h0.1 lo hi hlo hhi hm h1 h2,h⟩
   ·exact h.elim
  ·rename_i b hy
   obtain ⟨h0,rfl,h⟩:=h
   obtain ⟨lo,hlo,h⟩:=AeN h
   obtain ⟨hi,hhi,h1,h2,h⟩:=AeN h
   exact ⟨_,_,_,_,_,AlO hc t y l hh ho b hy (Adj h0) lo hi hlo hhi h1 h2,h⟩
  ·rename_i id off es len full hy
   split at h
   ·rename_i e es' by_ hE
    obtain ⟨hid,obj,cs,hob,hcs,h0,rfl,h⟩:=Abx h
    obtain ⟨lo,hlo,h⟩:=AeN h
    obtain ⟨hi,hhi,hm,h1,h2,h⟩:=AeN h
    exact ⟨_,_,_,_,_,Ahu hc t y l hh m ho id off _ len full (by rw [hy]; rfl) hid obj hob (AcR hcs h0) e by_ hE lo hi hlo hhi hm h1 h2,h⟩
   ·exact h.elim
  ·rename_i id off es len full hy
   split at h
   ·rename_i e es' by_ hE
    obtain ⟨hid,obj,cs,hob,hcs,h0,rfl,h⟩:=Abx h
    obtain ⟨lo,hlo,h⟩:=AeN h
    obtain ⟨hi,hhi,hm,h1,h2,h⟩:=AeN h
    exact ⟨_,_,_,_,_,Ahu hc t y l hh m ho id off _ len full (by rw [hy]; rfl) hid obj hob (AcR hcs h0) e by_ hE lo hi hlo hhi hm h1 h2,h⟩
   ·exact h.elim
  ·exact h.elim
 ·rename_i t n parts ho
  split at h
  ·rename_i e es by_ hE
   obtain ⟨h1,h2,h3,h4,h5,h⟩:=h
   split at h
   ·exact ⟨_,_,_,_,_,AhI hc t n parts ho e es by_ hE h1 h2 h3.1 h3.2 h4 h5,h⟩
   ·exact ⟨_,_,_,_,_,AhJ hc t n parts ho e es by_ hE h1 h2 h3.1 h3.2 h4 h5,h⟩
  ·exact h.elim
 ·rename_i t y z ho
  split at h
  ·rename_i e es by_ hE
   split at h
   ·rename_i k m k' m' x hy hz hx
    obtain ⟨rfl,h0,h1,h2,h⟩:=h
    split at h
    ·exact ⟨_,_,_,_,_,Ahv hc t y z ho e es by_ hE k k' _ hy hz h0 h1 h2 x hx,h⟩
    ·exact ⟨_,_,_,_,_,Ahw hc t y z ho e es by_ hE k k' _ hy hz h0 h1 h2 x hx,h⟩
   ·exact h.elim
  ·exact h.elim
 ·rename_i t parts ho
  obtain ⟨h0,h⟩:=h
  split at h
  ·rename_i cs hb; exact ⟨_,_,_,_,_,AnV hc t parts ho h0 cs hb,h⟩
  ·exact h.elim
 ·rename_i src dst y ho
  split at h
  ·rename_i k n hy
   obtain ⟨h0,h⟩:=h
   split at h
   ·rename_i k' hk; exact ⟨_,_,_,_,_,AkP hc src dst y ho k k' n hy h0 (Amj hk),h⟩
   ·exact h.elim
  ·rename_i b hy
   obtain ⟨h0,h1,h2,h⟩:=h
   obtain ⟨e,he,he2⟩:=AgY h1
   split at h2
   ·rename_i e' es by_ hE
    subst h2
    obtain ⟨i,hu,_⟩:=AbT hE
    rw [he] at hu
    simp only [Option.some.injEq,Go.TypeDesc.slice.injEq] at hu
    subst hu
    split at h
    ·exact ⟨_,_,_,_,_,AjR hc src dst e by_ y ho (Adj h0) hE he2 b hy,h⟩
    ·exact ⟨_,_,_,_,_,AkQ hc src dst e by_ y ho (Adj h0) hE he2 b hy,h⟩
   ·exact h2.elim
  ·rename_i id off es len full hy
   rcases h with ⟨rfl,rfl,h1,h⟩ | ⟨h0,h1,h⟩
   ·obtain ⟨e,he,he2⟩:=AgY h1
    obtain ⟨hid,obj,cs,hob,hcs,hne,h⟩:=Abx h
    exact ⟨_,_,_,_,_,AkO hc src e y ho he he2 id off len full hy hid obj hob (AcR hcs hne) cs hcs,h⟩
   ·obtain ⟨e,he,he2⟩:=AgY h0
    obtain ⟨ys,T,k1,k2,⟨k3,k4⟩,k5⟩:=Adq h
    exact ⟨_,_,_,_,_,Aig hc src dst e y ho he he2 (Adj h1) ys T (by rw [hy]; exact k1) (fun b hb=>by rw [hy] at hb; cases hb) k3 k2,k4⟩
  ·rename_i hn1 hn2 hn3
   obtain ⟨h0,h1,h⟩:=h
   obtain ⟨e,he,he2⟩:=AgY h0
   obtain ⟨ys,T,k1,k2,⟨k3,k4⟩,k5⟩:=Adq h
   exact ⟨_,_,_,_,_,Aig hc src dst e y ho he he2 (Adj h1) ys T k1 (fun b hb=>hn2 b hb) k3 k2,k4⟩
 ·rename_i t y f ho
  split at h
  ·rename_i cs hy
   split at h
   ·rename_i x hx; exact ⟨_,_,_,_,_,AnS hc t y f ho cs hy x hx,h⟩
   ·exact h.elim
  ·exact h.elim
 ·rename_i t ho; exact ⟨_,_,_,_,_,AlQ t ho,h⟩
 ·rename_i t y ho
  split at h
  ·rename_i b hy; exact ⟨_,_,_,_,_,AnO hc t y ho b hy (Adj h.1),h.2⟩
  ·exact h.elim
 ·rename_i y ho
  split at h
  ·rename_i id hy
   obtain ⟨hid,h⟩:=h
   split at h
   ·rename_i b p hob
    split at h
    ·rename_i hp; exact ⟨_,_,_,_,_,Aos hc y ho id hy hid b p hob hp h.1,h.2⟩
    ·rename_i hp; exact ⟨_,_,_,_,_,AkJ hc y ho id hy hid b p hob hp,h⟩
   ·exact h.elim
  ·exact h.elim
 ·rename_i t y z ok ho
  split at h
  ·rename_i id hy
   obtain ⟨hid,h⟩:=h
   split at h
   ·rename_i es kd zv hob ht
    refine ⟨_,_,_,_,_,AmZ hc t y z ok ho id hy hid es hob kd zv ht h.1 h.2.1,?_⟩
    have h:=h.2.2
    cases ok
    ·simpa [Akf] using h
    ·simpa [Akf] using h
   ·exact h.elim
  ·exact h.elim
 ·rename_i t y z v ho
  split at h
  ·rename_i id hy
   obtain ⟨hid,h⟩:=h
   split at h
   ·rename_i es kd zv hob ht
    exact ⟨_,_,_,_,_,AgQ hc t y z v (.inl ho) id hy hid es hob kd zv ht h.1 h.2.1,h.2.2⟩
   ·exact h.elim
  ·exact h.elim
 ·rename_i t y z v ho
  split at h
  ·rename_i id hy
   obtain ⟨hid,h⟩:=h
   split at h
   ·rename_i es kd zv hob ht
    exact ⟨_,_,_,_,_,AgQ hc t y z v (.inr ho) id hy hid es hob kd zv ht h.1 h.2.1,h.2.2⟩
   ·exact h.elim
  ·exact h.elim
 ·rename_i c ho
  split at h
  ·rename_i b hb
   exact Ajn hc _ b c.args c.argTypes (by rw [ho]; cases c; simp_all) h
  ·rename_i g hg
   split at h
   ·rename_i f caps hf
    obtain ⟨x,H',N',T,W,h1,h2⟩:=h
    exact ⟨x,H',N',T,W,h1 o s g c.args c.argTypes caps hc (by rw [ho]; cases c; simp_all) hf rfl,h2⟩
   ·exact h.elim
  ·exact h.elim
 ·exact h.elim
def oCs (o : Option Aah) : Option (Aah×List AV):=o.bind fun o=>o.cs?.map fun cs=>(o,cs)
@[simp] theorem AsG (cs : List AV) : oCs (some (.cells cs))=some (.cells cs,cs):=rfl
@[simp] theorem AtT (cs : List AV) : oCs (some (.grow cs))=some (.grow cs,cs):=rfl
theorem AcM {H : Aai} {N id : Nat} {o : Aah} {cs : List AV} (h : oCs (H id)=some (o,cs)) {k : Aah→List AV→Prop} (hN : id<N) (hk : k o cs) : Aea H N id k:=by
 unfold oCs at h
 cases hh : H id with
 | none=>simp [hh] at h
 | some o' =>
  simp only [hh,Option.bind_some,Option.map_eq_some_iff,Prod.mk.injEq] at h
  obtain ⟨cs',h1,rfl,rfl⟩:=h
  refine ⟨hN,?_⟩
  simp only [hh,h1]; exact hk
def Aq3 (K : CK) (H : Aai) (N : Nat) (x y : AV) : AV→Prop
 | .bool b=>K (AkI b x y) H N [] []
 | _=>False
def An6 (K : CK) (H : Aai) (N : Nat) (T : List Nat) : Option AV→Prop
 | some r=>K r H N T []
 | none=>False
def AoC (P : Program) (t : TypeId) (K : CK) (H : Aai) (N id off : Nat) : Option (Aah×List AV)→Prop
 | some (_,cs)=>id<N∧An6 K H N [id] (Aeu P t (cs.drop off))
 | none=>False
def Aq6 (P : Program) (t : TypeId) (K : CK) (H : Aai) (N : Nat) : AV→Prop
 | .cptr cs=>An6 K H N [] (Aeu P t cs)
 | .ptr id off=>AoC P t K H N id off (oCs (H id))
 | _=>False
def Alp (P : Program) (t : TypeId) (z : AV) (K : CK) (H : Aai) (N id off : Nat) : Option (Aah×List AV)→Prop
 | some (obj,cs)=>id<N∧cs≠[]∧z.fits P t=true∧off+z.cells.length≤cs.length∧K .skip (upd H id (some (obj.with (setR cs off z.cells)))) N [id] [id]
 | none=>False
def An2 (P : Program) (t : TypeId) (z : AV) (K : CK) (H : Aai) (N : Nat) : AV→Prop
 | .ptr id off=>Alp P t z K H N id off (oCs (H id))
 | _=>False
def AoK (K : CK) (H : Aai) (N : Nat) : Option (List AV)→Prop
 | some z=>K (.ptr N 0) (upd H N (some (.cells z))) (N+1) [] [N]
 | none=>False
def Agi (x : AV) (K : CK) (H : Aai) (N id : Nat) : Option (Aah×List AV)→Prop
 | some (_,cs)=>id<N∧cs≠[]∧K x H N [id] []
 | none=>False
def AoE (K : CK) (H : Aai) (N : Nat) : Option Nat→AV→Prop
 | some d,.cptr cs=>K (.cptr (cs.drop d)) H N [] []
 | some d,.ptr id off=>Agi (.ptr id (off+d)) K H N id (oCs (H id))
 | _,_=>False
def AuY (K : CK) (H : Aai) (N : Nat) : AV→Prop
 | .cptr cs=>K (.cptr cs) H N [] []
 | .fn f cs=>K (.fn f cs) H N [] []
 | .ptr id off=>Agi (.ptr id off) K H N id (oCs (H id))
 | _=>False
def Aua (P : Program) (t : TypeId) (K : CK) (H : Aai) (N : Nat) : AV→AV→Option (TypeId×Nat×Nat)→Option (Nat×Nat)→Prop
 | .lst _ _ xs,.int _ i,some (_,es,_),_=>0≤i∧i.toNat<xs.length∧((xs[i.toNat]?).getD .undef).okc=true∧((xs[i.toNat]?).getD .undef).cells.length=es∧K (.cptr ((xs[i.toNat]?).getD .undef).cells) H N [] []
 | .slc id off es len _,.int _ i,some (_,es',_),_=>es'=es∧0≤i∧i.toNat<len∧Agi (.ptr id (off+i.toNat*es)) K H N id (oCs (H id))
 | .cptr cs,.int _ i,_,some (m,es)=>0≤i∧i<m∧K (.cptr (cs.drop (i.toNat*es))) H N [] []
 | .ptr id off,.int _ i,_,some (m,es)=>0≤i∧i<m∧Agi (.ptr id (off+i.toNat*es)) K H N id (oCs (H id))
 | _,_,_,_=>False
def AoD (P : Program) (t : TypeId) (K : CK) (H : Aai) (N : Nat) : AV→AV→Option (Nat×Abo)→Prop
 | .str b,.int _ i,_=>Akg P t=true∧0≤i∧i.toNat<b.size∧K (.int .u8 (b.data.toList.getD i.toNat 0).toNat) H N [] []
 | .agg xs,.int _ i,some (m,_)=>0≤i∧i<m∧i.toNat<xs.length∧K ((xs[i.toNat]?).getD .undef) H N [] []
 | _,_,_=>False
def Ajq (i : Nat) (K : CK) (H : Aai) (N : Nat) : AV→Prop
 | .tup xs=>An6 K H N [] xs[i]?
 | _=>False
def ApM (s : Nat→AV) : Option Operand→Prop
 | none=>True
 | some y=>match ev s y with
  | .int _ n=>0≤n
  | _=>False
def AiY (s : Nat→AV) (d : Nat) : Option Operand→Nat
 | none=>d
 | some y=>match ev s y with
  | .int _ n=>n.toNat
  | _=>0
theorem AhC {s : Nat→AV} {d : Nat} {x : Option Operand} {k : Nat→Prop} (h : ApM s x) (hk : k (AiY s d x)) : bnd s d x k:=by
 unfold ApM at h; unfold AiY at hk; unfold bnd
 cases x with
 | none=>exact hk
 | some y =>
  simp only [] at h hk ⊢
  split at h
  ·rename_i hy; simp only [hy] at hk ⊢; exact ⟨h,hk⟩
  ·exact h.elim
def An4 (s : Nat→AV) (l h m : Option Operand) (K : CK) (H : Aai) (N id off es len : Nat) (full : Bool) : Option (Aah×List AV)→Prop
 | some (_,cs)=>id<N∧cs≠[]∧ApM s l∧ApM s h∧(m=none∨(h.isSome=true∧AcJ s 0 m=some (AiY s len h)))∧AiY s 0 l≤AiY s len h∧AiY s len h≤len ∧
  K (.slc id (off+AiY s 0 l*es) es (AiY s len h-AiY s 0 l) (m.isSome||(full&&h.isNone))) H N [id] []
 | none=>False
def An3 (P : Program) (t : TypeId) (s : Nat→AV) (l h m : Option Operand) (K : CK) (H : Aai) (N : Nat) : AV→Option (TypeId×Nat×Nat)→Prop
 | .lst nl fl xs,some (_,es,_)=>okEls es xs∧ApM s l∧ApM s h∧(m=none∨(h.isSome=true∧AcJ s 0 m=some (AiY s xs.length h)))∧AiY s 0 l≤AiY s xs.length h∧AiY s xs.length h≤xs.length ∧
  K (.lst nl (m.isSome||(fl&&h.isNone)) ((xs.take (AiY s xs.length h)).drop (AiY s 0 l))) H N [] []
 | .str b,_=>Akg P t=true∧m=none∧ApM s l∧ApM s h∧AiY s 0 l≤AiY s b.size h∧AiY s b.size h≤b.size∧K (.str (b.extract (AiY s 0 l) (AiY s b.size h))) H N [] []
 | .slc id off es len full,some (_,es',_)=>es'=es∧An4 s l h m K H N id off es len full (oCs (H id))
 | .rm (.slc id off es len full),some (_,es',_)=>es'=es∧An4 s l h m K H N id off es len full (oCs (H id))
 | _,_=>False
def AoA (K : CK) (H : Aai) (N : Nat) (x : AV) (y : List AV) (o : Aah) : Bool→Prop
 | true=>K x (upd H N (some o)) (N+1) [] [N]
 | false=>K (.lst false true y) H N [] []
def AuZ (s : Nat→AV) (n : Nat) (parts : List (Nat×Operand)) (mu : Bool) (K : CK) (H : Aai) (N : Nat) : Option (TypeId×Nat×Nat)→Prop
 | some (_,es,_)=>Agd 0 parts=true∧parts.length=n∧okEls es (parts.map fun p=>ev s p.2)∧n*es≤16777216∧0<es ∧
  AoA K H N (.slc N 0 es n true) (parts.map fun p=>ev s p.2) (.cells (AaO (parts.map fun p=>ev s p.2))) mu
 | none=>False
def An9 (P : Program) (mu : Bool) (K : CK) (H : Aai) (N : Nat) : AV→AV→Option (TypeId×Nat×Nat)→Prop
 | .int _ m,.int _ m',some (e,es,by_)=>m'=m∧0≤m∧by_*m.toNat≤281474976710656∧m.toNat≤maxLen∧(Abq P e).isSome=true ∧
  AoA K H N (.slc N 0 es m.toNat true) (List.replicate m.toNat ((Abq P e).getD .undef)) (.cells (AaO (List.replicate m.toNat ((Abq P e).getD .undef)))) mu
 | _,_,_=>False
def AoJ (K : CK) (H : Aai) (N : Nat) : Option (List AV)→Prop
 | some cs=>K (.agg cs) H N [] []
 | none=>False
def AoI (n : Int) (K : CK) (H : Aai) (N : Nat) : Option IntKind→Prop
 | some k'=>K (.int k' (k'.wrap n)) H N [] []
 | none=>False
def Auc : Option (TypeId×Nat×Nat)→Prop
 | some (_,es,_)=>es=1
 | none=>False
def AtE (n : Nat) : Option (Aah×List AV)→Prop
 | some (_,cs)=>n≤cs.length
 | none=>False
theorem Amz {n : Nat} {x : Option (Aah×List AV)} (h : AtE n x) : ∃ o cs,x=some (o,cs)∧n≤cs.length:=by
 unfold AtE at h; split at h
 ·exact ⟨_,_,rfl,h⟩
 ·exact h.elim
def Am0 (H : Aai) (N : Nat) : AV→Prop
 | .lst _ _ _ | .str _=>True
 | .slc id off es len _=>es=1∧id<N∧AtE (off+len) (oCs (H id))
 | _=>False
def Aj7 : AV→List Nat
 | .slc id _ _ _ _=>[id]
 | _=>[]
def AeY (H : Aai) : AV→List AV
 | .lst _ _ ys=>ys
 | .str b=>bytes b.data.toList
 | .slc id off _ len _=>(((oCs (H id)).map (·.2)).getD []).drop off |>.take len
 | _=>[]
theorem AfU {H : Aai} {N : Nat} {X : AV} {k : List AV→List Nat→Prop} (h : Am0 H N X) (hk : k (AeY H X) (Aj7 X)) : Ams H N X k:=by
 unfold Am0 at h
 split at h
 ·exact hk
 ·exact hk
 ·rename_i id off es len f
  obtain ⟨rfl,h1,hq⟩:=h
  obtain ⟨o,cs,h2,h3⟩:=Amz hq
  simp only [AeY,h2,Option.map_some,Option.getD_some,Aj7] at hk
  unfold oCs at h2
  cases hh : H id with
  | none=>simp [hh] at h2
  | some o' =>
   simp only [hh,Option.bind_some,Option.map_eq_some_iff,Prod.mk.injEq] at h2
   obtain ⟨cs',q1,rfl,rfl⟩:=h2
   simp only [Ams,hh,q1]
   exact ⟨trivial,h1,h3,hk⟩
 ·exact h.elim
def AoF (K : CK) (H : Aai) (N : Nat) (b : ByteArray) : Bool→Prop
 | true=>K (.slc N 0 1 b.size false) (upd H N (some (.cells (bytes b.data.toList)))) (N+1) [] [N]
 | false=>K (.lst false false (bytes b.data.toList)) H N [] []
def AoH (P : Program) (src : TypeId) (K : CK) (H : Aai) (N id off es len : Nat) (full : Bool) : Option (Aah×List AV)→Prop
 | some (obj,cs)=>id<N∧cs≠[]∧es=1∧AoV P src=true∧K (.slc id off es len full) (upd H id (some obj)) N [id] [id]
 | none=>False
def AoG (P : Program) (src dst : TypeId) (K : CK) (H : Aai) (N id off es len : Nat) (full : Bool) : Bool→Prop
 | true=>src=dst∧AoH P src K H N id off es len full (oCs (H id))
 | false=>AoV P src=true∧Akg P dst=true∧Am0 H N (.slc id off es len full)∧Aes (AeY H (.slc id off es len full))=true∧K (.str (sOf (AeY H (.slc id off es len full)))) H N (Aj7 (.slc id off es len full)) []
def Aq7 (P : Program) (mu : Bool) (src dst : TypeId) (K : CK) (H : Aai) (N : Nat) : AV→Prop
 | .int _ n=>(P.underlying src).isSome=true∧AoI n K H N (Akh P dst)
 | .str b=>Akg P src=true∧AoV P dst=true∧Auc (Aaz P dst)∧AoF K H N b mu
 | .slc id off es len full=>AoG P src dst K H N id off es len full (decide (src=dst))
 | X=>AoV P src=true∧Akg P dst=true∧Am0 H N X∧Aes (AeY H X)=true∧K (.str (sOf (AeY H X))) H N (Aj7 X) []
def Auh (K : CK) (H : Aai) (N : Nat) (nl : Bool) (ys : List AV) (z : AV) : Option (TypeId×Nat×Nat)→Prop
 | some (_,es,by_)=>okEls es ys∧Am0 H N z∧okEls es (AeY H z)∧(Aj7 z≠[]→(AeY H z).all AV.one=true)∧ys.length+(AeY H z).length≤maxLen∧(ys.length+(AeY H z).length)*by_≤140737488355328 ∧
  K (.lst (nl&&(AeY H z).isEmpty) false (ys++AeY H z)) H N (Aj7 z) []
 | none=>False
def ArB (K : CK) (H : Aai) (N id off es len : Nat) (z : AV) : Option (TypeId×Nat×Nat)→Option (Aah×List AV)→Prop
 | some (_,es',by_),some (obj,cs)=>id<N∧es'=es∧0<es∧off+len*es=cs.length∧(off=0∨∃ x,obj = .cells x)∧cs.all AV.one=true∧Am0 H N z∧okEls es (AeY H z)∧(Aj7 z≠[]→(AeY H z).all AV.one=true) ∧
  len+(AeY H z).length≤maxLen∧(len+(AeY H z).length)*by_≤140737488355328 ∧
  K (.slc N 0 es (len+(AeY H z).length) false) (upd (upd H id none) N (some (obj.with (cs.drop off++AaO (AeY H z))))) (N+1) (id::Aj7 z) [id,N]
 | _,_=>False
def ArA (K : CK) (H : Aai) (N id off es len : Nat) (z : AV) : Option (TypeId×Nat×Nat)→Option (Aah×List AV)→Prop
 | some (_,es',_),some (obj,cs)=>id<N∧es'=es∧cs≠[]∧off+len*es=cs.length∧Am0 H N z∧(AeY H z).length=1∧okEls es (AeY H z)∧(Aj7 z≠[]→(AeY H z).all AV.one=true) ∧
  K (.slc id off es (len+(AeY H z).length) false) (upd H id (some (obj.with (cs++AaO (AeY H z))))) N (id::Aj7 z) [id]
 | _,_=>False
def ApN (K : CK) (H : Aai) (N : Nat) (z : AV) : Option (TypeId×Nat×Nat)→Prop
 | some (_,es,by_)=>0<es∧Am0 H N z∧okEls es (AeY H z)∧(Aj7 z≠[]→(AeY H z).all AV.one=true)∧(AeY H z).length≤maxLen∧(AeY H z).length*by_≤140737488355328 ∧
  K (.slc N 0 es (AeY H z).length false) (upd H N (some (.grow (AaO (AeY H z))))) (N+1) (Aj7 z) [N]
 | none=>False
def ApO (K : CK) (H : Aai) (N : Nat) (ys : List AV) (z : AV) : Option (TypeId×Nat×Nat)→Prop
 | some (_,es,by_)=>0<es∧okEls es ys∧Am0 H N z∧AeY H z≠[]∧okEls es (AeY H z)∧(Aj7 z≠[]→(AeY H z).all AV.one=true)∧ys.length+(AeY H z).length≤maxLen∧(ys.length+(AeY H z).length)*by_≤140737488355328 ∧
  K (.slc N 0 es (ys.length+(AeY H z).length) false) (upd H N (some (.grow (AaO (ys++AeY H z))))) (N+1) (Aj7 z) [N]
 | none=>False
def Au5 (mu : List Nat) (d : Option Nat) : Bool:=match d with | some d=>mu.contains (d+1000000) | none=>false
def ArC (K : CK) (H : Aai) (N : Nat) (nl fl : Bool) (ys : List AV) (z : AV) (e : Option (TypeId×Nat×Nat)) : Bool→Prop
 | true=>fl=true∧nl=false∧ApO K H N ys z e
 | false=>(nl=true∨(fl=true∧ys = []))∧ApN K H N z e
def ArD (mf : Bool) (K : CK) (H : Aai) (N : Nat) (nl fl : Bool) (ys : List AV) (z : AV) (e : Option (TypeId×Nat×Nat)) : Bool→Prop
 | true=>ArC K H N nl fl ys z e mf
 | false=>(fl=true∨nl=true)∧Auh K H N nl ys z e
def oMp : Option Aah→Option (List (AV×AV))
 | some (.mp es)=>some es
 | _=>none
@[simp] theorem Auw (es : List (AV×AV)) : oMp (some (.mp es))=some es:=rfl
theorem AhR {o : Option Aah} {es : List (AV×AV)} (h : oMp o=some es) : o=some (.mp es):=by
 unfold oMp at h; split at h
 ·simp only [Option.some.injEq] at h; rw [h]
 ·cases h
def Aq8 (K : CK) (H : Aai) (N id off es len : Nat) (obj : Aah) (cs : List AV) : Option AV→Prop
 | some x=>cs≠[]∧off+len*es≤cs.length∧x.cells.length=es∧x.cells.all AV.one=true∧K (.tup []) (upd H id (some (obj.with (setR cs off (AaO (List.replicate len x)))))) N [id] [id]
 | none=>False
def Auf (P : Program) (K : CK) (H : Aai) (N id off es len : Nat) : Option (TypeId×Nat×Nat)→Option (Aah×List AV)→Prop
 | some (e,es',_),some (obj,cs)=>id<N∧es'=es∧Aq8 K H N id off es len obj cs (Abq P e)
 | _,_=>False
def Aue (K : CK) (H : Aai) (N id off es len : Nat) (z : AV) : Option (TypeId×Nat×Nat)→Option (Aah×List AV)→Prop
 | some (_,es',_),some (obj,cs)=>id<N∧es'=es∧cs≠[]∧off+len*es≤cs.length∧Am0 H N z∧okEls es (AeY H z)∧(Aj7 z≠[]→(AeY H z).all AV.one=true)∧(AeY H z).length≤len ∧
  K (.int .i64 (AeY H z).length) (upd H id (some (obj.with (setR cs off (AaO (AeY H z)))))) N (id::Aj7 z) [id]
 | _,_=>False
def Aud (K : CK) (H : Aai) (N id : Nat) (z : AV) : Option (List (AV×AV))→Option (Abo×AV)→Prop
 | some es,some (kd,_)=>id<N∧kd.has z=true∧(es.all fun p=>kd.has p.1)=true∧K (.tup []) (upd H id (some (.mp (AjU es z)))) N [id] [id]
 | _,_=>False
def Ajr (P : Program) (mu mf : Bool) (K : CK) (H : Aai) (N : Nat) : Builtin→List TypeId→List AV→Prop
 | .len,[t],[.lst _ _ ys]=>Alh P t=true∧K (.int .i64 ys.length) H N [] []
 | .len,[t],[.str b]=>Akg P t=true∧K (.int .i64 b.size) H N [] []
 | .len,[t],[.slc id _ _ len _]=>Alh P t=true∧id<N∧(∃ o,H id=some o)∧K (.int .i64 len) H N [id] []
 | .len,[t],[.rm (.slc id _ _ len _)]=>Alh P t=true∧id<N∧(∃ o,H id=some o)∧K (.int .i64 len) H N [id] []
 | .max,_,[.int k a,.int k' b]=>k=k'∧K (AsT k a b) H N [] []
 | .min,_,[.int k a,.int k' b]=>k=k'∧K (AsS k a b) H N [] []
 | .append,[t,t'],[.lst nl fl ys,z]=>Acg P t'=true∧ArD mf K H N nl fl ys z (Aaz P t) mu
 | .append,[t,t'],[.slc id off es len _,z]=>Acg P t'=true∧ArB K H N id off es len z (Aaz P t) (oCs (H id))
 | .append,[t,t'],[.rm (.slc id off es len _),z]=>Acg P t'=true∧ArA K H N id off es len z (Aaz P t) (oCs (H id))
 | .clear,[t],[.slc id off es len _]=>Auf P K H N id off es len (Aaz P t) (oCs (H id))
 | .copy,[t,_],[.slc id off es len _,z]=>Aue K H N id off es len (Akv len z) (Aaz P t) (oCs (H id))
 | .delete,[t,_],[.map id,z]=>Aud K H N id z (oMp (H id)) (Aez P t)
 | _,_,_=>False
def Aq9 (P : Program) (args : List AV) (K : CK) (H : Aai) (N : Nat) : AV→Prop
 | .fn f caps=>Alr P f (args++caps) H N K
 | _=>False
def Aug (op : BinOp) (x y : AV) (K : CK) (H : Aai) (N : Nat) : Option AV→Prop
 | some r=>AhL op x y∧K r H N [] []
 | none=>False
def Alq (K : CK) (H : Aai) (N : Nat) (q : Option (Nat×Option Nat)) : AV→Prop
 | .agg cs=>An6 K H N [] (AiR cs q)
 | _=>False
def AoB (K : CK) (H : Aai) (N id : Nat) (z : AV) (ok : Bool) : Option (List (AV×AV))→Option (Abo×AV)→Prop
 | some es,some (kd,zv)=>id<N∧kd.has z=true∧(es.all fun p=>kd.has p.1)=true∧K (Akf zv (Af2 es z) ok) H N [id] []
 | _,_=>False
def Aq5 (K : CK) (H : Aai) (N : Nat) (z : AV) (ok : Bool) (q : Option (Abo×AV)) : AV→Prop
 | .map id=>AoB K H N id z ok (oMp (H id)) q
 | _=>False
def Ajp (K : CK) (H : Aai) (N id : Nat) (z v : AV) : Option (List (AV×AV))→Option (Abo×AV)→Prop
 | some es,some (kd,_)=>id<N∧kd.has z=true∧(es.all fun p=>kd.has p.1)=true∧K .skip (upd H id (some (.mp (Ack es z v)))) N [id] [id]
 | _,_=>False
def Ak1 (K : CK) (H : Aai) (N : Nat) (z v : AV) (q : Option (Abo×AV)) : AV→Prop
 | .map id=>Ajp K H N id z v (oMp (H id)) q
 | _=>False
def An5 (P : Program) (t : TypeId) (K : CK) (H : Aai) (N : Nat) : AV→Prop
 | .str b=>Akg P t=true∧K (.ptr N 0) (upd H N (some (.it b 0))) (N+1) [] [N]
 | _=>False
def oIt : Option Aah→Option (ByteArray×Nat)
 | some (.it b p)=>some (b,p)
 | _=>none
@[simp] theorem Aux (b : ByteArray) (p : Nat) : oIt (some (.it b p))=some (b,p):=rfl
theorem Aox {o : Option Aah} {b : ByteArray} {p : Nat} (h : oIt o=some (b,p)) : o=some (.it b p):=by
 unfold oIt at h; split at h
 ·simp only [Option.some.injEq,Prod.mk.injEq] at h; rw [h.1,h.2]
 ·cases h
def An8 (K : CK) (H : Aai) (N id : Nat) (b : ByteArray) (p : Nat) : Option UInt8→Prop
 | some x=>x.toNat<128∧K (.tup [.bool true,.int .i64 p,.int .i32 x.toNat]) (upd H id (some (.it b (p+1)))) N [id] [id]
 | none=>K (.tup [.bool false]) H N [id] []
def An7 (K : CK) (H : Aai) (N id : Nat) : Option (ByteArray×Nat)→Prop
 | some (b,p)=>id<N∧An8 K H N id b p (b.data[p]?)
 | none=>False
def Aq4 (K : CK) (H : Aai) (N : Nat) : AV→Prop
 | .ptr id 0=>An7 K H N id (oIt (H id))
 | _=>False
def bop (P : Program) (mu : List Nat) (d : Option Nat) (s : Nat→AV) (H : Aai) (N : Nat) (K : CK) : Op→Prop
 | .move y=>K (ev s y) H N [] []
 | .assign y=>K (ev s y) H N [] []
 | .pick t x y=>Aq3 K H N (ev s x) (ev s y) (ev s t)
 | .binOp op xt x y _=>Aug op (ev s x) (ev s y) K H N (As7 P op xt (ev s x) (ev s y))
 | .unOp op _ x=>An6 K H N [] (aun op (ev s x))
 | .load t y=>Aq6 P t K H N (ev s y)
 | .store t y z=>An2 P t (ev s z) K H N (ev s y)
 | .box t y=>(ev s y).fits P t=true∧K (.ptr N 0) (upd H N (some (.cells (ev s y).cells))) (N+1) [] [N]
 | .alloc t=>AoK K H N (Ab1 P t)
 | .fieldAddr t y f=>AoE K H N (AcD P t f) (ev s y)
 | .nilCheck y=>AuY K H N (ev s y)
 | .indexAddr t y z=>Aua P t K H N (ev s y) (ev s z) (Aaz P t) (AfQ P t)
 | .index t y z=>AoD P t K H N (ev s y) (ev s z) (ApQ P t)
 | .extract y i=>Ajq i K H N (ev s y)
 | .makeFunc (.func f) first caps=>first.size=0∧K (.fn f (caps.toList.map (ev s))) H N [] []
 | .slice t y l h m=>An3 P t s l h m K H N (ev s y) (Aaz P t)
 | .buildSlice t n parts=>AuZ s n parts.toList (Ao7 mu d) K H N (Aaz P t)
 | .makeSlice t y z=>An9 P (Ao7 mu d) K H N (ev s y) (ev s z) (Aaz P t)
 | .build t parts=>Acr P t=true∧AoJ K H N (Ak5 P t (parts.toList.map fun p=>(p.1,ev s p.2)))
 | .convert src dst y=>Aq7 P (Ao7 mu d) src dst K H N (ev s y)
 | .field t y f=>Alq K H N (AcK P t f) (ev s y)
 | .makeMap _ none=>K (.map N) (upd H N (some (.mp []))) (N+1) [] [N]
 | .range t y=>An5 P t K H N (ev s y)
 | .next y true=>Aq4 K H N (ev s y)
 | .lookup t y z ok=>Aq5 K H N (ev s z) ok (Aez P t) (ev s y)
 | .mapUpdate t y z v=>Ak1 K H N (ev s z) (ev s v) (Aez P t) (ev s y)
 | .insert t y z v=>Ak1 K H N (ev s z) (ev s v) (Aez P t) (ev s y)
 | .call { callee := .builtin b,args:=as,argTypes:=ts } => Ajr P (Ao7 mu d) (Au5 mu d) K H N b ts.toList (as.toList.map (ev s))
 | .call { callee := .value g,args:=as,argTypes:=_ } => Aq9 P (as.toList.map (ev s)) K H N (ev s g)
 | _=>False
theorem Aq2 (h : bop P mu o.dst s H N K o.op) : aop P mu o s H N K:=by
 generalize ho : o.op=p at h
 unfold aop
 rw [ho]
 unfold bop at h
 split at h
 ·exact h
 ·exact h
 ·unfold Aq3 at h; split at h
  ·rename_i hh; simp only [hh]; exact h
  ·exact h.elim
 ·unfold Aug at h; split at h
  ·rename_i hh; simp only [hh]; exact h
  ·exact h.elim
 ·unfold An6 at h; split at h
  ·rename_i hh; simp only [hh]; exact h
  ·exact h.elim
 ·unfold Aq6 at h; split at h
  ·rename_i hh; simp only [hh]
   unfold An6 at h; split at h
   ·rename_i h2; simp only [h2]; exact h
   ·exact h.elim
  ·rename_i hh; simp only [hh]
   unfold AoC at h; split at h
   ·rename_i h2
    refine AcM h2 h.1 ?_
    have h3:=h.2
    unfold An6 at h3; split at h3
    ·rename_i h4; simp only [h4]; exact h3
    ·exact h3.elim
   ·exact h.elim
  ·exact h.elim
 ·unfold An2 at h; split at h
  ·rename_i hh; simp only [hh]
   unfold Alp at h; split at h
   ·rename_i h2; exact AcM h2 h.1 h.2
   ·exact h.elim
  ·exact h.elim
 ·exact h
 ·unfold AoK at h; split at h
  ·rename_i hh; simp only [hh]; exact h
  ·exact h.elim
 ·unfold AoE at h; split at h
  ·rename_i h1 h2; simp only [h1,h2]; exact h
  ·rename_i h1 h2; simp only [h1,h2]
   unfold Agi at h; split at h
   ·rename_i h3; exact AcM h3 h.1 h.2
   ·exact h.elim
  ·exact h.elim
 ·unfold AuY at h; split at h
  ·rename_i h1; simp only [h1]; exact h
  ·rename_i h1; simp only [h1]; exact h
  ·rename_i h1; simp only [h1]
   unfold Agi at h; split at h
   ·rename_i h3; exact AcM h3 h.1 h.2
   ·exact h.elim
  ·exact h.elim
 ·simp only []
  unfold Auo
  unfold Aua at h; split at h
  ·rename_i h1 h2 h3; simp only [h1,h2,h3]; exact h
  ·rename_i h1 h2 h3; simp only [h1,h2,h3]
   obtain ⟨q1,q2,q3,h⟩:=h
   unfold Agi at h; split at h
   ·rename_i h4; exact AcM h4 h.1 ⟨h.2.1,q1,q2,q3,h.2.2⟩
   ·exact h.elim
  ·rename_i h1 h2 h3; simp only [h1,h2,h3]; exact h
  ·rename_i h1 h2 h3; simp only [h1,h2,h3]
   obtain ⟨q2,q3,h⟩:=h
   unfold Agi at h; split at h
   ·rename_i h4; exact AcM h4 h.1 ⟨h.2.1,q2,q3,h.2.2⟩
   ·exact h.elim
  ·exact h.elim
 ·unfold AoD at h; split at h
  ·rename_i h1 h2; simp only [h1,h2]; exact h
  ·rename_i h1 h2 h3; simp only [h1,h2,h3]; exact h
  ·exact h.elim
 ·unfold Ajq at h; split at h
  ·rename_i h1; simp only [h1]
   unfold An6 at h; split at h
   ·rename_i h2; simp only [h2]; exact h
   ·exact h.elim
  ·exact h.elim
 ·exact h
 ·unfold An3 at h; split at h
  ·rename_i h1 h2; simp only [h1,h2]
   obtain ⟨q1,q2,q3,q4,q5,q6,h⟩:=h
   exact ⟨q1,AhC q2 (AhC q3 ⟨q4,q5,q6,h⟩)⟩
  ·rename_i h1; simp only [h1]
   obtain ⟨q0,q1,q2,q3,q5,q6,h⟩:=h
   exact ⟨q0,q1,AhC q2 (AhC q3 ⟨q5,q6,h⟩)⟩
  ·rename_i h1 h2; simp only [h1,h2]
   obtain ⟨q1,h⟩:=h
   unfold An4 at h; split at h
   ·rename_i h3
    obtain ⟨q2,q3,q4,q5,q6,q7,q8,h⟩:=h
    exact AcM h3 q2 ⟨q3,q1,AhC q4 (AhC q5 ⟨q6,q7,q8,h⟩)⟩
   ·exact h.elim
  ·rename_i h1 h2; simp only [h1,h2]
   obtain ⟨q1,h⟩:=h
   unfold An4 at h; split at h
   ·rename_i h3
    obtain ⟨q2,q3,q4,q5,q6,q7,q8,h⟩:=h
    exact AcM h3 q2 ⟨q3,q1,AhC q4 (AhC q5 ⟨q6,q7,q8,h⟩)⟩
   ·exact h.elim
  ·exact h.elim
 ·unfold AuZ at h; split at h
  ·rename_i h1; simp only [h1]
   obtain ⟨q1,q2,q3,q4,q5,h⟩:=h
   refine ⟨q1,by simpa using q2,q3,q4,q5,?_⟩
   unfold AoA at h
   split at h
   ·rename_i h2; simp only [h2,if_true]; exact h
   ·rename_i h2; simp only [h2,Bool.false_eq_true,if_false]; exact h
  ·exact h.elim
 ·unfold An9 at h; split at h
  ·rename_i h1 h2 h3; simp only [h1,h2,h3]
   obtain ⟨q1,q2,q3,q4,q5,h⟩:=h
   obtain ⟨x,hx⟩:=Option.isSome_iff_exists.1 q5
   simp only [hx,Option.getD_some] at h ⊢
   refine ⟨q1,q2,q3,q4,?_⟩
   unfold AoA at h
   split at h
   ·rename_i h2; simp only [h2,if_true]; exact h
   ·rename_i h2; simp only [h2,Bool.false_eq_true,if_false]; exact h
  ·exact h.elim
 ·refine ⟨h.1,?_⟩
  have h2:=h.2
  unfold AoJ at h2; split at h2
  ·rename_i h3; simp only [h3]; exact h2
  ·exact h2.elim
 ·unfold Aq7 at h; split at h
  ·rename_i h1; simp only [h1]
   refine ⟨h.1,?_⟩
   have h2:=h.2
   unfold AoI at h2; split at h2
   ·rename_i h3; simp only [h3]; exact h2
   ·exact h2.elim
  ·rename_i h1; simp only [h1]
   obtain ⟨q1,q2,q3,h⟩:=h
   refine ⟨q1,q2,?_,?_⟩
   ·unfold Auc at q3; split at q3
    ·rename_i h3; simp only [h3]; exact q3
    ·exact q3.elim
   ·unfold AoF at h; split at h
    ·rename_i h3; simp only [h3,if_true]; exact h
    ·rename_i h3; simp only [h3,Bool.false_eq_true,if_false]; exact h
  ·rename_i h1; simp only [h1]
   unfold AoG at h; split at h
   ·left
    obtain ⟨q0,h⟩:=h
    unfold AoH at h; split at h
    ·rename_i h3
     obtain ⟨r1,r2,r3,r4,h⟩:=h
     exact ⟨q0,r3,r4,AcM h3 r1 ⟨r2,h⟩⟩
    ·exact h.elim
   ·right
    obtain ⟨r1,r2,r3,r4,h⟩:=h
    exact ⟨r1,r2,AfU r3 ⟨r4,h⟩⟩
  ·rename_i n1 n2 n3
   obtain ⟨q1,q2,q3,q4,h⟩:=h
   simp only []
   exact ⟨q1,q2,AfU q3 ⟨q4,h⟩⟩
 ·unfold Alq at h; split at h
  ·rename_i h1; simp only [h1]
   unfold An6 at h; split at h
   ·rename_i h2; simp only [h2]; exact h
   ·exact h.elim
  ·exact h.elim
 ·exact h
 ·unfold An5 at h; split at h
  ·rename_i h1; simp only [h1]; exact h
  ·exact h.elim
 ·unfold Aq4 at h; split at h
  ·rename_i id h1; simp only [h1]
   unfold An7 at h; split at h
   ·rename_i b p h2
    obtain ⟨hid,h⟩:=h
    simp only [Aox h2]
    refine ⟨hid,?_⟩
    unfold An8 at h; split at h
    ·rename_i x hx
     obtain ⟨hp,he⟩:=Array.getElem?_eq_some_iff.1 hx
     rw [dif_pos (show p<b.size from hp)]
     have e : b[p]'hp=x:=he
     rw [e]; exact h
    ·rename_i hx
     rw [dif_neg (show ¬ p<b.size from fun hp=>by rw [Array.getElem?_eq_none_iff] at hx; exact absurd hp (by simpa using hx))]
     exact h
   ·exact h.elim
  ·exact h.elim
 ·unfold Aq5 at h; split at h
  ·rename_i h1; simp only [h1]
   unfold AoB at h; split at h
   ·rename_i h2 h3
    simp only [AhR h2,h3]; exact h
   ·exact h.elim
  ·exact h.elim
 ·unfold Ak1 at h; split at h
  ·rename_i h1; simp only [h1]
   unfold Ajp at h; split at h
   ·rename_i h2 h3
    simp only [AhR h2,h3]; exact h
   ·exact h.elim
  ·exact h.elim
 ·unfold Ak1 at h; split at h
  ·rename_i h1; simp only [h1]
   unfold Ajp at h; split at h
   ·rename_i h2 h3
    simp only [AhR h2,h3]; exact h
   ·exact h.elim
  ·exact h.elim
 ·rename_i b as ts
  simp only []
  generalize ts.toList=tl at h ⊢
  generalize as.toList.map (ev s)=xs at h ⊢
  unfold Ajr at h
  unfold AhZ
  split at h
  ·exact h
  ·exact h
  ·exact h
  ·exact h
  ·exact h
  ·exact h
  ·rename_i t t' nl fl ys z
   obtain ⟨q2,h⟩:=h
   simp only []
   refine ⟨q2,?_⟩
   unfold ArD at h; split at h
   ·rename_i hmu
    rw [if_pos hmu]
    have h : (fl=true∧nl=false∧ApO K H N ys z (Aaz P t))∨((nl=true∨(fl=true∧ys = []))∧ApN K H N z (Aaz P t)):=by
     unfold ArC at h; split at h
     ·exact .inl h
     ·exact .inr h
    rcases h with ⟨hf,hn,h⟩ | h
    ·left
     refine ⟨hf,hn,?_⟩
     unfold ApO at h; split at h
     ·rename_i h3; simp only [h3]
      obtain ⟨r1,r2,r3,r4,r5,r6,r7,r8,h⟩:=h
      exact ⟨r1,r2,AfU r3 ⟨r4,r5,r6,r7,r8,h⟩⟩
     ·exact h.elim
    right
    refine ⟨h.1,?_⟩
    have h:=h.2
    unfold ApN at h; split at h
    ·rename_i h3; simp only [h3]
     obtain ⟨r1,r2,r3,r4,r5,r6,h⟩:=h
     exact ⟨r1,AfU r2 ⟨r3,r4,r5,r6,h⟩⟩
    ·exact h.elim
   ·rename_i hmu
    rw [if_neg (by simp [hmu])]
    refine ⟨h.1,?_⟩
    have h:=h.2
    unfold Auh at h; split at h
    ·rename_i h3; simp only [h3]
     obtain ⟨r1,r2,r3,r4,r5,r6,h⟩:=h
     exact ⟨r1,AfU r2 ⟨r3,r4,r5,r6,h⟩⟩
    ·exact h.elim
  ·obtain ⟨q2,h⟩:=h
   simp only []
   unfold ArB at h; split at h
   ·rename_i h3 h4; simp only [h3]
    obtain ⟨r0,r1,r2,r3,r4,r5,r6,r7,r8,r9,r10,h⟩:=h
    have h5:=AcM (k:=fun obj' cs'=>obj'=_∧cs'=_) h4 r0 ⟨rfl,rfl⟩
    obtain ⟨_,o',cs',e1,e2,rfl,rfl⟩:=Abx h5
    simp only [e1,e2]
    exact ⟨r0,q2,r1,r2,r3,r4,r5,AfU r6 ⟨r7,r8,r9,r10,h⟩⟩
   ·exact h.elim
  ·obtain ⟨q2,h⟩:=h
   simp only []
   unfold ArA at h; split at h
   ·rename_i h3 h4; simp only [h3]
    obtain ⟨r0,r1,r2,r3,r6,r9,r7,r8,h⟩:=h
    have h5:=AcM (k:=fun obj' cs'=>obj'=_∧cs'=_) h4 r0 ⟨rfl,rfl⟩
    obtain ⟨_,o',cs',e1,e2,rfl,rfl⟩:=Abx h5
    simp only [e1,e2]
    exact ⟨r0,q2,r1,r2,r3,AfU r6 ⟨r9,r7,r8,h⟩⟩
   ·exact h.elim
  ·rename_i t id off es len full
   simp only []
   unfold Auf at h; split at h
   ·rename_i h3 h4; simp only [h3]
    obtain ⟨r0,r1,h⟩:=h
    unfold Aq8 at h; split at h
    ·rename_i x h5; simp only [h5]
     obtain ⟨q0,q1,q2,q3,h⟩:=h
     exact AcM h4 r0 ⟨q0,r1,q1,q2,q3,h⟩
    ·exact h.elim
   ·exact h.elim
  ·rename_i t t' id off es len full z
   simp only []
   unfold Aue at h; split at h
   ·rename_i h3 h4; simp only [h3]
    obtain ⟨r0,r1,q0,q1,r6,r7,r8,r9,h⟩:=h
    exact AcM h4 r0 ⟨q0,r1,q1,AfU r6 ⟨r7,r8,r9,h⟩⟩
   ·exact h.elim
  ·rename_i t t' id z
   simp only []
   unfold Aud at h; split at h
   ·rename_i h3 h4
    obtain ⟨r0,r1,r2,h⟩:=h
    have h5:=AhR h3
    simp only [h5,h4]
    exact ⟨r0,r1,r2,h⟩
   ·exact h.elim
  ·exact h.elim
 ·unfold Aq9 at h; split at h
  ·rename_i h1; simp only [h1]; exact h
  ·exact h.elim
 ·exact h.elim
theorem AiJ (hc : Aal o=true) (h : bop P mu o.dst s H N K o.op) : ArI P o s H N K:=AoN hc (Aq2 h)
def ArX (ops : List Oper) : List Oper→List (Option (Nat×Bool))→Bool
 | [],[]=>true
 | o::os,g::gs=>(match o.guard,g with
  | none,none=>true
  | some (j,w),some (d,w')=>(ops[j]?).bind (·.dst)==some d&&w==w'
  | _,_=>false)&&ArX ops os gs
 | _,_=>false
def Adw (P : Program) (mu : List Nat) : List Oper→List (Option (Nat×Bool))→(Nat→AV)→Aai→Nat→Log→((Nat→AV)→Aai→Nat→Log→Prop)→Prop
 | [],_,s,H,N,lg,K=>K s H N lg.reverse
 | _::_,[],_,_,_,_,_=>False
 | o::os,none::gs,s,H,N,lg,K=>bop P mu o.dst s H N (fun x H' N' T W=>Adw P mu os gs (Ab6 s o.dst x) H' N' ((T,W)::lg) K) o.op
 | o::os,some (d,want)::gs,s,H,N,lg,K=>match s d with
  | .bool b=>(b=want→bop P mu o.dst (upd s d (.bool want)) H N (fun x H' N' T W=>Adw P mu os gs (Ab6 (upd s d (.bool want)) o.dst x) H' N' ((T,W)::lg) K) o.op) ∧
   (b = !want→Adw P mu os gs (Ab6 (upd s d (.bool !want)) o.dst .skip) H N (([],[])::lg) K)
  | .skip=>Adw P mu os gs (Ab6 s o.dst .skip) H N (([],[])::lg) K
  | _=>False
def Aqj (P : Program) (mu : List Nat) (os : List Oper) (gs : List (Option (Nat×Bool))) (s : Nat→AV) (d : Option Nat) (lg : Log) (K : (Nat→AV)→Aai→Nat→Log→Prop) : CK :=
 fun x H' N' T W=>Adw P mu os gs (Ab6 s d x) H' N' ((T,W)::lg) K
@[simp] theorem Atj {P : Program} {mu : List Nat} {gs : List (Option (Nat×Bool))} {s : Nat→AV} {H : Aai} {N : Nat} {lg : Log} {K : (Nat→AV)→Aai→Nat→Log→Prop} : Adw P mu [] gs s H N lg K=K s H N lg.reverse:=by unfold Adw; rfl
@[simp] theorem As4 {P : Program} {mu : List Nat} {d : Option Nat} {op : Op} {ty : TypeId} {pos : String} {af : Array Edge} {g : Option (Nat×Bool)} {os : List Oper} {gs : List (Option (Nat×Bool))} {s : Nat→AV} {H : Aai} {N : Nat} {lg : Log} {K : (Nat→AV)→Aai→Nat→Log→Prop} :
 Adw P mu (⟨d,op,ty,pos,af,g⟩::os) (none::gs) s H N lg K=bop P mu d s H N (Aqj P mu os gs s d lg K) op:=by
 conv=>lhs; unfold Adw
 rfl
theorem Alw {α : Type} {s : Nat→α} {j : Nat} {v : α} (h : s j=v) : upd s j v=s:=by
 funext t
 by_cases e : t=j
 ·subst e; rw [AbZ,h]
 ·rw [AbW _ _ e]
theorem AfR {P : Program} {mu : List Nat} {d : Option Nat} {op : Op} {ty : TypeId} {pos : String} {af : Array Edge} {g : Option (Nat×Bool)} {os : List Oper} {j : Nat} {gs : List (Option (Nat×Bool))} {s : Nat→AV} {H : Aai} {N : Nat} {lg : Log} {K : (Nat→AV)→Aai→Nat→Log→Prop} {want : Bool} :
 Adw P mu (⟨d,op,ty,pos,af,g⟩::os) (some (j,want)::gs) s H N lg K=match s j with
  | .bool b=>(b=want→bop P mu d (upd s j (.bool want)) H N (Aqj P mu os gs (upd s j (.bool want)) d lg K) op)∧(b = !want→Adw P mu os gs (Ab6 (upd s j (.bool !want)) d .skip) H N (([],[])::lg) K)
  | .skip=>Adw P mu os gs (Ab6 s d .skip) H N (([],[])::lg) K
  | _=>False:=by
 conv=>lhs; unfold Adw
 cases s j <;> rfl
@[simp] theorem Auj {P : Program} {mu : List Nat} {d : Option Nat} {op : Op} {ty : TypeId} {pos : String} {af : Array Edge} {g : Option (Nat×Bool)} {os : List Oper} {j : Nat} {gs : List (Option (Nat×Bool))} {s : Nat→AV} {H : Aai} {N : Nat} {lg : Log} {K : (Nat→AV)→Aai→Nat→Log→Prop} (h : s j = .bool true) : Adw P mu (⟨d,op,ty,pos,af,g⟩::os) (some (j,true)::gs) s H N lg K=bop P mu d s H N (Aqj P mu os gs s d lg K) op:=by
 rw [AfR,h]; simp [Alw h]
@[simp] theorem Aun {P : Program} {mu : List Nat} {d : Option Nat} {op : Op} {ty : TypeId} {pos : String} {af : Array Edge} {g : Option (Nat×Bool)} {os : List Oper} {j : Nat} {gs : List (Option (Nat×Bool))} {s : Nat→AV} {H : Aai} {N : Nat} {lg : Log} {K : (Nat→AV)→Aai→Nat→Log→Prop} (h : s j = .bool false) : Adw P mu (⟨d,op,ty,pos,af,g⟩::os) (some (j,false)::gs) s H N lg K=bop P mu d s H N (Aqj P mu os gs s d lg K) op:=by
 rw [AfR,h]; simp [Alw h]
@[simp] theorem Auk {P : Program} {mu : List Nat} {d : Option Nat} {op : Op} {ty : TypeId} {pos : String} {af : Array Edge} {g : Option (Nat×Bool)} {os : List Oper} {j : Nat} {gs : List (Option (Nat×Bool))} {s : Nat→AV} {H : Aai} {N : Nat} {lg : Log} {K : (Nat→AV)→Aai→Nat→Log→Prop} (h : s j = .bool true) : Adw P mu (⟨d,op,ty,pos,af,g⟩::os) (some (j,false)::gs) s H N lg K=Adw P mu os gs (Ab6 s d .skip) H N (([],[])::lg) K:=by
 rw [AfR,h]; simp [Alw h]
@[simp] theorem Aum {P : Program} {mu : List Nat} {d : Option Nat} {op : Op} {ty : TypeId} {pos : String} {af : Array Edge} {g : Option (Nat×Bool)} {os : List Oper} {j : Nat} {gs : List (Option (Nat×Bool))} {s : Nat→AV} {H : Aai} {N : Nat} {lg : Log} {K : (Nat→AV)→Aai→Nat→Log→Prop} (h : s j = .bool false) : Adw P mu (⟨d,op,ty,pos,af,g⟩::os) (some (j,true)::gs) s H N lg K=Adw P mu os gs (Ab6 s d .skip) H N (([],[])::lg) K:=by
 rw [AfR,h]; simp [Alw h]
@[simp] theorem Aul {P : Program} {mu : List Nat} {d : Option Nat} {op : Op} {ty : TypeId} {pos : String} {af : Array Edge} {g : Option (Nat×Bool)} {os : List Oper} {j : Nat} {gs : List (Option (Nat×Bool))} {s : Nat→AV} {H : Aai} {N : Nat} {lg : Log} {K : (Nat→AV)→Aai→Nat→Log→Prop} {want : Bool} (h : s j = .skip) : Adw P mu (⟨d,op,ty,pos,af,g⟩::os) (some (j,want)::gs) s H N lg K=Adw P mu os gs (Ab6 s d .skip) H N (([],[])::lg) K:=by
 rw [AfR,h]
@[simp] theorem AuM {P : Program} {mu : List Nat} {os : List Oper} {gs : List (Option (Nat×Bool))} {s : Nat→AV} {d : Option Nat} {lg : Log} {K : (Nat→AV)→Aai→Nat→Log→Prop} {x : AV} {H : Aai} {N : Nat} {T W : List Nat} :
 Aqj P mu os gs s d lg K x H N T W=Adw P mu os gs (Ab6 s d x) H N ((T,W)::lg) K:=rfl
@[congr] theorem ArW {P : Program} {mu : List Nat} {os : List Oper} {gs : List (Option (Nat×Bool))} {s : Nat→AV} {d : Option Nat} {lg : Log} {K : (Nat→AV)→Aai→Nat→Log→Prop} : Aqj P mu os gs s d lg K=Aqj P mu os gs s d lg K:=rfl
@[congr] theorem Arj {P : Program} {mu : List Nat} {os : List Oper} {gs : List (Option (Nat×Bool))} {s : Nat→AV} {H : Aai} {N : Nat} {lg : Log} {K : (Nat→AV)→Aai→Nat→Log→Prop} : Adw P mu os gs s H N lg K=Adw P mu os gs s H N lg K:=rfl
@[congr] theorem Asy {P : Program} {mu : List Nat} {d : Option Nat} {op : Op} {s : Nat→AV} {H : Aai} {N : Nat} {K : CK} : bop P mu d s H N K op=bop P mu d s H N K op:=rfl
@[congr] theorem ArE {P : Program} {f : FuncId} {args args' : List AV} {H : Aai} {N : Nat} {K : CK} (h : args=args') : Alr P f args H N K=Alr P f args' H N K:=by rw [h]
attribute [simp] ArA An5 Aq4 An7 An8 Aue Akv Auf Aq8 Aud bop Aq3 An6 AoC Aq6 Alp An2 AoK Agi AoE AuY Aua AoD Ajq ApM AiY An4 An3 AoA AuZ An9 AoJ AoI Auc AtE Am0 Aj7 AeY Aq7 Auh ApN ArD ArB Ajr Aq9 Aug AoF AoH AoG ApO ArC Alq AoB Aq5 Ajp Ak1 Akf AiR
theorem Aqa {a b : Bool} (h : ¬ a=b) : a = !b:=by cases a <;> cases b <;> simp_all
theorem Afi {ops : List Oper} {K : (Nat→AV)→Aai→Nat→Log→Prop} : ∀ (l : List Oper) (gs : List (Option (Nat×Bool))) (s : Nat→AV) (H : Aai) (N : Nat) (lg : Log),(∀ o ∈ l,Aal o=true)→ArX ops l gs=true →
 Adw P mu l gs s H N lg K→∃ st s' H' N',Tr P ops.toArray l s H N st s' H' N'∧K s' H' N' (lg.reverse++st.map fun t=>(t.T,t.W))
 | [],gs,s,H,N,lg,_,_,h=>⟨[],s,H,N,⟨rfl,rfl,rfl,rfl⟩,by simpa [Adw] using h⟩
 | o::os,[],s,H,N,lg,_,hg,_=>by simp [ArX] at hg
 | o::os,none::gs,s,H,N,lg,hc,hg,h=>by
  simp only [ArX,Bool.and_eq_true] at hg
  have hgd : o.guard=none:=by
   cases hh : o.guard with
   | none=>rfl
   | some p=>simp [hh] at hg
  unfold Adw at h
  obtain ⟨x,H',N',T,W,h1,h2⟩:=AiJ (hc o (by simp)) h
  obtain ⟨st,s'',H'',N'',k1,k2⟩:=Afi os gs _ _ _ _ (fun o ho=>hc o (by simp [ho])) hg.2 h2
  exact ⟨⟨true,x,H',T,W,N'⟩::st,s'',H'',N'',⟨_,_,rfl,by simp [AcY,hgd],fun _=>⟨h1.op,h1.rest⟩,fun h=>(by cases h),h1.n,h1.tn,h1.wn,k1⟩,by simpa using k2⟩
 | o::os,some (d,want)::gs,s,H,N,lg,hc,hg,h=>by
  simp only [ArX,Bool.and_eq_true] at hg
  obtain ⟨j,hgd,hd⟩ : ∃ j,o.guard=some (j,want)∧(ops[j]?).bind (·.dst)=some d:=by
   cases hh : o.guard with
   | none=>simp [hh] at hg
   | some p =>
    obtain ⟨j,w⟩:=p
    simp only [hh,Bool.and_eq_true,beq_iff_eq] at hg
    exact ⟨j,by rw [hg.1.2],hg.1.1⟩
  have hd' : (ops.toArray[j]?).bind (·.dst)=some d:=by simpa using hd
  have skipped : AcY ops.toArray o s false→Adw P mu os gs (Ab6 s o.dst .skip) H N (([],[])::lg) K→∃ st s' H' N',Tr P ops.toArray (o::os) s H N st s' H' N'∧K s' H' N' (lg.reverse++st.map fun t=>(t.T,t.W)):=by
   intro hs h
   obtain ⟨st,s'',H'',N'',k1,k2⟩:=Afi os gs _ _ _ _ (fun o ho=>hc o (by simp [ho])) hg.2 h
   exact ⟨⟨false,.skip,H,[],[],N⟩::st,s'',H'',N'',⟨_,_,rfl,hs,fun h=>(by cases h),fun _=>⟨rfl,rfl,rfl,rfl⟩,Nat.le_refl _,by simp,by simp,k1⟩,by simpa using k2⟩
  unfold Adw at h
  split at h
  ·rename_i b hb
   have same : ∀ v,b=v→upd s d (.bool v)=s:=by
    intro v hv
    funext t
    by_cases e : t=d
    ·subst e; rw [AbZ,hb,hv]
    ·rw [AbW _ _ e]
   by_cases hbw : b=want
   ·have h':=h.1 hbw
    rw [same want hbw] at h'
    obtain ⟨x,H',N',T,W,h1,h2⟩:=AiJ (hc o (by simp)) h'
    obtain ⟨st,s'',H'',N'',k1,k2⟩:=Afi os gs _ _ _ _ (fun o ho=>hc o (by simp [ho])) hg.2 h2
    exact ⟨⟨true,x,H',T,W,N'⟩::st,s'',H'',N'',⟨_,_,rfl,by simp only [AcY,hgd]; exact ⟨d,hd',.inl ⟨b,hb,by simp [hbw]⟩⟩,fun _=>⟨h1.op,h1.rest⟩,fun h=>(by cases h),h1.n,h1.tn,h1.wn,k1⟩,by simpa using k2⟩
   ·have hbw' : b = !want:=Aqa hbw
    have h':=h.2 hbw'
    rw [same _ hbw'] at h'
    refine skipped ?_ h'
    simp only [AcY,hgd]
    exact ⟨d,hd',.inl ⟨b,hb,by simp [hbw]⟩⟩
  ·rename_i hb
   refine skipped ?_ h
   simp only [AcY,hgd]
   exact ⟨d,hd',.inr (by simp [hb])⟩
  ·exact h.elim
def AeG (n : Nat) (ops : List Oper) (gs : List (Option (Nat×Bool))) : Bool :=
 Ahi n ops&&Adm ops&&Aj9 ops&&ops.all Aal&&ArX ops ops gs
theorem St.draw {n : Nat} {c0 : Cx} {w0 : World} {a : Act} {w w' : World} (h : St n c0 w0 s H N a w) (e : w'.heap=w.heap) (h1 : w'.os=w.os) (h2 : w'.tape=w.tape) (h3 : w'.output=w.output) : St n c0 w0 s H N a w':=by
 obtain ⟨c,hr,hd,g,hu⟩:=h
 exact ⟨c,⟨hr.hr.world e,hr.size,hr.slot⟩,hd,g.trans (AeZ.world e h1 h2 h3),hu⟩
theorem AW.region {n : Nat} {c0 : Cx} {w0 : World} {Q : Ace} {id : Nat} {ops : List Oper} {draw : Bool} (hm : P.follows .mixedOrders=true) (mu : List Nat) (gs : List (Option (Nat×Bool))) (hok : AeG n ops gs=true)
 (h : ∀ (G : Log→Prop) (K : (Nat→AV)→Aai→Nat→Prop),(∀ lg,(!draw||Aby ops lg)=true→G lg)→(∀ s' H' N',Q .normal s' H' N'→K s' H' N')→Adw P mu ops gs s H N [] (fun s' H' N' lg=>G lg∧K s' H' N')) :
 AW P n c0 w0 (.region id ops.toArray draw) Q s H N:=by
 simp only [AeG,Bool.and_eq_true] at hok
 obtain ⟨⟨⟨⟨h1,h2⟩,h3⟩,h4⟩,h5⟩:=hok
 obtain ⟨st,s',H',N',htr,hio,hq⟩:=Afi ops gs s H N [] (fun o ho=>List.all_eq_true.1 h4 o ho) h5 (h (fun lg=>(!draw||Aby ops lg)=true) (fun s' H' N'=>Q .normal s' H' N') (fun _ h=>h) (fun _ _ _ h=>h))
 simp only [List.reverse_nil,List.nil_append] at hio
 intro a w hst
 cases draw with
 | false =>
  obtain ⟨c,hr,hd,g,hu⟩:=hst
  refine wp_region_list (Ajz ops s H N st s' H' N' (Agp h1) htr ?_ c a w hr hd g hu)
  intro c' a' w' hr' hd' g' hu'
  exact ⟨s',H',N',hq,c',hr',hd',g',hu'⟩
 | true =>
  simp only [Bool.not_true,Bool.false_or] at hio
  obtain ⟨c,hr,hd,g,hu⟩:=hst.draw (w' := { w with drawn:=w.drawn+1 }) rfl rfl rfl rfl
  refine wp_region_any hm ?_
  simp only [List.size_toArray]
  have hE : ∀ k,k<ops.length→Aaw (Array.replicate ops.length false) k=false:=by
   intro k hk; simp [Aaw,Array.getD,hk]
  have hcnt : ∀ m,m≤ops.length→cnt (Aaw (Array.replicate ops.length false)) m=0:=by
   intro m
   induction m with
   | zero=>intro _; rfl
   | succ m ih=>intro hm; simp [cnt,ih (by omega),hE m (by omega)]
  obtain ⟨t1,t2,t3,t4,t5⟩:=Ap3 ops s H N st s' H' N' htr
  have hNN:=AhO t1 t5 0 ops.length (by omega) (Nat.le_refl _)
  rw [t4] at hNN
  refine Aoa h1 h2 h3 hio htr (c0:=c0) (w0:=w0) (df:=[]) ?_ ops.length _ c a _ (by simp) (by rw [hcnt _ (Nat.le_refl _)]; omega) ?_
  ·intro c' a' w' hr' hd' g' hu'
   exact ⟨s',H',N',hq,c',hr',hd',g',hu'⟩
  ·refine ⟨?_,hd,g,?_,fun i hi=>hu i (by simp only [stN] at hNN; omega),?_⟩
   ·have e1 : (fun t=>AgA (s t) (fun k=>(ops[k]?.bind (·.dst))==some t) (fun k=>(st[k]?.map (·.x)).getD .undef) (Aaw (Array.replicate ops.length false)) ops.length)=s:=by
     funext t
     rw [Aej _ _ _ _ 0 ops.length (by omega) (fun k _ hk _=>hE k hk)]; rfl
    have e2 : (fun id=>AgA (H id) (fun k=>((st[k]?.map (·.W)).getD []).contains id) (fun k=>stH st H (k+1) id) (Aaw (Array.replicate ops.length false)) ops.length)=H:=by
     funext t
     rw [Aej _ _ _ _ 0 ops.length (by omega) (fun k _ hk _=>hE k hk)]; rfl
    rw [e1,e2]; exact hr
   ·intro i t ht hi id k1 k2
    have hil : i<ops.length:=by have:=(List.getElem?_eq_some_iff.1 ht).1; omega
    have A:=(t5 i ops[i] t (by simp [hil]) ht).wn id k1
    have:=AhO t1 t5 0 i (by omega) (by omega)
    simp only [stN] at this
    exact hu id (by have:=A.2 k2; omega)
   ·intro j o' hj hjE
    have hjl : j<ops.length:=(List.getElem?_eq_some_iff.1 hj).1
    rw [hE j hjl] at hjE; cases hjE
end
end Go.Abs
