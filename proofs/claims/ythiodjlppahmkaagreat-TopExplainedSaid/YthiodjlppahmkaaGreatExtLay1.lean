import Derived.Orders
import Derived.Scope
import Derived.Tactics2
import Derived.Below
set_option linter.unusedVariables false
set_option linter.unusedSimpArgs false
namespace Go.Abs
inductive Aei where
 | unused
 | dead
 | emp
 | live (b base sz : Nat)
inductive AV where
 | undef
 | skip
 | bool (b : Bool)
 | int (k : IntKind) (n : Int)
 | str (s : ByteArray)
 | lst (nl fl : Bool) (xs : List AV)
 | cptr (cs : List AV)
 | ptr (id off : Nat)
 | nilptr
 | slc (id off es len : Nat) (full : Bool)
 | agg (cs : List AV)
 | tup (xs : List AV)
 | fn (f : FuncId) (caps : List AV)
 | nilfn
 | map (id : Nat)
 | nilmap
 | ifc (t : TypeId) (x : AV)
 | nilifc
 | nn (x : AV)
 | rm (x : AV)
 deriving Inhabited
structure Cx where
 Z : Nat→Prop
 ι : Nat→Aei
 h : Array Obj
def Aa6 (h : Array Obj) (b o : Nat) : Option Value :=
 match h[b]? with
 | some (.cells c _ _)=>c[o]?
 | _=>none
theorem cell?_eq (w : World) (b o : Nat) : w.cell? ⟨b,o,none⟩=Aa6 w.heap b o:=by
 unfold World.cell? Aa6
 simp only []
 cases w.heap[b]? with
 | none=>rfl
 | some x=>cases x <;> rfl
def InR (k : IntKind) (n : Int) : Prop:=k.min≤n∧n≤k.max
def Aaw (h : Array Obj) (b off : Nat) (vs : List Value) : Prop:=∀ i (hi : i<vs.length),Aa6 h b (off+i)=some vs[i]
def Ac6 (h : Array Obj) (b off es : Nat) (vs : List Value) : Prop :=
 ∀ i (hi : i<vs.length),vs[i].cells.size=es∧Aaw h b (off+i*es) vs[i].cells.toList
mutual
def Rep (c : Cx) : AV→Value→Prop
 | .undef,_=>True
 | .skip,v=>v=Go.undef
 | .bool b,v=>v = .bool b
 | .int k n,v=>v = .int k n∧InR k n
 | .str s,v=>v = .string s∧s.size≤maxLen
 | .lst nl fl xs,v=>(xs = []∧v = .slice none 0 0) ∨
  (nl=false∧∃ a b off cap es vs,v = .slice (some a) vs.length cap∧vs.length≤cap∧cap≤maxLen∧(fl=true→cap=vs.length)∧(0<cap→a=⟨b,off,none⟩∧c.Z b)∧Ac6 c.h b off es vs∧AaD c xs vs)
 | .cptr cs,v=>∃ b off vs,v = .pointer (some ⟨b,off,none⟩)∧c.Z b∧Aaw c.h b off vs∧AaD c cs vs
 | .ptr id off,v=>c.ι id ≠ .unused∧v.oneCell'=true∧∀ b base sz,c.ι id = .live b base sz→v = .pointer (some ⟨b,base+off,none⟩)
 | .nilptr,v=>v = .pointer none
 | .slc id off es len full,v=>c.ι id ≠ .unused∧v.oneCell'=true∧(c.ι id = .emp→len=0∧∃ a,v = .slice a 0 0)∧∀ b base sz,c.ι id = .live b base sz →
  ∃ cap o,v = .slice (some ⟨b,o,none⟩) len cap∧(0<cap→o=base+off)∧len≤cap∧cap≤maxLen∧base+off+cap*es≤sz∧(full=true→cap=len)
 | .agg cs,v=>∃ vs,v = .agg vs∧AaD c cs vs.toList
 | .tup xs,v=>∃ vs,v = .tuple vs∧AaD c xs vs.toList
 | .fn f caps,v=>∃ vs,v = .func (.func f) #[] vs∧AaD c caps vs.toList
 | .nilfn,v=>v = .nilFunc
 | .map id,v=>c.ι id ≠ .unused∧v.oneCell'=true∧∀ b base sz,c.ι id = .live b base sz→v = .map (some b)
 | .nilmap,v=>v = .map none
 | .ifc t x,v=>∃ u,v = .iface t u∧Rep c x u
 | .nilifc,v=>v = .nilIface
 | .nn x,v=>Rep c x v∧∃ a l cp,v = .slice (some a) l cp
 | .rm x,v=>Rep c x v∧∃ a l cp,v = .slice (some a) l cp∧l<cp
def AaD (c : Cx) : List AV→List Value→Prop
 | [],vs=>vs = []
 | x::xs,vs=>∃ v rest,vs=v::rest∧Rep c x v∧AaD c xs rest
end
def AV.un : AV→AV
 | .rm x=>x
 | x=>x
theorem Rep.un {c : Cx} {x : AV} {v : Value} (h : Rep c x v) : Rep c x.un v:=by
 unfold AV.un
 split
 ·rw [Rep] at h; exact h.1
 ·exact h
structure Cx.Le (c c' : Cx) : Prop where
 z : ∀ b,c.Z b→c'.Z b
 cell : ∀ b,c.Z b→∀ o v,Aa6 c.h b o=some v→Aa6 c'.h b o=some v
 used : ∀ id,c.ι id ≠ .unused→c'.ι id ≠ .unused
 live : ∀ id b base sz,c.ι id ≠ .unused→c'.ι id = .live b base sz→c.ι id = .live b base sz
 emp : ∀ id,c.ι id ≠ .unused→c'.ι id = .emp→c.ι id = .emp
theorem Aaw.mono {h h' : Array Obj} {b off : Nat} {vs : List Value} (hc : ∀ o v,Aa6 h b o=some v→Aa6 h' b o=some v) (H : Aaw h b off vs) : Aaw h' b off vs :=
 fun i hi=>hc _ _ (H i hi)
theorem Ac6.mono {h h' : Array Obj} {b off es : Nat} {vs : List Value} (hc : ∀ o v,Aa6 h b o=some v→Aa6 h' b o=some v) (H : Ac6 h b off es vs) : Ac6 h' b off es vs :=
 fun i hi=>⟨(H i hi).1,(H i hi).2.mono hc⟩
mutual
theorem Rep.mono {c c' : Cx} (L : c.Le c') : ∀ (x : AV) (v : Value),Rep c x v→Rep c' x v
 | .undef,_,_=>by simp [Rep]
 | .skip,_,h=>by simpa [Rep] using h
 | .bool _,_,h=>by simpa [Rep] using h
 | .int _ _,_,h=>by simpa [Rep] using h
 | .str _,_,h=>by simpa [Rep] using h
 | .lst nl fl xs,v,h=>by
  simp only [Rep] at h ⊢
  rcases h with h | ⟨hn,a,b,off,cap,es,vs,hv,h1,h2,hfl,hz,he,hr⟩
  ·exact .inl h
  ·exact .inr ⟨hn,a,b,off,cap,es,vs,hv,h1,h2,hfl,fun hc=>⟨(hz hc).1,L.z b (hz hc).2⟩,fun i hi=>⟨(he i hi).1,(he i hi).2.mono (L.cell b (hz (by omega)).2)⟩,AaD.mono L xs vs hr⟩
 | .cptr cs,v,h=>by
  simp only [Rep] at h ⊢
  obtain ⟨b,off,vs,hv,hz,hc,hr⟩:=h
  exact ⟨b,off,vs,hv,L.z b hz,hc.mono (L.cell b hz),AaD.mono L cs vs hr⟩
 | .ptr id off,v,h=>by
  simp only [Rep] at h ⊢
  exact ⟨L.used id h.1,h.2.1,fun b base sz hl=>h.2.2 b base sz (L.live id b base sz h.1 hl)⟩
 | .nilptr,_,h=>by simpa [Rep] using h
 | .slc id off es len full,v,h=>by
  simp only [Rep] at h ⊢
  exact ⟨L.used id h.1,h.2.1,fun he=>h.2.2.1 (L.emp id h.1 he),fun b base sz hl=>h.2.2.2 b base sz (L.live id b base sz h.1 hl)⟩
 | .agg cs,v,h=>by
  simp only [Rep] at h ⊢
  obtain ⟨vs,hv,hr⟩:=h
  exact ⟨vs,hv,AaD.mono L cs _ hr⟩
 | .tup cs,v,h=>by
  simp only [Rep] at h ⊢
  obtain ⟨vs,hv,hr⟩:=h
  exact ⟨vs,hv,AaD.mono L cs _ hr⟩
 | .fn f cs,v,h=>by
  simp only [Rep] at h ⊢
  obtain ⟨vs,hv,hr⟩:=h
  exact ⟨vs,hv,AaD.mono L cs _ hr⟩
 | .nilfn,_,h=>by simpa [Rep] using h
 | .map id,v,h=>by
  simp only [Rep] at h ⊢
  exact ⟨L.used id h.1,h.2.1,fun b base sz hl=>h.2.2 b base sz (L.live id b base sz h.1 hl)⟩
 | .nilmap,_,h=>by simpa [Rep] using h
 | .ifc t x,v,h=>by
  simp only [Rep] at h ⊢
  obtain ⟨u,hv,hr⟩:=h
  exact ⟨u,hv,Rep.mono L x u hr⟩
 | .nilifc,_,h=>by simpa [Rep] using h
 | .nn x,v,h=>by
  simp only [Rep] at h ⊢
  exact ⟨Rep.mono L x v h.1,h.2⟩
 | .rm x,v,h=>by
  simp only [Rep] at h ⊢
  exact ⟨Rep.mono L x v h.1,h.2⟩
theorem AaD.mono {c c' : Cx} (L : c.Le c') : ∀ (xs : List AV) (vs : List Value),AaD c xs vs→AaD c' xs vs
 | [],_,h=>by simpa [AaD] using h
 | x::xs,vs,h=>by
  simp only [AaD] at h ⊢
  obtain ⟨v,rest,hv,h1,h2⟩:=h
  exact ⟨v,rest,hv,Rep.mono L x v h1,AaD.mono L xs rest h2⟩
end
theorem AaD.length {c : Cx} : ∀ {xs : List AV} {vs : List Value},AaD c xs vs→vs.length=xs.length
 | [],vs,h=>by simp [AaD] at h; simp [h]
 | x::xs,vs,h=>by
  simp only [AaD] at h
  obtain ⟨v,rest,rfl,_,h2⟩:=h
  simp [AaD.length h2]
theorem AaD.get {c : Cx} : ∀ {xs : List AV} {vs : List Value},AaD c xs vs→∀ i (h1 : i<xs.length) (h2 : i<vs.length),Rep c xs[i] vs[i]
 | [],_,_,i,h1,_=>by simp at h1
 | x::xs,vs,h,i,h1,h2=>by
  simp only [AaD] at h
  obtain ⟨v,rest,rfl,hx,hr⟩:=h
  cases i with
  | zero=>exact hx
  | succ i=>exact AaD.get hr i (by simpa using h1) (by simpa using h2)
theorem AaD.of_get {c : Cx} : ∀ {xs : List AV} {vs : List Value},vs.length=xs.length→(∀ i (h1 : i<xs.length) (h2 : i<vs.length),Rep c xs[i] vs[i])→AaD c xs vs
 | [],vs,hl,_=>by simp at hl; simp [AaD,hl]
 | x::xs,[],hl,_=>by simp at hl
 | x::xs,v::vs,hl,h=>by
  simp only [AaD]
  exact ⟨v,vs,rfl,h 0 (by simp) (by simp),AaD.of_get (by simpa using hl) (fun i h1 h2=>h (i+1) (by simpa using h1) (by simpa using h2))⟩
theorem AaD.append {c : Cx} {xs ys : List AV} {vs us : List Value} (h : AaD c xs vs) (k : AaD c ys us) : AaD c (xs++ys) (vs++us):=by
 induction xs generalizing vs with
 | nil=>simp only [AaD] at h; subst h; simpa using k
 | cons x xs ih =>
  simp only [AaD] at h
  obtain ⟨v,rest,rfl,hx,hr⟩:=h
  simp only [List.cons_append,AaD]
  exact ⟨v,rest++us,rfl,hx,ih hr⟩
theorem AaD.take {c : Cx} {xs : List AV} {vs : List Value} (h : AaD c xs vs) (n : Nat) : AaD c (xs.take n) (vs.take n) :=
 AaD.of_get (by simp [h.length]) (fun i h1 h2=>by
  simp only [List.getElem_take]
  exact h.get i (by simp at h1; omega) (by simp at h2; omega))
theorem AaD.drop {c : Cx} {xs : List AV} {vs : List Value} (h : AaD c xs vs) (n : Nat) : AaD c (xs.drop n) (vs.drop n) :=
 AaD.of_get (by simp [h.length]) (fun i h1 h2=>by
  simp only [List.getElem_drop]
  exact h.get (n+i) (by simp at h1; omega) (by simp at h2; omega))
theorem AaD.split {c : Cx} : ∀ {xs ys : List AV} {vs : List Value},AaD c (xs++ys) vs→∃ a b,vs=a++b∧AaD c xs a∧AaD c ys b
 | [],ys,vs,h=>⟨[],vs,rfl,by simp [AaD],by simpa using h⟩
 | x::xs,ys,vs,h=>by
  simp only [List.cons_append,AaD] at h
  obtain ⟨v,rest,rfl,hx,hr⟩:=h
  obtain ⟨a,b,rfl,h1,h2⟩:=AaD.split hr
  exact ⟨v::a,b,rfl,by simp only [AaD]; exact ⟨v,a,rfl,hx,h1⟩,h2⟩
theorem Cx.Le.refl (c : Cx) : c.Le c:=⟨fun _ h=>h,fun _ _ _ _ h=>h,fun _ h=>h,fun _ _ _ _ _ h=>h,fun _ _ h=>h⟩
theorem Cx.Le.trans {a b c : Cx} (h : a.Le b) (k : b.Le c) : a.Le c :=
 ⟨fun x hx=>k.z x (h.z x hx),fun x hx o v hv=>k.cell x (h.z x hx) o v (h.cell x hx o v hv),fun i hi=>k.used i (h.used i hi),
  fun i x y z hi hl=>h.live i x y z hi (k.live i x y z (h.used i hi) hl),fun i hi hl=>h.emp i hi (k.emp i (h.used i hi) hl)⟩
theorem Akf (c : Cx) (a : Option Addr) (fl : Bool) : Rep c (.lst false fl []) (.slice a 0 0):=by
 simp only [Rep]
 cases a with
 | none=>exact .inl ⟨trivial,rfl⟩
 | some a=>exact .inr ⟨trivial,a,0,0,0,1,[],rfl,Nat.le_refl _,by simp,fun _=>rfl,fun h=>absurd h (by simp),fun i hi=>absurd hi (by simp),by simp [AaD]⟩
def AV.cells : AV→List AV
 | .agg cs=>cs
 | x=>[x]
def AV.one : AV→Bool
 | .agg _ | .tup _ | .undef | .skip | .nn _ | .rm _=>false
 | _=>true
theorem Rep.oneCell {c : Cx} {x : AV} {v : Value} (h : Rep c x v) (hx : x.one=true) : v.oneCell'=true:=by
 cases x <;> simp only [AV.one,Bool.false_eq_true] at hx
 all_goals simp only [Rep] at h
 case ptr=>exact h.2.1
 case slc=>exact h.2.1
 case map=>exact h.2.1
 case lst=>rcases h with ⟨_,rfl⟩ | ⟨_,_,_,_,_,_,_,rfl,_⟩ <;> rfl
 case cptr=>obtain ⟨_,_,_,rfl,_⟩:=h; rfl
 case fn=>obtain ⟨_,rfl,_⟩:=h; rfl
 case ifc=>obtain ⟨_,rfl,_⟩:=h; rfl
 case int=>obtain ⟨rfl,_⟩:=h; rfl
 case str=>obtain ⟨rfl,_⟩:=h; rfl
 all_goals (subst h; rfl)
theorem Ac8 {v : Value} (h : v.oneCell'=true) : v.cells = #[v]:=by
 cases v <;> first | rfl | simp [Value.oneCell'] at h
theorem Rep.cells {c : Cx} {x : AV} {v : Value} (h : Rep c x v) (hx : x.one=true∨∃ cs,x = .agg cs) : AaD c x.cells v.cells.toList:=by
 rcases hx with hx | ⟨cs,rfl⟩
 ·rw [Ac8 (h.oneCell hx)]
  have : x.cells = [x]:=by cases x <;> simp_all [AV.one,AV.cells]
  rw [this]
  simp only [AaD]
  exact ⟨v,[],rfl,h,rfl⟩
 ·simp only [Rep] at h
  obtain ⟨vs,rfl,hr⟩:=h
  simpa [AV.cells,Value.cells] using hr
theorem AaD.oneCell {c : Cx} : ∀ {xs : List AV} {vs : List Value},AaD c xs vs→xs.all AV.one=true→∀ v ∈ vs,v.oneCell'=true
 | [],vs,h,_,v,hv=>by simp [AaD] at h; simp [h] at hv
 | x::xs,vs,h,ha,v,hv=>by
  simp only [AaD] at h
  obtain ⟨u,rest,rfl,hx,hr⟩:=h
  simp only [List.all_cons,Bool.and_eq_true] at ha
  rcases List.mem_cons.1 hv with rfl | hv
  ·exact hx.oneCell ha.1
  ·exact AaD.oneCell hr ha.2 v hv
def AcF (c : Cx) (B : Nat) : Prop:=∀ id,B≤id→c.ι id = .unused
theorem Aaw.append {h : Array Obj} {b off : Nat} {vs us : List Value} (H : Aaw h b off vs) (K : Aaw h b (off+vs.length) us) : Aaw h b off (vs++us):=by
 intro i hi
 by_cases hlt : i<vs.length
 ·rw [List.getElem_append_left hlt]; exact H i hlt
 ·have:=K (i-vs.length) (by simp at hi; omega)
  rw [List.getElem_append_right (by omega)]
  rw [← this]; congr 1; omega
theorem Aaw.drop {h : Array Obj} {b off : Nat} {vs : List Value} (H : Aaw h b off vs) (n : Nat) : Aaw h b (off+n) (vs.drop n):=by
 intro i hi
 have:=H (n+i) (by simp at hi; omega)
 rw [List.getElem_drop,← this]; congr 1; omega
theorem Aaw.take {h : Array Obj} {b off : Nat} {vs : List Value} (H : Aaw h b off vs) (n : Nat) : Aaw h b off (vs.take n):=by
 intro i hi
 rw [List.getElem_take]
 exact H i (by simp at hi; omega)
inductive AaZ where
 | cells (cs : List AV)
 | grow (cs : List AV)
 | mp (es : List (AV×AV))
 | it (s : ByteArray) (pos : Nat)
abbrev Aac:=Nat→Option AaZ
def Ahn (sz : Nat) (fr : Nat×Nat) : Prop:=fr.1≤fr.2∧∀ o,o<sz→¬ (fr.1≤o∧o<fr.2)
def AbQ (c : Cx) : AaZ→Nat→Nat→Nat→Prop
 | .cells cs,b,base,sz=>∃ cur T fr vs,c.h[b]? = some (.cells cur T fr)∧cur.size=sz∧Ahn sz fr∧base+cs.length≤sz∧AaD c cs vs∧Aaw c.h b base vs
 | .grow cs,b,base,sz=>cs≠[]∧∃ cur T fr vs,c.h[b]? = some (.cells cur T fr)∧cur.size=sz∧Ahn sz fr∧base+cs.length≤sz∧AaD c cs vs∧Aaw c.h b base vs
 | .mp es,b,_,_=>∃ ents clock,c.h[b]? = some (.map ents clock)∧ents.size=es.length ∧
  ∀ i (h1 : i<ents.size) (h2 : i<es.length),Rep c es[i].1 ents[i].key∧Rep c es[i].2 ents[i].val
 | .it s p,b,base,_=>base=0∧s.size≤maxLen∧c.h[b]? = some (.stringIter s p)
theorem Aaw.of_block {h h' : Array Obj} {b off : Nat} {vs : List Value} (e : h'[b]? = h[b]?) (H : Aaw h b off vs) : Aaw h' b off vs:=by
 intro i hi
 have:=H i hi
 simpa [Aa6,e] using this
theorem AbQ.mono {c c' : Cx} (L : c.Le c') {o : AaZ} {b base sz : Nat} (e : c'.h[b]? = c.h[b]?) (H : AbQ c o b base sz) : AbQ c' o b base sz:=by
 cases o with
 | cells cs =>
  obtain ⟨cur,T,fr,vs,h1,h2,h3,h4,h5,h6⟩:=H
  exact ⟨cur,T,fr,vs,e.trans h1,h2,h3,h4,h5.mono L,h6.of_block e⟩
 | grow cs =>
  obtain ⟨hne,cur,T,fr,vs,h1,h2,h3,h4,h5,h6⟩:=H
  exact ⟨hne,cur,T,fr,vs,e.trans h1,h2,h3,h4,h5.mono L,h6.of_block e⟩
 | mp es =>
  obtain ⟨ents,clock,h1,h2,h3⟩:=H
  exact ⟨ents,clock,e.trans h1,h2,fun i a b=>⟨(h3 i a b).1.mono L,(h3 i a b).2.mono L⟩⟩
 | it s p=>exact ⟨H.1,H.2.1,e.trans H.2.2⟩
structure AcX (c : Cx) (H : Aac) (w : World) : Prop where
 heap : c.h=w.heap
 obj : ∀ id b base sz,c.ι id = .live b base sz→∃ o,H id=some o∧AbQ c o b base sz
 emp : ∀ id,c.ι id = .emp→H id=some (.grow [])
 non : ∀ id,(∀ b base sz,c.ι id ≠ .live b base sz)→c.ι id ≠ .emp→H id=none
 inj : ∀ i j b x y x' y',c.ι i = .live b x y→c.ι j = .live b x' y'→i=j
 sep : ∀ i b x y,c.ι i = .live b x y→¬ c.Z b
 zlt : ∀ b,c.Z b→b<w.heap.size
 fin : ∃ B,AcF c B
structure Aeu (c : Cx) (w : World) (c' : Cx) (w' : World) : Prop where
 le : c.Le c'
 zn : ∀ b,c'.Z b→c.Z b∨w.heap.size≤b∨∃ id x y,c.ι id = .live b x y
 nb : ∀ id b x y,c'.ι id = .live b x y→w.heap.size≤b∨∃ id x y,c.ι id = .live b x y
 keep : ∀ b,b<w.heap.size→(∀ id x y,c.ι id ≠ .live b x y)→w'.heap[b]? = w.heap[b]?
 size : w.heap.size≤w'.heap.size
 os : w'.os=w.os
 tape : w'.tape=w.tape
 output : w'.output=w.output
theorem Aeu.refl (c : Cx) (w : World) : Aeu c w c w :=
 ⟨.refl c,fun _ h => .inl h,fun id b x y h => .inr ⟨id,x,y,h⟩,fun _ _ _=>rfl,Nat.le_refl _,rfl,rfl,rfl⟩
theorem Aeu.trans {c c1 c2 : Cx} {w w1 w2 : World} (g : Aeu c w c1 w1) (k : Aeu c1 w1 c2 w2) : Aeu c w c2 w2 where
 le:=g.le.trans k.le
 zn b hb:=by
  rcases k.zn b hb with h | h | ⟨id,x,y,h⟩
  ·exact g.zn b h
  ·exact .inr (.inl (Nat.le_trans g.size h))
  ·exact .inr (g.nb id b x y h)
 nb id b x y h:=by
  rcases k.nb id b x y h with h | ⟨i,x,y,h⟩
  ·exact .inl (Nat.le_trans g.size h)
  ·exact g.nb i b x y h
 keep b hb hl:=by
  rw [k.keep b (Nat.lt_of_lt_of_le hb g.size) (fun id x y h=>?_),g.keep b hb hl]
  rcases g.nb id b x y h with h | ⟨i,x,y,h⟩
  ·omega
  ·exact hl i x y h
 size:=Nat.le_trans g.size k.size
 os:=k.os.trans g.os
 tape:=k.tape.trans g.tape
 output:=k.output.trans g.output
theorem AbQ.lt {c : Cx} {o : AaZ} {b base sz : Nat} (H : AbQ c o b base sz) : b<c.h.size:=by
 cases o with
 | cells cs=>obtain ⟨_,_,_,_,h1,_⟩:=H; exact (Array.getElem?_eq_some_iff.1 h1).1
 | grow cs=>obtain ⟨_,_,_,_,_,h1,_⟩:=H; exact (Array.getElem?_eq_some_iff.1 h1).1
 | mp es=>obtain ⟨_,_,h1,_⟩:=H; exact (Array.getElem?_eq_some_iff.1 h1).1
 | it s p=>exact (Array.getElem?_eq_some_iff.1 H.2.2).1
theorem AcX.live_lt {c : Cx} {H : Aac} {w : World} (h : AcX c H w) {id b x y : Nat} (hl : c.ι id = .live b x y) : b<w.heap.size:=by
 obtain ⟨o,_,ho⟩:=h.obj id b x y hl
 have:=ho.lt
 rwa [h.heap] at this
theorem AcX.live_of {c : Cx} {H : Aac} {w : World} (h : AcX c H w) {id : Nat} {o : AaZ} (ho : H id=some o) (hg : o ≠ .grow []) : ∃ b x y,c.ι id = .live b x y∧AbQ c o b x y:=by
 by_cases hl : ∀ b base sz,c.ι id ≠ .live b base sz
 ·by_cases he : c.ι id = .emp
  ·rw [h.emp id he] at ho; cases ho; exact absurd rfl hg
  ·rw [h.non id hl he] at ho; cases ho
 ·simp only [ne_eq,Classical.not_forall,Classical.not_not] at hl
  obtain ⟨b,x,y,hl⟩:=hl
  obtain ⟨o',ho',hr⟩:=h.obj id b x y hl
  rw [ho] at ho'; cases ho'
  exact ⟨b,x,y,hl,hr⟩
theorem AcX.world {c : Cx} {H : Aac} {w w' : World} (h : AcX c H w) (e : w'.heap=w.heap) : AcX c H w' :=
 ⟨h.heap.trans e.symm,h.obj,h.emp,h.non,h.inj,h.sep,fun b hb=>by rw [e]; exact h.zlt b hb,h.fin⟩
theorem Aeu.world {c : Cx} {w w' : World} (e : w'.heap=w.heap) (h1 : w'.os=w.os) (h2 : w'.tape=w.tape) (h3 : w'.output=w.output) : Aeu c w c w' :=
 ⟨.refl c,fun _ h => .inl h,fun id b x y h => .inr ⟨id,x,y,h⟩,fun _ _ _=>by rw [e],by rw [e]; exact Nat.le_refl _,h1,h2,h3⟩
def upd {α : Type} (f : Nat→α) (i : Nat) (a : α) : Nat→α:=fun j=>if j=i then a else f j
@[simp] theorem AbR {α : Type} (f : Nat→α) (i : Nat) (a : α) : upd f i a i=a:=by simp [upd]
theorem AbV {α : Type} (f : Nat→α) {i j : Nat} (a : α) (h : j≠i) : upd f i a j=f j:=by simp [upd,h]
theorem Ag1 {h : Array Obj} {o : Obj} {b : Nat} (hb : b<h.size) : (h.push o)[b]? = h[b]?:=by
 rw [Array.getElem?_push,if_neg (by omega)]
theorem AeO {h : Array Obj} {o : Obj} {b i : Nat} (hb : b<h.size) : Aa6 (h.push o) b i=Aa6 h b i:=by
 simp [Aa6,Ag1 hb]
theorem AcX.alloc {c : Cx} {H : Aac} {w : World} (h : AcX c H w) {id : Nat} (hu : c.ι id = .unused) (o : AaZ) (x : Obj) (base sz : Nat)
 (ho : AbQ ⟨c.Z,upd c.ι id (.live w.heap.size base sz),w.heap.push x⟩ o w.heap.size base sz) :
 AcX ⟨c.Z,upd c.ι id (.live w.heap.size base sz),w.heap.push x⟩ (upd H id (some o)) (w.alloc x) ∧
 Aeu c w ⟨c.Z,upd c.ι id (.live w.heap.size base sz),w.heap.push x⟩ (w.alloc x):=by
 have L : c.Le ⟨c.Z,upd c.ι id (.live w.heap.size base sz),w.heap.push x⟩:=by
  refine ⟨fun _ h=>h,fun b hb o v hv=>?_,fun i hi=>?_,fun i b y z hi hl=>?_,fun i hi hl=>?_⟩
  ·have:=h.zlt b hb
   rw [AeO this,← h.heap]; exact hv
  ·simp only [upd]; split <;> simp_all
  ·simp only [upd] at hl
   split at hl
   ·subst i; exact absurd hu hi
   ·exact hl
  ·simp only [upd] at hl
   split at hl
   ·cases hl
   ·exact hl
 refine ⟨⟨rfl,?_,?_,?_,?_,?_,?_,?_⟩,⟨L,fun b hb => .inl hb,?_,?_,by simp,rfl,rfl,rfl⟩⟩
 ·intro i b y z hl
  simp only [upd] at hl
  split at hl
  ·rename_i hi; subst hi
   simp only [Aei.live.injEq] at hl
   obtain ⟨rfl,rfl,rfl⟩:=hl
   exact ⟨o,by simp,ho⟩
  ·rename_i hi
   obtain ⟨o',h1,h2⟩:=h.obj i b y z hl
   have hb:=h.live_lt hl
   exact ⟨o',by simp [upd,hi,h1],h2.mono L (by simp only [h.heap]; exact Ag1 hb)⟩
 ·intro i hi
  by_cases e : i=id
  ·subst e; simp at hi
  ·simp only [upd,e,if_false] at hi ⊢
   exact h.emp i hi
 ·intro i hi hm
  by_cases e : i=id
  ·subst e; exact absurd (by simp) (hi w.heap.size base sz)
  ·simp only [upd,e,if_false] at hi hm ⊢
   exact h.non i hi hm
 ·intro i j b y z y' z' h1 h2
  simp only [upd] at h1 h2
  split at h1 <;> split at h2
  ·rename_i a b; rw [a,b]
  ·simp only [Aei.live.injEq] at h1
   have:=h.live_lt h2
   omega
  ·simp only [Aei.live.injEq] at h2
   have:=h.live_lt h1
   omega
  ·exact h.inj i j b y z y' z' h1 h2
 ·intro i b y z h1 h2
  simp only [upd] at h1
  split at h1
  ·simp only [Aei.live.injEq] at h1
   have:=h.zlt b h2
   omega
  ·exact h.sep i b y z h1 h2
 ·intro b hb
  have:=h.zlt b hb
  simp; omega
 ·obtain ⟨B,hB⟩:=h.fin
  refine ⟨max B (id+1),fun i hi=>?_⟩
  have e : i≠id:=by omega
  simp only [upd,e,if_false]
  exact hB i (by omega)
 ·intro i b y z h1
  simp only [upd] at h1
  split at h1
  ·simp only [Aei.live.injEq] at h1
   exact .inl (by omega)
  ·exact .inr ⟨i,y,z,h1⟩
 ·intro b hb _
  exact Ag1 hb
theorem AcX.allocZ {c : Cx} {H : Aac} {w : World} (h : AcX c H w) (x : Obj) :
 AcX ⟨fun b=>c.Z b∨b=w.heap.size,c.ι,w.heap.push x⟩ H (w.alloc x) ∧
 Aeu c w ⟨fun b=>c.Z b∨b=w.heap.size,c.ι,w.heap.push x⟩ (w.alloc x):=by
 have L : c.Le ⟨fun b=>c.Z b∨b=w.heap.size,c.ι,w.heap.push x⟩:=by
  refine ⟨fun _ h => .inl h,fun b hb o v hv=>?_,fun i hi=>hi,fun i b y z hi hl=>hl,fun i hi hl=>hl⟩
  have:=h.zlt b hb
  rw [AeO this,← h.heap]; exact hv
 refine ⟨⟨rfl,?_,h.emp,h.non,h.inj,?_,?_,h.fin⟩,⟨L,?_,fun i b y z h1 => .inr ⟨i,y,z,h1⟩,fun b hb _=>Ag1 hb,by simp,rfl,rfl,rfl⟩⟩
 ·intro i b y z hl
  obtain ⟨o',h1,h2⟩:=h.obj i b y z hl
  have hb:=h.live_lt hl
  exact ⟨o',h1,h2.mono L (by simp only [h.heap]; exact Ag1 hb)⟩
 ·intro i b y z h1 h2
  rcases h2 with h2 | h2
  ·exact h.sep i b y z h1 h2
  ·have:=h.live_lt h1; omega
 ·intro b hb
  rcases hb with hb | hb
  ·have:=h.zlt b hb; simp; omega
  ·subst hb; simp
 ·intro b hb
  rcases hb with hb | hb
  ·exact .inl hb
  ·exact .inr (.inl (by omega))
theorem AcX.modify {c : Cx} {H : Aac} {w w' : World} (h : AcX c H w) {id b base sz : Nat} (hl : c.ι id = .live b base sz)
 (hs : w'.heap.size=w.heap.size) (hk : ∀ k,k≠b→w'.heap[k]? = w.heap[k]?) (h1 : w'.os=w.os) (h2 : w'.tape=w.tape) (h3 : w'.output=w.output)
 (o : AaZ) (ho : c.Le ⟨c.Z,c.ι,w'.heap⟩→AbQ ⟨c.Z,c.ι,w'.heap⟩ o b base sz) :
 AcX ⟨c.Z,c.ι,w'.heap⟩ (upd H id (some o)) w'∧Aeu c w ⟨c.Z,c.ι,w'.heap⟩ w':=by
 have L : c.Le ⟨c.Z,c.ι,w'.heap⟩:=by
  refine ⟨fun _ h=>h,fun k hk' i v hv=>?_,fun i hi=>hi,fun i b y z hi hl=>hl,fun i hi hl=>hl⟩
  have hne : k≠b:=fun e=>h.sep id b base sz hl (e ▸ hk')
  simp only [Aa6,hk k hne,← h.heap]
  exact hv
 refine ⟨⟨rfl,?_,?_,?_,h.inj,h.sep,fun b hb=>by rw [hs]; exact h.zlt b hb,h.fin⟩,⟨L,fun b hb => .inl hb,fun i b y z h1 => .inr ⟨i,y,z,h1⟩,?_,by omega,h1,h2,h3⟩⟩
 ·intro i b' y z hl'
  by_cases e : i=id
  ·subst e
   have hl'' : c.ι i = .live b' y z:=hl'
   rw [hl] at hl''
   simp only [Aei.live.injEq] at hl''
   obtain ⟨rfl,rfl,rfl⟩:=hl''
   exact ⟨o,by simp,ho L⟩
  ·obtain ⟨o',h1,h2⟩:=h.obj i b' y z hl'
   have hne : b'≠b:=fun e'=>e (h.inj i id b' y z base sz hl' (e' ▸ hl))
   exact ⟨o',by simp [upd,e,h1],h2.mono L (by simp only [h.heap]; exact hk b' hne)⟩
 ·intro i hi
  have e : i≠id:=by intro e; subst e; simp only at hi; rw [hl] at hi; cases hi
  simp only [upd,e,if_false]; exact h.emp i hi
 ·intro i hi hm
  by_cases e : i=id
  ·subst e; exact absurd hl (hi b base sz)
  ·simp only [upd,e,if_false]; exact h.non i hi hm
 ·intro k _ hn
  exact hk k (fun e=>hn id base sz (e ▸ hl))
theorem AcX.kill {c : Cx} {H : Aac} {w : World} (h : AcX c H w) {id : Nat} (hid : c.ι id ≠ .unused) :
 AcX ⟨c.Z,upd c.ι id .dead,c.h⟩ (upd H id none) w∧Aeu c w ⟨c.Z,upd c.ι id .dead,c.h⟩ w:=by
 have L : c.Le ⟨c.Z,upd c.ι id .dead,c.h⟩:=by
  refine ⟨fun _ h=>h,fun b hb o v hv=>hv,fun i hi=>?_,fun i b y z hi hl=>?_,fun i hi hl=>?_⟩
  ·simp only [upd]; split <;> simp_all
  ·simp only [upd] at hl; split at hl
   ·cases hl
   ·exact hl
  ·simp only [upd] at hl; split at hl
   ·cases hl
   ·exact hl
 have lv : ∀ i b y z,upd c.ι id .dead i = .live b y z→i≠id∧c.ι i = .live b y z:=by
  intro i b y z hl
  simp only [upd] at hl
  split at hl
  ·cases hl
  ·exact ⟨by assumption,hl⟩
 refine ⟨⟨h.heap,?_,?_,?_,?_,?_,h.zlt,?_⟩,⟨L,fun b hb => .inl hb,fun i b y z h1 => .inr ⟨i,y,z,(lv i b y z h1).2⟩,fun _ _ _=>rfl,Nat.le_refl _,rfl,rfl,rfl⟩⟩
 ·intro i b y z hl
  obtain ⟨hne,hl'⟩:=lv i b y z hl
  obtain ⟨o',h1,h2⟩:=h.obj i b y z hl'
  exact ⟨o',by simp [upd,hne,h1],h2.mono L rfl⟩
 ·intro i hi
  by_cases e : i=id
  ·subst e; simp at hi
  ·simp only [upd,e,if_false] at hi ⊢; exact h.emp i hi
 ·intro i hi hm
  by_cases e : i=id
  ·subst e; simp
  ·simp only [upd,e,if_false] at hi hm ⊢; exact h.non i hi hm
 ·intro i j b y z y' z' h1 h2
  exact h.inj i j b y z y' z' (lv _ _ _ _ h1).2 (lv _ _ _ _ h2).2
 ·intro i b y z h1
  exact h.sep i b y z (lv _ _ _ _ h1).2
 ·obtain ⟨B,hB⟩:=h.fin
  refine ⟨max B (id+1),fun i hi=>?_⟩
  have e : i≠id:=by omega
  simp only [upd,e,if_false]
  exact hB i (by omega)
theorem AcX.freeze {c : Cx} {H : Aac} {w : World} (h : AcX c H w) {id b base sz : Nat} (hl : c.ι id = .live b base sz) :
 AcX ⟨fun k=>c.Z k∨k=b,upd c.ι id .dead,c.h⟩ (upd H id none) w∧Aeu c w ⟨fun k=>c.Z k∨k=b,upd c.ι id .dead,c.h⟩ w:=by
 obtain ⟨hr,g⟩:=h.kill (id:=id) (by rw [hl]; simp)
 have L : c.Le ⟨fun k=>c.Z k∨k=b,upd c.ι id .dead,c.h⟩:=⟨fun _ h => .inl h,fun _ _ _ _ hv=>hv,g.le.used,g.le.live,g.le.emp⟩
 have lv : ∀ i b y z,upd c.ι id .dead i = .live b y z→i≠id∧c.ι i = .live b y z:=by
  intro i b y z hl
  simp only [upd] at hl
  split at hl
  ·cases hl
  ·exact ⟨by assumption,hl⟩
 refine ⟨⟨hr.heap,?_,hr.emp,hr.non,hr.inj,?_,?_,hr.fin⟩,⟨L,?_,g.nb,fun _ _ _=>rfl,Nat.le_refl _,rfl,rfl,rfl⟩⟩
 ·intro i b' y z hl'
  obtain ⟨hne,hl''⟩:=lv i b' y z hl'
  obtain ⟨o',h1,h2⟩:=h.obj i b' y z hl''
  exact ⟨o',by simp [upd,hne,h1],h2.mono L rfl⟩
 ·intro i b' y z h1 h2
  obtain ⟨hne,hl''⟩:=lv i b' y z h1
  rcases h2 with h2 | h2
  ·exact h.sep i b' y z hl'' h2
  ·subst h2; exact hne (h.inj i id b' y z base sz hl'' hl)
 ·intro k hk
  rcases hk with hk | hk
  ·exact h.zlt k hk
  ·subst hk; exact h.live_lt hl
 ·intro k hk
  rcases hk with hk | hk
  ·exact .inl hk
  ·subst hk; exact .inr (.inr ⟨id,base,sz,hl⟩)
theorem AcX.rename {c : Cx} {H : Aac} {w : World} (h : AcX c H w) {id id' b base sz : Nat} (hl : c.ι id = .live b base sz) (hu : c.ι id' = .unused) (base' : Nat) (o : AaZ)
 (ho : c.Le ⟨c.Z,upd (upd c.ι id .dead) id' (.live b base' sz),c.h⟩→AbQ ⟨c.Z,upd (upd c.ι id .dead) id' (.live b base' sz),c.h⟩ o b base' sz) :
 AcX ⟨c.Z,upd (upd c.ι id .dead) id' (.live b base' sz),c.h⟩ (upd (upd H id none) id' (some o)) w ∧
 Aeu c w ⟨c.Z,upd (upd c.ι id .dead) id' (.live b base' sz),c.h⟩ w:=by
 have hne : id≠id':=fun e=>by rw [e,hu] at hl; cases hl
 obtain ⟨hr,g⟩:=h.kill (id:=id) (by rw [hl]; simp)
 have lv : ∀ i b' y z,upd (upd c.ι id .dead) id' (.live b base' sz) i = .live b' y z→(i=id'∧b'=b∧y=base'∧z=sz)∨(i≠id'∧i≠id∧c.ι i = .live b' y z):=by
  intro i b' y z h1
  simp only [upd] at h1
  split at h1
  ·simp only [Aei.live.injEq] at h1
   exact .inl ⟨by assumption,h1.1.symm,h1.2.1.symm,h1.2.2.symm⟩
  ·split at h1
   ·cases h1
   ·exact .inr ⟨by assumption,by assumption,h1⟩
 have L : c.Le ⟨c.Z,upd (upd c.ι id .dead) id' (.live b base' sz),c.h⟩:=by
  refine ⟨fun _ h=>h,fun _ _ _ _ hv=>hv,fun i hi=>?_,fun i b' y z hi h1=>?_,fun i hi h1=>?_⟩
  ·simp only [upd]; split
   ·simp
   ·split <;> simp_all
  ·rcases lv i b' y z h1 with ⟨rfl,_⟩ | ⟨_,_,h2⟩
   ·exact absurd hu hi
   ·exact h2
  ·simp only [upd] at h1
   split at h1
   ·cases h1
   ·split at h1
    ·cases h1
    ·exact h1
 refine ⟨⟨h.heap,?_,?_,?_,?_,?_,h.zlt,?_⟩,⟨L,fun b hb => .inl hb,?_,fun _ _ _=>rfl,Nat.le_refl _,rfl,rfl,rfl⟩⟩
 ·intro i b' y z h1
  rcases lv i b' y z h1 with ⟨rfl,rfl,rfl,rfl⟩ | ⟨h3,h4,h2⟩
  ·exact ⟨o,by simp,ho L⟩
  ·obtain ⟨o',h5,h6⟩:=h.obj i b' y z h2
   exact ⟨o',by simp [upd,h3,h4,h5],h6.mono L rfl⟩
 ·intro i hi
  by_cases e : i=id'
  ·subst e; simp at hi
  ·by_cases e2 : i=id
   ·subst e2; simp [upd,e] at hi
   ·simp only [upd,e,e2,if_false] at hi ⊢; exact h.emp i hi
 ·intro i hi hm
  by_cases e : i=id'
  ·subst e; exact absurd (by simp) (hi b base' sz)
  ·by_cases e2 : i=id
   ·subst e2; simp [upd,e]
   ·simp only [upd,e,e2,if_false] at hi hm ⊢; exact h.non i hi hm
 ·intro i j b' y z y' z' h1 h2
  rcases lv i b' y z h1 with ⟨rfl,rfl,rfl,rfl⟩ | ⟨h3,h4,h5⟩ <;> rcases lv j b' y' z' h2 with ⟨rfl,h6,h7,h8⟩ | ⟨h6,h7,h8⟩
  ·rfl
  ·exact absurd (h.inj j id b' y' z' base z h8 hl) h7
  ·subst h6; exact absurd (h.inj i id b' y z base sz h5 hl) h4
  ·exact h.inj i j b' y z y' z' h5 h8
 ·intro i b' y z h1 h2
  rcases lv i b' y z h1 with ⟨rfl,rfl,rfl,rfl⟩ | ⟨h3,h4,h5⟩
  ·exact h.sep id b' base z hl h2
  ·exact h.sep i b' y z h5 h2
 ·obtain ⟨B,hB⟩:=h.fin
  refine ⟨max B (max (id+1) (id'+1)),fun i hi=>?_⟩
  have e : i≠id:=by omega
  have e' : i≠id':=by omega
  simp only [upd,e,e',if_false]
  exact hB i (by omega)
 ·intro i b' y z h1
  rcases lv i b' y z h1 with ⟨rfl,rfl,rfl,rfl⟩ | ⟨h3,h4,h5⟩
  ·exact .inr ⟨id,base,z,hl⟩
  ·exact .inr ⟨i,y,z,h5⟩
end Go.Abs
