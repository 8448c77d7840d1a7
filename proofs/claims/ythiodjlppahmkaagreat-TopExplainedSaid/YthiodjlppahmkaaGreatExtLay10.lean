import Derived.Test.YthiodjlppahmkaaGreatExtLay9
set_option linter.unusedVariables false
set_option linter.unusedSimpArgs false
namespace Go.Abs
open Go.RowKit (Below)
mutual
def idsIn (S : Nat→Prop) : AV→Prop
 | .ptr id _=>S id
 | .slc id _ _ _ _=>S id
 | .map id=>S id
 | .lst _ _ xs=>AbP S xs
 | .cptr cs=>AbP S cs
 | .agg cs=>AbP S cs
 | .tup xs=>AbP S xs
 | .fn _ cs=>AbP S cs
 | .ifc _ x=>idsIn S x
 | .nn x=>idsIn S x
 | .rm x=>idsIn S x
 | _=>True
def AbP (S : Nat→Prop) : List AV→Prop
 | []=>True
 | x::xs=>idsIn S x∧AbP S xs
end
theorem Aby {S : Nat→Prop} : ∀ {xs : List AV},AbP S xs↔∀ x ∈ xs,idsIn S x
 | []=>by simp [AbP]
 | x::xs=>by simp [AbP,Aby (xs:=xs)]
structure Cx.LeOn (S : Nat→Prop) (c c' : Cx) : Prop where
 z : ∀ b,c.Z b→c'.Z b
 cell : ∀ b,c.Z b→∀ o v,Aa6 c.h b o=some v→Aa6 c'.h b o=some v
 used : ∀ id,S id→c.ι id ≠ .unused→c'.ι id ≠ .unused
 live : ∀ id b base sz,S id→c.ι id ≠ .unused→c'.ι id = .live b base sz→c.ι id = .live b base sz
 emp : ∀ id,S id→c.ι id ≠ .unused→c'.ι id = .emp→c.ι id = .emp
mutual
theorem Rep.on {S : Nat→Prop} {c c' : Cx} (L : c.LeOn S c') : ∀ (x : AV) (v : Value),idsIn S x→Rep c x v→Rep c' x v
 | .undef,_,_,_=>by simp [Rep]
 | .skip,_,_,h=>by simpa [Rep] using h
 | .bool _,_,_,h=>by simpa [Rep] using h
 | .int _ _,_,_,h=>by simpa [Rep] using h
 | .str _,_,_,h=>by simpa [Rep] using h
 | .lst nl fl xs,v,i,h=>by
  simp only [Rep] at h ⊢
  simp only [idsIn] at i
  rcases h with h | ⟨hn,a,b,off,cap,es,vs,hv,h1,h2,hfl,hz,he,hr⟩
  ·exact .inl h
  ·exact .inr ⟨hn,a,b,off,cap,es,vs,hv,h1,h2,hfl,fun hc=>⟨(hz hc).1,L.z b (hz hc).2⟩,fun j hj=>⟨(he j hj).1,(he j hj).2.mono (L.cell b (hz (by omega)).2)⟩,AaD.on L xs vs i hr⟩
 | .cptr cs,v,i,h=>by
  simp only [Rep] at h ⊢
  simp only [idsIn] at i
  obtain ⟨b,off,vs,hv,hz,hc,hr⟩:=h
  exact ⟨b,off,vs,hv,L.z b hz,hc.mono (L.cell b hz),AaD.on L cs vs i hr⟩
 | .ptr id off,v,i,h=>by
  simp only [Rep] at h ⊢
  exact ⟨L.used id i h.1,h.2.1,fun b base sz hl=>h.2.2 b base sz (L.live id b base sz i h.1 hl)⟩
 | .nilptr,_,_,h=>by simpa [Rep] using h
 | .slc id off es len full,v,i,h=>by
  simp only [Rep] at h ⊢
  exact ⟨L.used id i h.1,h.2.1,fun he=>h.2.2.1 (L.emp id i h.1 he),fun b base sz hl=>h.2.2.2 b base sz (L.live id b base sz i h.1 hl)⟩
 | .agg cs,v,i,h=>by
  simp only [Rep] at h ⊢
  obtain ⟨vs,hv,hr⟩:=h
  exact ⟨vs,hv,AaD.on L cs _ i hr⟩
 | .tup cs,v,i,h=>by
  simp only [Rep] at h ⊢
  obtain ⟨vs,hv,hr⟩:=h
  exact ⟨vs,hv,AaD.on L cs _ i hr⟩
 | .fn f cs,v,i,h=>by
  simp only [Rep] at h ⊢
  obtain ⟨vs,hv,hr⟩:=h
  exact ⟨vs,hv,AaD.on L cs _ i hr⟩
 | .nilfn,_,_,h=>by simpa [Rep] using h
 | .map id,v,i,h=>by
  simp only [Rep] at h ⊢
  exact ⟨L.used id i h.1,h.2.1,fun b base sz hl=>h.2.2 b base sz (L.live id b base sz i h.1 hl)⟩
 | .nilmap,_,_,h=>by simpa [Rep] using h
 | .ifc t x,v,i,h=>by
  simp only [Rep] at h ⊢
  obtain ⟨u,hv,hr⟩:=h
  exact ⟨u,hv,Rep.on L x u i hr⟩
 | .nilifc,_,_,h=>by simpa [Rep] using h
 | .nn x,v,i,h=>by
  simp only [Rep] at h ⊢
  simp only [idsIn] at i
  exact ⟨Rep.on L x v i h.1,h.2⟩
 | .rm x,v,i,h=>by
  simp only [Rep] at h ⊢
  simp only [idsIn] at i
  exact ⟨Rep.on L x v i h.1,h.2⟩
theorem AaD.on {S : Nat→Prop} {c c' : Cx} (L : c.LeOn S c') : ∀ (xs : List AV) (vs : List Value),AbP S xs→AaD c xs vs→AaD c' xs vs
 | [],_,_,h=>by simpa [AaD] using h
 | x::xs,vs,i,h=>by
  simp only [AaD] at h ⊢
  obtain ⟨v,rest,hv,h1,h2⟩:=h
  exact ⟨v,rest,hv,Rep.on L x v i.1 h1,AaD.on L xs rest i.2 h2⟩
end
mutual
theorem Rep.ids {c : Cx} : ∀ (x : AV) (v : Value),Rep c x v→idsIn (fun id=>c.ι id ≠ .unused) x
 | .undef,_,_=>by simp [idsIn]
 | .skip,_,_=>by simp [idsIn]
 | .bool _,_,_=>by simp [idsIn]
 | .int _ _,_,_=>by simp [idsIn]
 | .str _,_,_=>by simp [idsIn]
 | .lst nl fl xs,v,h=>by
  simp only [Rep] at h
  simp only [idsIn]
  rcases h with ⟨rfl,_⟩ | ⟨_,a,b,off,cap,es,vs,_,_,_,_,_,_,hr⟩
  ·simp [AbP]
  ·exact AaD.ids xs vs hr
 | .cptr cs,v,h=>by
  simp only [Rep] at h
  obtain ⟨b,off,vs,hv,hz,hc,hr⟩:=h
  exact AaD.ids cs vs hr
 | .ptr id off,v,h=>by simp only [Rep] at h; exact h.1
 | .nilptr,_,_=>by simp [idsIn]
 | .slc id off es len full,v,h=>by simp only [Rep] at h; exact h.1
 | .agg cs,v,h=>by
  simp only [Rep] at h
  obtain ⟨vs,hv,hr⟩:=h
  exact AaD.ids cs _ hr
 | .tup cs,v,h=>by
  simp only [Rep] at h
  obtain ⟨vs,hv,hr⟩:=h
  exact AaD.ids cs _ hr
 | .fn f cs,v,h=>by
  simp only [Rep] at h
  obtain ⟨vs,hv,hr⟩:=h
  exact AaD.ids cs _ hr
 | .nilfn,_,_=>by simp [idsIn]
 | .map id,v,h=>by simp only [Rep] at h; exact h.1
 | .nilmap,_,_=>by simp [idsIn]
 | .ifc t x,v,h=>by
  simp only [Rep] at h
  obtain ⟨u,hv,hr⟩:=h
  exact Rep.ids x u hr
 | .nilifc,_,_=>by simp [idsIn]
 | .nn x,v,h=>by
  simp only [Rep] at h
  exact Rep.ids x v h.1
 | .rm x,v,h=>by
  simp only [Rep] at h
  exact Rep.ids x v h.1
theorem AaD.ids {c : Cx} : ∀ (xs : List AV) (vs : List Value),AaD c xs vs→AbP (fun id=>c.ι id ≠ .unused) xs
 | [],_,_=>by simp [AbP]
 | x::xs,vs,h=>by
  simp only [AaD] at h
  obtain ⟨v,rest,hv,h1,h2⟩:=h
  exact ⟨Rep.ids x v h1,AaD.ids xs rest h2⟩
end
mutual
theorem idsIn.mono {S S' : Nat→Prop} (h : ∀ i,S i→S' i) : ∀ x,idsIn S x→idsIn S' x
 | .ptr _ _,k=>h _ k
 | .slc _ _ _ _ _,k=>h _ k
 | .map _,k=>h _ k
 | .lst _ _ xs,k=>AbP.mono h xs k
 | .cptr xs,k=>AbP.mono h xs k
 | .agg xs,k=>AbP.mono h xs k
 | .tup xs,k=>AbP.mono h xs k
 | .fn _ xs,k=>AbP.mono h xs k
 | .ifc _ x,k=>idsIn.mono h x k
 | .undef,_=>by simp [idsIn]
 | .skip,_=>by simp [idsIn]
 | .bool _,_=>by simp [idsIn]
 | .int _ _,_=>by simp [idsIn]
 | .str _,_=>by simp [idsIn]
 | .nilptr,_=>by simp [idsIn]
 | .nilfn,_=>by simp [idsIn]
 | .nilmap,_=>by simp [idsIn]
 | .nilifc,_=>by simp [idsIn]
 | .nn x,k=>idsIn.mono h x k
 | .rm x,k=>idsIn.mono h x k
theorem AbP.mono {S S' : Nat→Prop} (h : ∀ i,S i→S' i) : ∀ xs,AbP S xs→AbP S' xs
 | [],_=>by simp [AbP]
 | x::xs,k=>⟨idsIn.mono h x k.1,AbP.mono h xs k.2⟩
end
def AaZ.idsIn (S : Nat→Prop) : AaZ→Prop
 | .cells cs=>AbP S cs
 | .grow cs=>AbP S cs
 | .mp es=>∀ p ∈ es,Abs.idsIn S p.1∧Abs.idsIn S p.2
 | .it _ _=>True
theorem AbQ.ids {c : Cx} {o : AaZ} {b base sz : Nat} (h : AbQ c o b base sz) : o.idsIn (fun id=>c.ι id ≠ .unused):=by
 cases o with
 | cells cs=>obtain ⟨_,_,_,vs,_,_,_,_,h5,_⟩:=h; exact AaD.ids cs vs h5
 | grow cs=>obtain ⟨_,_,_,_,vs,_,_,_,_,h5,_⟩:=h; exact AaD.ids cs vs h5
 | mp es =>
  obtain ⟨ents,clock,h1,h2,h3⟩:=h
  intro p hp
  obtain ⟨i,hi,rfl⟩:=List.getElem_of_mem hp
  exact ⟨Rep.ids _ _ (h3 i (by omega) hi).1,Rep.ids _ _ (h3 i (by omega) hi).2⟩
 | it _ _=>trivial
theorem AbQ.on {S : Nat→Prop} {c c' : Cx} (L : c.LeOn S c') {o : AaZ} {b base sz : Nat} (i : o.idsIn S) (e : c'.h[b]? = c.h[b]?) (H : AbQ c o b base sz) : AbQ c' o b base sz:=by
 cases o with
 | cells cs =>
  obtain ⟨cur,T,fr,vs,h1,h2,h3,h4,h5,h6⟩:=H
  exact ⟨cur,T,fr,vs,e.trans h1,h2,h3,h4,h5.on L _ _ i,h6.of_block e⟩
 | grow cs =>
  obtain ⟨hne,cur,T,fr,vs,h1,h2,h3,h4,h5,h6⟩:=H
  exact ⟨hne,cur,T,fr,vs,e.trans h1,h2,h3,h4,h5.on L _ _ i,h6.of_block e⟩
 | mp es =>
  obtain ⟨ents,clock,h1,h2,h3⟩:=H
  exact ⟨ents,clock,e.trans h1,h2,fun j a b=>⟨(h3 j a b).1.on L _ _ (i _ (List.getElem_mem b)).1,(h3 j a b).2.on L _ _ (i _ (List.getElem_mem b)).2⟩⟩
 | it _ _=>exact ⟨H.1,H.2.1,e.trans H.2.2⟩
inductive Res where
 | val (r : AV)
 | row (es : Nat) (o : AaZ) (len : Nat)
 | box (o : AaZ)
def ArA (c0 c : Cx) (w : World) (b : Nat) : Prop:=(w.heap.size≤b∨∃ id x y,c0.ι id = .live b x y)∧¬ c.Z b∧(∀ id x y,c.ι id ≠ .live b x y)
def Ass (c0 c : Cx) (w : World) : Res→Value→Prop
 | .val r,v=>Rep c r v
 | .row es o len,v=>(o = .grow []∧len=0∧∃ a,v = .slice a 0 0) ∨
  ∃ b base off cap sz,v = .slice (some ⟨b,off,none⟩) len cap∧(0<cap→off=base)∧len≤cap∧cap≤maxLen∧base+cap*es≤sz∧ArA c0 c w b∧AbQ c o b base sz
 | .box o,v=>∃ b base sz,v = .pointer (some ⟨b,base,none⟩)∧ArA c0 c w b∧AbQ c o b base sz
def Ayt (P : Program) (f : FuncId) (args : List AV) (H : Aac) (r : Res) (H' : Aac) (T W : List Nat) : Prop :=
 ∀ (c : Cx) (H1 : Aac) (w : World) (vs : Array Value),AcX c H1 w→(∀ id ∈ T,H1 id=H id)→AaD c args vs.toList →
  Calls P f vs w fun e w'=>∃ v c',e = .returned v∧AcX c' (fun id=>if id ∈ W then H' id else H1 id) w'∧Ass c c' w r v∧Aeu c w c' w'∧(∀ id,c.ι id = .unused→c'.ι id = .unused)
def AsJ (P : Program) (f : FuncId) (args : List AV) (r : AV) : Prop :=
 ∀ (Z : Nat→Prop) (w : World) (vs : Array Value),(∀ b,Z b→b<w.heap.size)→AaD ⟨Z,fun _ => .unused,w.heap⟩ args vs.toList →
  Calls P f vs w fun e w'=>∃ v,e = .returned v∧Below w.heap.size w w'∧Rep ⟨fun b=>Z b∨(w.heap.size≤b∧b<w'.heap.size),fun _ => .unused,w'.heap⟩ r v
end Go.Abs
