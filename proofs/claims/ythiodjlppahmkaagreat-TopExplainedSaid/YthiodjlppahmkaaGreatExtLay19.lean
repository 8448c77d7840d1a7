import Derived.LoopN
import Derived.Test.YthiodjlppahmkaaGreatExtLay18
set_option linter.unusedVariables false
set_option linter.unusedSimpArgs false
namespace Go.Abs
open Go.RowKit (Below)
mutual
def ren (σ : Nat→Nat) : AV→AV
 | .ptr id off => .ptr (σ id) off
 | .slc id off es len f => .slc (σ id) off es len f
 | .map id => .map (σ id)
 | .agg cs => .agg (AdP σ cs)
 | .tup cs => .tup (AdP σ cs)
 | .fn f cs => .fn f (AdP σ cs)
 | .ifc t x => .ifc t (ren σ x)
 | .undef => .undef
 | .skip => .skip
 | .bool b => .bool b
 | .int k n => .int k n
 | .str s => .str s
 | .lst a b xs => .lst a b xs
 | .cptr cs => .cptr cs
 | .nilptr => .nilptr
 | .nilfn => .nilfn
 | .nilmap => .nilmap
 | .nilifc => .nilifc
 | .nn x => .nn (ren σ x)
 | .rm x => .rm (ren σ x)
def AdP (σ : Nat→Nat) : List AV→List AV
 | []=>[]
 | x::xs=>ren σ x::AdP σ xs
end
mutual
def gd (S : Nat→Prop) : AV→Prop
 | .ptr id _=>S id
 | .slc id _ _ _ _=>S id
 | .map id=>S id
 | .agg cs=>gdL S cs
 | .tup cs=>gdL S cs
 | .fn _ cs=>gdL S cs
 | .ifc _ x=>gd S x
 | .undef=>True
 | .skip=>True
 | .bool _=>True
 | .int _ _=>True
 | .str _=>True
 | .lst _ _ xs=>AbP (fun _=>False) xs
 | .cptr cs=>AbP (fun _=>False) cs
 | .nilptr=>True
 | .nilfn=>True
 | .nilmap=>True
 | .nilifc=>True
 | .nn x=>gd S x
 | .rm x=>gd S x
def gdL (S : Nat→Prop) : List AV→Prop
 | []=>True
 | x::xs=>gd S x∧gdL S xs
end
theorem AeH {σ : Nat→Nat} : ∀ (xs : List AV),(AdP σ xs).length=xs.length
 | []=>rfl
 | x::xs=>by simp [AdP,AeH xs]
theorem Akh {σ : Nat→Nat} {xs : List AV} : AdP σ xs = []↔xs = []:=by cases xs <;> simp [AdP]
mutual
theorem Rep.ren {S : Nat→Prop} {c c' : Cx} {σ : Nat→Nat} (hι : ∀ id,S id→c'.ι (σ id)=c.ι id) (hz : ∀ b,c.Z b→c'.Z b) (hc : ∀ b,c.Z b→∀ o v,Aa6 c.h b o=some v→Aa6 c'.h b o=some v) :
 ∀ (x : AV) (v : Value),gd S x→Rep c x v→Rep c' (ren σ x) v
 | .ptr id off,v,i,h=>by
  simp only [Rep,Abs.ren,gd] at *
  rw [hι id i]; exact h
 | .slc id off es len f,v,i,h=>by
  simp only [Rep,Abs.ren,gd] at *
  rw [hι id i]; exact h
 | .map id,v,i,h=>by
  simp only [Rep,Abs.ren,gd] at *
  rw [hι id i]; exact h
 | .agg cs,v,i,h=>by
  simp only [Rep,Abs.ren,gd] at *
  obtain ⟨vs,hv,hr⟩:=h
  exact ⟨vs,hv,AaD.ren hι hz hc cs _ i hr⟩
 | .tup cs,v,i,h=>by
  simp only [Rep,Abs.ren,gd] at *
  obtain ⟨vs,hv,hr⟩:=h
  exact ⟨vs,hv,AaD.ren hι hz hc cs _ i hr⟩
 | .fn f cs,v,i,h=>by
  simp only [Rep,Abs.ren,gd] at *
  obtain ⟨vs,hv,hr⟩:=h
  exact ⟨vs,hv,AaD.ren hι hz hc cs _ i hr⟩
 | .ifc t x,v,i,h=>by
  simp only [Rep,Abs.ren,gd] at *
  obtain ⟨u,hv,hr⟩:=h
  exact ⟨u,hv,Rep.ren hι hz hc x u i hr⟩
 | .undef,_,_,_=>by simp [Rep,Abs.ren]
 | .skip,_,_,h=>by simpa [Rep,Abs.ren] using h
 | .bool _,_,_,h=>by simpa [Rep,Abs.ren] using h
 | .int _ _,_,_,h=>by simpa [Rep,Abs.ren] using h
 | .str _,_,_,h=>by simpa [Rep,Abs.ren] using h
 | .lst a b xs,v,i,h=>h.noIds (x := .lst a b xs) (by simpa [noIds,idsIn,gd] using i) hz hc
 | .cptr cs,v,i,h=>h.noIds (x := .cptr cs) (by simpa [noIds,idsIn,gd] using i) hz hc
 | .nilptr,_,_,h=>by simpa [Rep,Abs.ren] using h
 | .nilfn,_,_,h=>by simpa [Rep,Abs.ren] using h
 | .nilmap,_,_,h=>by simpa [Rep,Abs.ren] using h
 | .nilifc,_,_,h=>by simpa [Rep,Abs.ren] using h
 | .nn x,v,i,h=>by
  simp only [Rep,Abs.ren,gd] at *
  exact ⟨Rep.ren hι hz hc x v i h.1,h.2⟩
 | .rm x,v,i,h=>by
  simp only [Rep,Abs.ren,gd] at *
  exact ⟨Rep.ren hι hz hc x v i h.1,h.2⟩
theorem AaD.ren {S : Nat→Prop} {c c' : Cx} {σ : Nat→Nat} (hι : ∀ id,S id→c'.ι (σ id)=c.ι id) (hz : ∀ b,c.Z b→c'.Z b) (hc : ∀ b,c.Z b→∀ o v,Aa6 c.h b o=some v→Aa6 c'.h b o=some v) :
 ∀ (xs : List AV) (vs : List Value),gdL S xs→AaD c xs vs→AaD c' (AdP σ xs) vs
 | [],_,_,h=>by simpa [AaD,AdP] using h
 | x::xs,vs,i,h=>by
  simp only [AaD,AdP,gdL] at *
  obtain ⟨v,rest,hv,h1,h2⟩:=h
  exact ⟨v,rest,hv,Rep.ren hι hz hc x v i.1 h1,AaD.ren hι hz hc xs rest i.2 h2⟩
end
mutual
theorem Rep.pull {S : Nat→Prop} {c0 c : Cx} {σ : Nat→Nat} (hι : ∀ id,S id→c0.ι id=c.ι (σ id)) (hz : ∀ b,c.Z b→c0.Z b) (hc : ∀ b,c.Z b→∀ o v,Aa6 c.h b o=some v→Aa6 c0.h b o=some v) :
 ∀ (x : AV) (v : Value),gd S x→Rep c (Abs.ren σ x) v→Rep c0 x v
 | .ptr id off,v,i,h=>by
  simp only [Rep,Abs.ren,gd] at *
  rw [hι id i]; exact h
 | .slc id off es len f,v,i,h=>by
  simp only [Rep,Abs.ren,gd] at *
  rw [hι id i]; exact h
 | .map id,v,i,h=>by
  simp only [Rep,Abs.ren,gd] at *
  rw [hι id i]; exact h
 | .agg cs,v,i,h=>by
  simp only [Rep,Abs.ren,gd] at *
  obtain ⟨vs,hv,hr⟩:=h
  exact ⟨vs,hv,AaD.pull hι hz hc cs _ i hr⟩
 | .tup cs,v,i,h=>by
  simp only [Rep,Abs.ren,gd] at *
  obtain ⟨vs,hv,hr⟩:=h
  exact ⟨vs,hv,AaD.pull hι hz hc cs _ i hr⟩
 | .fn f cs,v,i,h=>by
  simp only [Rep,Abs.ren,gd] at *
  obtain ⟨vs,hv,hr⟩:=h
  exact ⟨vs,hv,AaD.pull hι hz hc cs _ i hr⟩
 | .ifc t x,v,i,h=>by
  simp only [Rep,Abs.ren,gd] at *
  obtain ⟨u,hv,hr⟩:=h
  exact ⟨u,hv,Rep.pull hι hz hc x u i hr⟩
 | .undef,_,_,_=>by simp [Rep]
 | .skip,_,_,h=>by simpa [Rep,Abs.ren] using h
 | .bool _,_,_,h=>by simpa [Rep,Abs.ren] using h
 | .int _ _,_,_,h=>by simpa [Rep,Abs.ren] using h
 | .str _,_,_,h=>by simpa [Rep,Abs.ren] using h
 | .lst a b xs,v,i,h=>Rep.noIds (x := .lst a b xs) (by simpa only [Abs.ren] using h) (by simpa [noIds,idsIn,gd] using i) hz hc
 | .cptr cs,v,i,h=>Rep.noIds (x := .cptr cs) (by simpa only [Abs.ren] using h) (by simpa [noIds,idsIn,gd] using i) hz hc
 | .nilptr,_,_,h=>by simpa [Rep,Abs.ren] using h
 | .nilfn,_,_,h=>by simpa [Rep,Abs.ren] using h
 | .nilmap,_,_,h=>by simpa [Rep,Abs.ren] using h
 | .nilifc,_,_,h=>by simpa [Rep,Abs.ren] using h
 | .nn x,v,i,h=>by
  simp only [Rep,Abs.ren,gd] at *
  exact ⟨Rep.pull hι hz hc x v i h.1,h.2⟩
 | .rm x,v,i,h=>by
  simp only [Rep,Abs.ren,gd] at *
  exact ⟨Rep.pull hι hz hc x v i h.1,h.2⟩
theorem AaD.pull {S : Nat→Prop} {c0 c : Cx} {σ : Nat→Nat} (hι : ∀ id,S id→c0.ι id=c.ι (σ id)) (hz : ∀ b,c.Z b→c0.Z b) (hc : ∀ b,c.Z b→∀ o v,Aa6 c.h b o=some v→Aa6 c0.h b o=some v) :
 ∀ (xs : List AV) (vs : List Value),gdL S xs→AaD c (AdP σ xs) vs→AaD c0 xs vs
 | [],_,_,h=>by simpa [AaD,AdP] using h
 | x::xs,vs,i,h=>by
  simp only [AaD,AdP,gdL] at *
  obtain ⟨v,rest,hv,h1,h2⟩:=h
  exact ⟨v,rest,hv,Rep.pull hι hz hc x v i.1 h1,AaD.pull hι hz hc xs rest i.2 h2⟩
end
def AeR (σ : Nat→Nat) : AaZ→AaZ
 | .cells cs => .cells (AdP σ cs)
 | .grow cs => .grow (AdP σ cs)
 | .mp es => .mp (es.map fun p=>(ren σ p.1,ren σ p.2))
 | .it s p => .it s p
def gdO (S : Nat→Prop) : AaZ→Prop
 | .cells cs=>gdL S cs
 | .grow cs=>gdL S cs
 | .mp es=>∀ p ∈ es,gd S p.1∧gd S p.2
 | .it _ _=>True
theorem Agx {σ : Nat→Nat} {o : AaZ} (h : AeR σ o = .grow []) : o = .grow []:=by
 cases o with
 | cells cs=>cases h
 | grow cs=>simp only [AeR,AaZ.grow.injEq] at h; rw [Akh.1 h]
 | mp es=>cases h
 | it _ _=>cases h
theorem AbQ.ren {S : Nat→Prop} {c c' : Cx} {σ : Nat→Nat} (hι : ∀ id,S id→c'.ι (σ id)=c.ι id) (hz : ∀ b,c.Z b→c'.Z b) (hc : ∀ b,c.Z b→∀ o v,Aa6 c.h b o=some v→Aa6 c'.h b o=some v)
 {o : AaZ} {b base sz : Nat} (i : gdO S o) (e : c'.h[b]? = c.h[b]?) (H : AbQ c o b base sz) : AbQ c' (AeR σ o) b base sz:=by
 cases o with
 | cells cs =>
  obtain ⟨cur,T,fr,vs,h1,h2,h3,h4,h5,h6⟩:=H
  exact ⟨cur,T,fr,vs,e.trans h1,h2,h3,by rw [AeH]; exact h4,AaD.ren hι hz hc _ _ i h5,h6.of_block e⟩
 | grow cs =>
  obtain ⟨hne,cur,T,fr,vs,h1,h2,h3,h4,h5,h6⟩:=H
  exact ⟨fun k=>hne (Akh.1 k),cur,T,fr,vs,e.trans h1,h2,h3,by rw [AeH]; exact h4,AaD.ren hι hz hc _ _ i h5,h6.of_block e⟩
 | mp es =>
  obtain ⟨ents,clock,h1,h2,h3⟩:=H
  refine ⟨ents,clock,e.trans h1,by simpa using h2,fun j a k=>?_⟩
  simp only [List.length_map] at k
  simp only [List.getElem_map]
  exact ⟨Rep.ren hι hz hc _ _ (i _ (List.getElem_mem k)).1 (h3 j a k).1,Rep.ren hι hz hc _ _ (i _ (List.getElem_mem k)).2 (h3 j a k).2⟩
 | it _ _=>exact ⟨H.1,H.2.1,e.trans H.2.2⟩
theorem AbQ.pull {S : Nat→Prop} {c0 c : Cx} {σ : Nat→Nat} (hι : ∀ id,S id→c0.ι id=c.ι (σ id)) (hz : ∀ b,c.Z b→c0.Z b) (hc : ∀ b,c.Z b→∀ o v,Aa6 c.h b o=some v→Aa6 c0.h b o=some v)
 {o : AaZ} {b base sz : Nat} (i : gdO S o) (e : c0.h[b]? = c.h[b]?) (H : AbQ c (AeR σ o) b base sz) : AbQ c0 o b base sz:=by
 cases o with
 | cells cs =>
  obtain ⟨cur,T,fr,vs,h1,h2,h3,h4,h5,h6⟩:=H
  exact ⟨cur,T,fr,vs,e.trans h1,h2,h3,by rw [AeH] at h4; exact h4,AaD.pull hι hz hc _ _ i h5,h6.of_block e⟩
 | grow cs =>
  obtain ⟨hne,cur,T,fr,vs,h1,h2,h3,h4,h5,h6⟩:=H
  exact ⟨fun k=>hne (Akh.2 k),cur,T,fr,vs,e.trans h1,h2,h3,by rw [AeH] at h4; exact h4,AaD.pull hι hz hc _ _ i h5,h6.of_block e⟩
 | mp es =>
  obtain ⟨ents,clock,h1,h2,h3⟩:=H
  refine ⟨ents,clock,e.trans h1,by simpa using h2,fun j a k=>?_⟩
  have:=h3 j a (by simpa using k)
  simp only [List.getElem_map] at this
  exact ⟨Rep.pull hι hz hc _ _ (i _ (List.getElem_mem k)).1 this.1,Rep.pull hι hz hc _ _ (i _ (List.getElem_mem k)).2 this.2⟩
 | it _ _=>exact ⟨H.1,H.2.1,e.trans H.2.2⟩
def Can (n : Nat) (c0 : Cx) (w0 : World) (s : Nat→AV) (H : Aac) (N : Nat) (T : Act→World→Prop) : Prop:=∀ a w,St n c0 w0 s H N a w→T a w
theorem AW.rounds {P : Program} {n : Nat} {c0 : Cx} {w0 : World} {Q : AcH} {s : Nat→AV} {H : Aac} {N : Nat} {c : Code} (m : Nat) (h : Can n c0 w0 s H N (Code.rounds P c (Q.real n c0 w0) m)) : AW P n c0 w0 (.loop c) Q s H N :=
 fun a w hs=>wp_loop_rounds m (h a w hs)
theorem Can.round {P : Program} {n : Nat} {c0 : Cx} {w0 : World} {Q : AcH} {s : Nat→AV} {H : Aac} {N : Nat} {c : Code} {m : Nat}
 (h : ∀ K : (Nat→AV)→Aac→Nat→Prop,(∀ s' H' N',Can n c0 w0 s' H' N' (Code.rounds P c (Q.real n c0 w0) m)→K s' H' N')→AW P n c0 w0 c (AcH.then K Q) s H N) : Can n c0 w0 s H N (Code.rounds P c (Q.real n c0 w0) (m+1)):=by
 intro a w hs
 rw [rounds_succ]
 refine wp_mono (h (fun s H N=>Can n c0 w0 s H N (Code.rounds P c (Q.real n c0 w0) m)) (fun _ _ _ h=>h) a w hs) fun e a w ⟨s,H,N,h1,h2⟩=>?_
 cases e with
 | normal=>exact h1 a w h2
 | _=>exact ⟨s,H,N,h1,h2⟩
def AfP (ρ : List (Nat×Nat)) (i : Nat) : Option Nat:=(ρ.find? (fun p=>p.1==i)).map (·.2)
def AdS (ρ : List (Nat×Nat)) (i : Nat) : Nat:=(AfP ρ i).getD 0
theorem AeW {ρ : List (Nat×Nat)} {i j : Nat} (h : AfP ρ i=some j) : (i,j) ∈ ρ:=by
 unfold AfP at h
 cases hf : ρ.find? (fun p=>p.1==i) with
 | none=>rw [hf] at h; cases h
 | some p =>
  rw [hf] at h
  have h3:=List.mem_of_find?_eq_some hf
  have h4 : p.1=i:=by simpa using List.find?_some hf
  simp only [Option.map_some,Option.some.injEq] at h
  cases p; simp_all
theorem Apy {ρ : List (Nat×Nat)} {i : Nat} (h : AfP ρ i=none) : ∀ j,(i,j) ∉ ρ:=by
 intro j hj
 unfold AfP at h
 cases hf : ρ.find? (fun p=>p.1==i) with
 | none=>have:=List.find?_eq_none.1 hf _ hj; simp at this
 | some p=>rw [hf] at h; cases h
theorem AiC {o : List (Nat×AaZ)} {i : Nat} {x : AaZ} (h : mkH o i=some x) : (i,x) ∈ o:=by
 unfold mkH at h
 cases hf : o.find? (fun p=>p.1==i) with
 | none=>rw [hf] at h; cases h
 | some p =>
  rw [hf] at h
  have h3:=List.mem_of_find?_eq_some hf
  have h4 : p.1=i:=by simpa using List.find?_some hf
  simp only [Option.map_some,Option.some.injEq] at h
  cases p; simp_all
theorem Arh {o : List (Nat×AaZ)} {i : Nat} (h : mkH o i=none) : ∀ x,(i,x) ∉ o:=by
 intro j hj
 unfold mkH at h
 cases hf : o.find? (fun p=>p.1==i) with
 | none=>have:=List.find?_eq_none.1 hf _ hj; simp at this
 | some p=>rw [hf] at h; cases h
theorem ArW {ρ : List (Nat×Nat)} (h : (ρ.map (·.2)).Nodup) {i i' j : Nat} (h1 : (i,j) ∈ ρ) (h2 : (i',j) ∈ ρ) : i=i':=by
 induction ρ with
 | nil=>cases h1
 | cons p ρ ih =>
  simp only [List.map_cons,List.nodup_cons,List.mem_map,not_exists,not_and] at h
  rcases List.mem_cons.1 h1 with e1 | e1 <;> rcases List.mem_cons.1 h2 with e2 | e2
  ·rw [← e1] at e2; cases e2; rfl
  ·subst e1; exact absurd rfl (h.1 (i',j) e2)
  ·subst e2; exact absurd rfl (h.1 (i,j) e1)
  ·exact ih h.2 e1 e2
section
variable {n : Nat} {c0 : Cx} {w0 : World} {s : Nat→AV} {H : Aac} {N : Nat} {T : Act→World→Prop}
theorem Can.weak (l : List (Nat×AV)) (hl : List (Nat×AaZ)) (N' : Nat) (h1 : ∀ p ∈ l,s p.1=p.2) (h2 : ∀ p ∈ hl,H p.1=some p.2) (hN : N≤N') (h : Can n c0 w0 (mkS l) (mkH hl) N' T) : Can n c0 w0 s H N T :=
 fun a w hs=>h a w (hs.weak l hl N' h1 h2 hN)
theorem Can.ren {m : Nat} (h0 : AcF c0 m) (ρ : List (Nat×Nat)) (l : List (Nat×AV)) (o : List (Nat×AaZ)) (M : Nat)
 (hρ1 : (ρ.map (·.2)).Nodup) (hρ2 : ∀ p ∈ ρ,p.1<M∧(p.1<m→p.1=p.2)) (hM : m≤M) (hk : o.map (·.1)=ρ.map (·.1))
 (h1 : ∀ p ∈ l,s p.1=Abs.ren (AdS ρ) p.2∧gd (fun i=>(AfP ρ i).isSome=true) p.2)
 (h2 : ∀ p ∈ o,H (AdS ρ p.1)=some (AeR (AdS ρ) p.2)∧gdO (fun i=>(AfP ρ i).isSome=true) p.2)
 (h : Can n c0 w0 (mkS l) (mkH o) M T) : Can n c0 w0 s H N T:=by
 intro a w ⟨c,hr,hd,g,hu⟩
 have hkeys : ∀ i,(AfP ρ i).isSome=(mkH o i).isSome:=by
  intro i
  cases e1 : AfP ρ i with
  | some j =>
   cases e2 : mkH o i with
   | some x=>rfl
   | none =>
    have : i ∈ o.map (·.1):=by rw [hk]; exact List.mem_map.2 ⟨_,AeW e1,rfl⟩
    obtain ⟨p,hp,rfl⟩:=List.mem_map.1 this
    exact absurd hp (Arh e2 p.2)
  | none =>
   cases e2 : mkH o i with
   | none=>rfl
   | some x =>
    have : i ∈ ρ.map (·.1):=by rw [← hk]; exact List.mem_map.2 ⟨_,AiC e2,rfl⟩
    obtain ⟨p,hp,rfl⟩:=List.mem_map.1 this
    exact absurd hp (Apy e1 p.2)
 let ι' : Nat→Aei:=fun i=>match AfP ρ i with
  | some j=>c.ι j
  | none=>if i<m then .dead else .unused
 have hi1 : ∀ i j,AfP ρ i=some j→ι' i=c.ι j:=fun i j e=>by simp only [ι',e]
 have hi2 : ∀ i,AfP ρ i=none→(∀ b x y,ι' i ≠ .live b x y)∧ι' i ≠ .emp:=fun i e=>by
  simp only [ι',e]; split <;> simp
 have live : ∀ i b x y,ι' i = .live b x y→∃ j,AfP ρ i=some j∧c.ι j = .live b x y:=by
  intro i b x y hl
  cases e : AfP ρ i with
  | none=>exact absurd hl ((hi2 i e).1 b x y)
  | some j=>rw [hi1 i j e] at hl; exact ⟨j,rfl,hl⟩
 have pullι : ∀ id,(AfP ρ id).isSome=true→ι' id=c.ι (AdS ρ id):=by
  intro id hid
  obtain ⟨j,e⟩:=Option.isSome_iff_exists.1 hid
  rw [hi1 id j e]; simp [AdS,e]
 have hr' : AcX ⟨c.Z,ι',c.h⟩ (mkH o) w:=by
  refine ⟨hr.hr.heap,?_,?_,?_,?_,?_,hr.hr.zlt,?_⟩
  ·intro i b x y hl
   obtain ⟨j,e,hl2⟩:=live i b x y hl
   have : (mkH o i).isSome=true:=by rw [← hkeys i,e]; rfl
   obtain ⟨oi,hoi⟩:=Option.isSome_iff_exists.1 this
   obtain ⟨q1,q2⟩:=h2 _ (AiC hoi)
   obtain ⟨oj,k1,k2⟩:=hr.hr.obj j b x y hl2
   simp only [AdS,e,Option.getD_some] at q1
   rw [k1] at q1
   cases q1
   exact ⟨oi,hoi,AbQ.pull (c0:=⟨c.Z,ι',c.h⟩) (c:=c) pullι (fun _ h=>h) (fun _ _ _ _ h=>h) q2 rfl k2⟩
  ·intro i hi
   cases e : AfP ρ i with
   | none=>exact absurd hi (hi2 i e).2
   | some j =>
    have hi' : c.ι j = .emp:=by rw [← hi1 i j e]; exact hi
    have : (mkH o i).isSome=true:=by rw [← hkeys i,e]; rfl
    obtain ⟨oi,hoi⟩:=Option.isSome_iff_exists.1 this
    obtain ⟨q1,q2⟩:=h2 _ (AiC hoi)
    simp only [AdS,e,Option.getD_some] at q1
    rw [hr.hr.emp j hi'] at q1
    rw [hoi,Agx (Option.some.inj q1).symm]
  ·intro i hi hm
   cases e : AfP ρ i with
   | none =>
    have:=hkeys i
    rw [e] at this
    cases e2 : mkH o i with
    | none=>rfl
    | some x=>rw [e2] at this; cases this
   | some j =>
    exfalso
    have hj : ∀ b x y,c.ι j ≠ .live b x y:=fun b x y h=>hi b x y ((hi1 i j e).trans h)
    have hj2 : c.ι j ≠ .emp:=fun h=>hm ((hi1 i j e).trans h)
    have : (mkH o i).isSome=true:=by rw [← hkeys i,e]; rfl
    obtain ⟨oi,hoi⟩:=Option.isSome_iff_exists.1 this
    obtain ⟨q1,q2⟩:=h2 _ (AiC hoi)
    simp only [AdS,e,Option.getD_some] at q1
    rw [hr.hr.non j hj hj2] at q1
    cases q1
  ·intro i i' b x y x' y' e1 e2
   obtain ⟨j,k1,k2⟩:=live i b x y e1
   obtain ⟨j',k3,k4⟩:=live i' b x' y' e2
   have:=hr.hr.inj j j' b x y x' y' k2 k4
   subst this
   exact ArW hρ1 (AeW k1) (AeW k3)
  ·intro i b x y e1
   obtain ⟨j,k1,k2⟩:=live i b x y e1
   exact hr.hr.sep j b x y k2
  ·refine ⟨M,fun i hi=>?_⟩
   have e : AfP ρ i=none:=by
    cases e : AfP ρ i with
    | none=>rfl
    | some j=>have:=(hρ2 _ (AeW e)).1; simp only [] at this; omega
   simp only [ι',e]
   rw [if_neg (by omega)]
 refine h a w ⟨⟨c.Z,ι',c.h⟩,⟨hr',hr.size,fun t ht=>?_⟩,hd,⟨?_,g.zn,?_,g.keep,g.size,g.os,g.tape,g.output⟩,?_⟩
 ·unfold mkS
  cases hf : l.find? (fun p=>p.1==t) with
  | none=>simp [Rep]
  | some p =>
   have h3:=List.mem_of_find?_eq_some hf
   have h4 : p.1=t:=by simpa using List.find?_some hf
   subst h4
   obtain ⟨q1,q2⟩:=h1 p h3
   have:=hr.slot _ ht
   rw [q1] at this
   exact Rep.pull (c0:=⟨c.Z,ι',c.h⟩) (c:=c) pullι (fun _ h=>h) (fun _ _ _ _ h=>h) _ _ q2 this
 ·refine ⟨g.le.z,g.le.cell,fun i hi=>?_,fun i b x y hi hl=>?_,fun i hi hl=>?_⟩
  ·have him : i<m:=Nat.lt_of_not_le fun hle=>hi (h0 i hle)
   cases e : AfP ρ i with
   | none=>simp only [ι',e,him,if_true]; simp
   | some j =>
    have:=(hρ2 _ (AeW e)).2 him
    simp only [] at this
    subst this
    show ι' i≠_
    rw [hi1 i i e]
    exact g.le.used i hi
  ·have him : i<m:=Nat.lt_of_not_le fun hle=>hi (h0 i hle)
   obtain ⟨j,e,hl2⟩:=live i b x y hl
   have:=(hρ2 _ (AeW e)).2 him
   simp only [] at this
   subst this
   exact g.le.live i b x y hi hl2
  ·have him : i<m:=Nat.lt_of_not_le fun hle=>hi (h0 i hle)
   cases e : AfP ρ i with
   | none=>exact absurd hl (hi2 i e).2
   | some j =>
    have:=(hρ2 _ (AeW e)).2 him
    simp only [] at this
    subst this
    exact g.le.emp i hi ((hi1 i i e).symm.trans hl)
 ·intro i b x y hl
  obtain ⟨j,e,hl2⟩:=live i b x y hl
  exact g.nb j b x y hl2
 ·intro i hi
  have e : AfP ρ i=none:=by
   cases e : AfP ρ i with
   | none=>rfl
   | some j=>have:=(hρ2 _ (AeW e)).1; simp only [] at this; omega
  simp only [ι',e]
  rw [if_neg (by omega)]
theorem Can.own (t es : Nat) (fl : Bool) (hs : s t = .lst true fl []) (ht : decide (t<n)=true) (h : Can n c0 w0 (upd s t (.slc N 0 es 0 false)) (upd H N (some (.grow []))) (N+1) T) : Can n c0 w0 s H N T:=by
 intro a w ⟨cx,hr,hd,g,hu⟩
 have hv:=hr.slot t (by simpa using ht)
 rw [hs] at hv
 have hv' : a.tmps.getD t undef = .slice none 0 0:=by
  simp only [Rep] at hv
  rcases hv with ⟨_,h⟩ | ⟨h,_⟩
  ·exact h
  ·cases h
 obtain ⟨c',k1,k2,k3,k4⟩:=hr.hr.adopt (.refl cx w) (hu N (Nat.le_refl _)) (hu N (Nat.le_refl _)) (es:=es) (len:=0) (o := .grow []) (v := .slice none 0 0) (.inl ⟨rfl,rfl,_,rfl⟩)
 refine h a w ⟨c',⟨k1,hr.size,fun t' ht'=>?_⟩,hd,g.trans k2,fun i hi=>by rw [k4 i (by omega)]; exact hu i (by omega)⟩
 by_cases e : t'=t
 ·subst e; rw [AbR,hv']; exact k3
 ·rw [AbV _ _ e]; exact (hr.slot t' ht').mono k2.le _ _
end
end Go.Abs
