import Derived.Test.YthiodjlppahmkaaGreatExtLay20
set_option linter.unusedVariables false
set_option linter.unusedSimpArgs false
namespace Go.Abs
open Go.RowKit (Below)
mutual
theorem Ae3 {S : Nat→Prop} {σ τ : Nat→Nat} (h : ∀ i,S i→σ i=τ i) : ∀ (x : AV),gd S x→ren σ x=ren τ x
 | .ptr id off,i=>by simp only [ren,gd] at *; rw [h id i]
 | .slc id off es len f,i=>by simp only [ren,gd] at *; rw [h id i]
 | .map id,i=>by simp only [ren,gd] at *; rw [h id i]
 | .agg cs,i=>by simp only [ren,gd] at *; rw [AeA h cs i]
 | .tup cs,i=>by simp only [ren,gd] at *; rw [AeA h cs i]
 | .fn f cs,i=>by simp only [ren,gd] at *; rw [AeA h cs i]
 | .ifc t x,i=>by simp only [ren,gd] at *; rw [Ae3 h x i]
 | .undef,_=>rfl
 | .skip,_=>rfl
 | .bool _,_=>rfl
 | .int _ _,_=>rfl
 | .str _,_=>rfl
 | .lst _ _ _,_=>rfl
 | .cptr _,_=>rfl
 | .nilptr,_=>rfl
 | .nilfn,_=>rfl
 | .nilmap,_=>rfl
 | .nilifc,_=>rfl
 | .nn x,i=>by simp only [ren,gd] at *; rw [Ae3 h x i]
 | .rm x,i=>by simp only [ren,gd] at *; rw [Ae3 h x i]
theorem AeA {S : Nat→Prop} {σ τ : Nat→Nat} (h : ∀ i,S i→σ i=τ i) : ∀ (xs : List AV),gdL S xs→AdP σ xs=AdP τ xs
 | [],_=>rfl
 | x::xs,i=>by simp only [AdP,gdL] at *; rw [Ae3 h x i.1,AeA h xs i.2]
end
theorem Ajm {S : Nat→Prop} {σ τ : Nat→Nat} (h : ∀ i,S i→σ i=τ i) (o : AaZ) (i : gdO S o) : AeR σ o=AeR τ o:=by
 cases o with
 | cells cs=>simp only [AeR]; rw [AeA h cs i]
 | grow cs=>simp only [AeR]; rw [AeA h cs i]
 | mp es =>
  simp only [AeR,AaZ.mp.injEq]
  exact List.map_congr_left fun p hp=>by rw [Ae3 h _ (i p hp).1,Ae3 h _ (i p hp).2]
 | it _ _=>rfl
mutual
theorem Akz {S S' : Nat→Prop} (h : ∀ i,S i→S' i) : ∀ (x : AV),gd S x→gd S' x
 | .ptr id off,i=>by simp only [gd] at *; exact h id i
 | .slc id off es len f,i=>by simp only [gd] at *; exact h id i
 | .map id,i=>by simp only [gd] at *; exact h id i
 | .agg cs,i=>by simp only [gd] at *; exact AiE h cs i
 | .tup cs,i=>by simp only [gd] at *; exact AiE h cs i
 | .fn f cs,i=>by simp only [gd] at *; exact AiE h cs i
 | .ifc t x,i=>by simp only [gd] at *; exact Akz h x i
 | .undef,_=>trivial
 | .skip,_=>trivial
 | .bool _,_=>trivial
 | .int _ _,_=>trivial
 | .str _,_=>trivial
 | .lst _ _ _,i=>i
 | .cptr _,i=>i
 | .nilptr,_=>trivial
 | .nilfn,_=>trivial
 | .nilmap,_=>trivial
 | .nilifc,_=>trivial
 | .nn x,i=>by simp only [gd] at *; exact Akz h x i
 | .rm x,i=>by simp only [gd] at *; exact Akz h x i
theorem AiE {S S' : Nat→Prop} (h : ∀ i,S i→S' i) : ∀ (xs : List AV),gdL S xs→gdL S' xs
 | [],_=>trivial
 | x::xs,i=>by simp only [gdL] at *; exact ⟨Akz h x i.1,AiE h xs i.2⟩
end
def nm (σ : List Nat) (i : Nat) : Nat:=σ.getD i 0
def Acx (N k : Nat) : List Nat:=(List.range k).map (N + ·)
def Ah1 (ρ : Nat→Nat) (H : Aac) : List Nat→List (Option AaZ)→Aac
 | j::js,o::os=>upd (Ah1 ρ H js os) j (o.map (AeR ρ))
 | _,_=>H
theorem Aki {ρ : Nat→Nat} {H : Aac} : ∀ {σ : List Nat} {O : List (Option AaZ)} {j : Nat},j ∉ σ→Ah1 ρ H σ O j=H j
 | [],_,_,_=>by simp [Ah1]
 | _::_,[],_,_=>by simp [Ah1]
 | x::σ,o::O,j,h=>by
  simp only [List.mem_cons,not_or] at h
  simp only [Ah1]
  rw [AbV _ _ h.1]; exact Aki h.2
theorem Akj {ρ : Nat→Nat} {H : Aac} : ∀ {σ : List Nat} {O : List (Option AaZ)} {i : Nat},σ.Nodup→σ.length=O.length→i<σ.length→Ah1 ρ H σ O (nm σ i)=(nth O i).map (AeR ρ)
 | [],_,_,_,_,h=>by simp at h
 | _::_,[],_,_,h,_=>by simp at h
 | x::σ,o::O,0,_,_,_=>by simp [Ah1,nm,nth]
 | x::σ,o::O,i+1,hn,hl,hi=>by
  simp only [List.nodup_cons] at hn
  simp only [List.length_cons,Nat.add_lt_add_iff_right,Nat.add_right_cancel_iff] at hl hi
  have hm : nm (x::σ) (i+1)=nm σ i:=by simp [nm]
  have hmem : nm σ i ∈ σ:=by simp [nm,List.getD_eq_getElem?_getD,hi]
  simp only [Ah1]
  rw [hm,AbV _ _ (fun e=>hn.1 (by rw [← e]; exact hmem))]
  rw [Akj hn.2 hl hi]
  simp [nth]
theorem Afl {σ : List Nat} {i : Nat} (h : i<σ.length) : nm σ i ∈ σ:=by simp [nm,List.getD_eq_getElem?_getD,h]
theorem Anx {σ : List Nat} (hn : σ.Nodup) {i j : Nat} (hi : i<σ.length) (hj : j<σ.length) (h : nm σ i=nm σ j) : i=j:=by
 simp only [nm,List.getD_eq_getElem?_getD,List.getElem?_eq_getElem hi,List.getElem?_eq_getElem hj,Option.getD_some] at h
 exact (List.getElem_inj hn).1 h
theorem Ajp {σ : List Nat} {j : Nat} (h : j ∈ σ) : ∃ i,i<σ.length∧nm σ i=j:=by
 obtain ⟨i,hi,rfl⟩:=List.getElem_of_mem h
 exact ⟨i,hi,by simp [nm,List.getD_eq_getElem?_getD,hi]⟩
theorem Apb {H : Aac} {N : Nat} {O : List AaZ} {O' : List (Option AaZ)} {σ W0 : List Nat} (gO : ∀ o ∈ O,gdO (· < O.length) o) (hlen : σ.length=O.length) (hnd : σ.Nodup) (hσN : ∀ j ∈ σ,j<N)
 (hO : ∀ i (h : i<O.length),H (nm σ i)=some (AeR (nm σ) O[i])) (hun : ∀ i (h : i<O.length),nm σ i ∈ W0∨nth O' i=some O[i]) (hl0 : O.length≤O'.length) :
 ∀ id,id ∉ W0++Acx N (O'.length-O.length)→Ah1 (nm (σ++Acx N (O'.length-O.length))) H (σ++Acx N (O'.length-O.length)) O' id=H id:=by
 generalize hk : O'.length-O.length=k
 generalize hσ' : σ++Acx N k=σ'
 have hnews : ∀ j,j ∈ Acx N k↔N≤j∧j<N+k:=by
  intro j
  simp only [Acx,List.mem_map,List.mem_range]
  constructor
  ·rintro ⟨i,hi,rfl⟩; omega
  ·rintro ⟨h1,h2⟩; exact ⟨j-N,by omega,by omega⟩
 have hl' : σ'.length=O'.length:=by rw [← hσ']; simp [Acx]; omega
 have hnd' : σ'.Nodup:=by
  rw [← hσ',List.nodup_append]
  refine ⟨hnd,?_,fun a ha b hb e=>?_⟩
  ·unfold Acx
   rw [List.nodup_iff_pairwise_ne,List.pairwise_map]
   exact List.Pairwise.imp (fun h=>by omega) (List.nodup_range (n:=k))
  ·have:=hσN a ha; have:=(hnews b).1 hb; omega
 have hnm : ∀ i,i<O.length→nm σ' i=nm σ i:=by
  intro i hi
  rw [← hσ']
  simp [nm,List.getD_eq_getElem?_getD,List.getElem?_append,hlen,hi]
 have hmem' : ∀ j,j ∈ σ'↔j ∈ σ∨(N≤j∧j<N+k):=by intro j; rw [← hσ',List.mem_append,hnews]
 have hrest : ∀ id,id ∉ W0++Acx N k→Ah1 (nm σ') H σ' O' id=H id:=by
  intro id hid
  simp only [List.mem_append,not_or] at hid
  by_cases hs : id ∈ σ'
  ·have hs2 : id ∈ σ:=by
    rcases (hmem' id).1 hs with h | h
    ·exact h
    ·exact absurd ((hnews id).2 h) hid.2
   obtain ⟨i,hi,rfl⟩:=Ajp hs2
   have hi' : i<O.length:=by omega
   have e1:=Akj (ρ:=nm σ') (H:=H) (O:=O') (i:=i) hnd' hl' (by omega)
   rw [hnm i hi'] at e1
   rw [e1,hO i hi']
   rcases hun i hi' with h | h
   ·exact absurd h hid.1
   ·rw [h]
    simp only [Option.map_some,Option.some.injEq]
    exact Ajm (S:=(· < O.length)) (fun i hi=>hnm i hi) _ (gO _ (List.getElem_mem hi'))
  ·exact Aki hs
 exact hrest
theorem AnL {E : Value→Ending} {P : Program} {H : Aac} {N : Nat} {f : FuncId} {args args0 : List AV} {O : List AaZ} {r : AV} {O' : List (Option AaZ)} (hF : ArB E P f args0 O r O') (σ T1 : List Nat) (hlen : σ.length=O.length)
 (hco : AjI H (nm σ) args args0 T1) (hO : ∀ i (h : i<O.length),H (nm σ i)=some (AeR (nm σ) O[i])) (hnd : σ.Nodup) (hσN : ∀ j ∈ σ,j<N) (hT1 : ∀ j ∈ T1,j<N∧j ∉ σ)
 (hfr : T1 = []∨(fresh r=true∧∀ o,some o ∈ O'→Ae6 o=true)) (W0 : List Nat) (hW0 : ∀ j ∈ W0,j ∈ σ) (hun : ∀ i (h : i<O.length),nm σ i ∈ W0∨nth O' i=some O[i])
 (c : Cx) (H1 : Aac) (w : World) (vs : Array Value) (hr : AcX c H1 w) (hT' : ∀ id ∈ σ++T1,H1 id=H id) (hV : ∀ id ∈ W0++Acx N (O'.length-O.length),id ∈ Acx N (O'.length-O.length)→c.ι id = .unused) (h2 : AaD c args vs.toList) :
 Calls P f vs w fun e w'=>∃ v c',e=E v∧AcX c' (fun id=>if id ∈ W0++Acx N (O'.length-O.length) then Ah1 (nm (σ++Acx N (O'.length-O.length))) H (σ++Acx N (O'.length-O.length)) O' id else H1 id) w' ∧
  Rep c' (ren (nm (σ++Acx N (O'.length-O.length))) r) v∧Aeu c w c' w'∧(∀ id,c.ι id = .unused→id ∉ W0++Acx N (O'.length-O.length)→c'.ι id = .unused):=by
 have hl0:=hF.len
 generalize hk : O'.length-O.length=k at hV ⊢
 generalize hσ' : σ++Acx N k=σ'
 have hnews : ∀ j,j ∈ Acx N k↔N≤j∧j<N+k:=by
  intro j
  simp only [Acx,List.mem_map,List.mem_range]
  constructor
  ·rintro ⟨i,hi,rfl⟩; omega
  ·rintro ⟨h1,h2⟩; exact ⟨j-N,by omega,by omega⟩
 have hl' : σ'.length=O'.length:=by rw [← hσ']; simp [Acx]; omega
 have hnd' : σ'.Nodup:=by
  rw [← hσ',List.nodup_append]
  refine ⟨hnd,?_,fun a ha b hb e=>?_⟩
  ·unfold Acx
   rw [List.nodup_iff_pairwise_ne,List.pairwise_map]
   exact List.Pairwise.imp (fun h=>by omega) (List.nodup_range (n:=k))
  ·have:=hσN a ha; have:=(hnews b).1 hb; omega
 have hnm : ∀ i,i<O.length→nm σ' i=nm σ i:=by
  intro i hi
  rw [← hσ']
  simp [nm,List.getD_eq_getElem?_getD,List.getElem?_append,hlen,hi]
 have hmem' : ∀ j,j ∈ σ'↔j ∈ σ∨(N≤j∧j<N+k):=by intro j; rw [← hσ',List.mem_append,hnews]
 have hrest : ∀ id,id ∉ W0++Acx N k→Ah1 (nm σ') H σ' O' id=H id:=by
  intro id hid
  simp only [List.mem_append,not_or] at hid
  by_cases hs : id ∈ σ'
  ·have hs2 : id ∈ σ:=by
    rcases (hmem' id).1 hs with h | h
    ·exact h
    ·exact absurd ((hnews id).2 h) hid.2
   obtain ⟨i,hi,rfl⟩:=Ajp hs2
   have hi' : i<O.length:=by omega
   have e1:=Akj (ρ:=nm σ') (H:=H) (O:=O') (i:=i) hnd' hl' (by omega)
   rw [hnm i hi'] at e1
   rw [e1,hO i hi']
   rcases hun i hi' with h | h
   ·exact absurd h hid.1
   ·rw [h]
    simp only [Option.map_some,Option.some.injEq]
    exact Ajm (S:=(· < O.length)) (fun i hi=>hnm i hi) _ (hF.gO _ (List.getElem_mem hi'))
  ·exact Aki hs
 have hHσ : ∀ i (h : i<O.length),H1 (nm σ i)=some (AeR (nm σ) O[i]):=fun i h=>by
  rw [hT' _ (List.mem_append.2 (.inl (Afl (by omega))))]; exact hO i h
 let temp : Nat→Prop:=fun b=>∃ id ∈ T1,∃ x y,c.ι id = .live b x y
 let ι0 : Nat→Aei:=fun i=>if i<O.length then c.ι (nm σ i) else .unused
 have hι0 : ∀ i,i<O.length→ι0 i=c.ι (nm σ i):=fun i h=>by simp only [ι0,h,if_true]
 have hι0n : ∀ i,O.length≤i→ι0 i = .unused:=fun i h=>by simp only [ι0]; rw [if_neg (by omega)]
 have live0 : ∀ i b x y,ι0 i = .live b x y→i<O.length∧c.ι (nm σ i) = .live b x y:=by
  intro i b x y hl
  by_cases h : i<O.length
  ·rw [hι0 i h] at hl; exact ⟨h,hl⟩
  ·rw [hι0n i (by omega)] at hl; cases hl
 have hr0 : AcX ⟨fun b=>c.Z b∨temp b,ι0,c.h⟩ (fun i=>O[i]?) w:=by
  refine ⟨hr.heap,?_,?_,?_,?_,?_,?_,⟨O.length,hι0n⟩⟩
  ·intro i b x y hl
   obtain ⟨hi,hl2⟩:=live0 i b x y hl
   obtain ⟨oi,k1,k2⟩:=hr.obj _ b x y hl2
   rw [hHσ i hi] at k1
   cases k1
   exact ⟨O[i],by simp [hi],AbQ.pull (S:=(· < O.length)) (c0:=⟨fun b=>c.Z b∨temp b,ι0,c.h⟩) (c:=c) hι0 (fun _ h => .inl h) (fun _ _ _ _ h=>h) (hF.gO _ (List.getElem_mem hi)) rfl k2⟩
  ·intro i hi
   simp only [] at hi
   by_cases h : i<O.length
   ·rw [hι0 i h] at hi
    have:=hr.emp _ hi
    rw [hHσ i h] at this
    have:=Agx (Option.some.inj this)
    simp [h,this]
   ·rw [hι0n i (by omega)] at hi; cases hi
  ·intro i hi hm
   simp only [] at hi hm ⊢
   by_cases h : i<O.length
   ·exfalso
    rw [hι0 i h] at hi hm
    have:=hr.non _ hi hm
    rw [hHσ i h] at this; cases this
   ·simp; omega
  ·intro i j b x y x' y' e1 e2
   obtain ⟨k1,k2⟩:=live0 _ _ _ _ e1
   obtain ⟨k3,k4⟩:=live0 _ _ _ _ e2
   exact Anx hnd (by omega) (by omega) (hr.inj _ _ b x y x' y' k2 k4)
  ·intro i b x y e1 e2
   obtain ⟨k1,k2⟩:=live0 _ _ _ _ e1
   rcases e2 with e2 | ⟨id,hid,x',y',e2⟩
   ·exact hr.sep _ b x y k2 e2
   ·have:=hr.inj _ _ b x' y' x y e2 k2
    subst this
    exact (hT1 _ hid).2 (Afl (by omega))
  ·intro b hb
   rcases hb with hb | ⟨id,hid,x',y',e2⟩
   ·exact hr.zlt b hb
   ·exact hr.live_lt e2
 have h3 : AaD ⟨fun b=>c.Z b∨temp b,ι0,c.h⟩ args0 vs.toList :=
  AjI.rep (S:=(· < O.length)) (H:=H) (σ:=nm σ) (c:=c) (c0:=⟨fun b=>c.Z b∨temp b,ι0,c.h⟩) hr hι0 rfl (fun _ h => .inl h) (fun id hid=>hT' id (List.mem_append.2 (.inr hid))) (fun id hid b p q h => .inr ⟨id,hid,p,q,h⟩) hF.ga hco h2
 refine Calls.mono (hF.call _ w vs hr0 hι0n h3) (fun e w' h=>?_)
 obtain ⟨v,c1,H1',he,hr1,hH1,hx,g'⟩:=h
 let idx : Nat→Option Nat:=fun j=>(List.range σ'.length).find? (fun i=>nm σ' i==j)
 have idx1 : ∀ j i,idx j=some i→i<O'.length∧nm σ' i=j:=by
  intro j i h
  have h3:=List.mem_of_find?_eq_some h
  have h4:=List.find?_some h
  simp only [List.mem_range,beq_iff_eq] at h3 h4
  exact ⟨by omega,h4⟩
 have idx2 : ∀ j,idx j=none→j ∉ σ':=by
  intro j h hj
  obtain ⟨i,hi,e⟩:=Ajp hj
  have:=List.find?_eq_none.1 h i (List.mem_range.2 hi)
  simp [e] at this
 have idx3 : ∀ i,i<O'.length→idx (nm σ' i)=some i:=by
  intro i hi
  cases h : idx (nm σ' i) with
  | none=>exact absurd (Afl (by omega)) (idx2 _ h)
  | some i' =>
   obtain ⟨k1,k2⟩:=idx1 _ _ h
   rw [Anx hnd' (by omega) (by omega) k2]
 let ι2 : Nat→Aei:=fun j=>match idx j with
  | some i=>if (nth O' i).isSome then c1.ι i else .dead
  | none=>c.ι j
 have ι2a : ∀ i,(nth O' i).isSome=true→ι2 (nm σ' i)=c1.ι i:=by
  intro i hi
  have hi' : i<O'.length:=by
   by_cases h : i<O'.length
   ·exact h
   ·simp [nth,List.getElem?_eq_none (Nat.le_of_not_lt h)] at hi
  simp only [ι2,idx3 i hi',hi,if_true]
 have ι2b : ∀ j i,idx j=some i→nth O' i=none→ι2 j = .dead:=by
  intro j i h1 h2
  simp only [ι2,h1,h2]; rfl
 have ι2c : ∀ j,idx j=none→ι2 j=c.ι j:=fun j h=>by simp only [ι2,h]
 have live2 : ∀ j b x y,ι2 j = .live b x y→(∃ i,idx j=some i∧(nth O' i).isSome=true∧c1.ι i = .live b x y)∨(idx j=none∧c.ι j = .live b x y):=by
  intro j b x y hl
  cases h : idx j with
  | none=>rw [ι2c j h] at hl; exact .inr ⟨rfl,hl⟩
  | some i =>
   cases h2 : nth O' i with
   | none=>rw [ι2b j i h h2] at hl; cases hl
   | some o =>
    have:=ι2a i (by rw [h2]; rfl)
    rw [(idx1 j i h).2] at this
    rw [this] at hl
    exact .inl ⟨i,rfl,by rw [h2]; rfl,hl⟩
 have from1 : ∀ i b x y,c1.ι i = .live b x y→w.heap.size≤b∨∃ j ∈ σ,∃ p q,c.ι j = .live b p q:=by
  intro i b x y hl
  rcases g'.nb i b x y hl with h | ⟨id,p,q,h⟩
  ·exact .inl h
  ·obtain ⟨k1,k2⟩:=live0 _ _ _ _ h
   exact .inr ⟨_,Afl (by omega),p,q,k2⟩
 have hkeep : ∀ b,b<w.heap.size→(∀ j ∈ σ,∀ p q,c.ι j ≠ .live b p q)→w'.heap[b]? = w.heap[b]?:=by
  intro b hb hn
  refine g'.keep b hb fun id x y hl=>?_
  obtain ⟨k1,k2⟩:=live0 _ _ _ _ hl
  exact hn _ (Afl (by omega)) x y k2
 have hstay : ∀ j b x y,idx j=none→c.ι j = .live b x y→w'.heap[b]? = w.heap[b]?:=by
  intro j b x y h1 h2
  refine hkeep b (hr.live_lt h2) fun i hi p q h=>?_
  have:=hr.inj _ _ b p q x y h h2
  subst this
  exact idx2 _ h1 ((hmem' _).2 (.inl hi))
 have hZ2 : ∀ b,c1.Z b∧¬ temp b→c.Z b∨w.heap.size≤b∨∃ j ∈ σ,∃ p q,c.ι j = .live b p q:=by
  rintro b ⟨hb,hnt⟩
  rcases g'.zn b hb with (h | h) | h | ⟨id,x,y,h⟩
  ·exact .inl h
  ·exact absurd h hnt
  ·exact .inr (.inl h)
  ·obtain ⟨k1,k2⟩:=live0 _ _ _ _ h
   exact .inr (.inr ⟨_,Afl (by omega),x,y,k2⟩)
 have hLe : c.Le ⟨fun b=>c1.Z b∧¬ temp b,ι2,c1.h⟩:=by
  refine ⟨fun b hb=>⟨g'.le.z b (.inl hb),fun ⟨id,hid,x,y,h⟩=>hr.sep id b x y h hb⟩,fun b hb o v h=>g'.le.cell b (.inl hb) o v h,fun j hj=>?_,fun j b x y hj hl=>?_,fun j hj hl=>?_⟩
  ·show ι2 j≠_
   cases h : idx j with
   | none=>rw [ι2c j h]; exact hj
   | some i =>
    cases h2 : nth O' i with
    | none=>rw [ι2b j i h h2]; simp
    | some o' =>
     have:=ι2a i (by rw [h2]; rfl)
     rw [(idx1 j i h).2] at this
     rw [this]
     intro hun
     have h3:=hH1 i (idx1 j i h).1
     rw [h2] at h3
     rw [hr1.non i (by rw [hun]; simp) (by rw [hun]; simp)] at h3
     cases h3
  ·rcases live2 j b x y hl with ⟨i,h1,h2,h3⟩ | ⟨_,h2⟩
   ·by_cases hi : i<O.length
    ·have e : nm σ' i=j:=(idx1 j i h1).2
     rw [hnm i hi] at e
     have:=g'.le.live i b x y (by show ι0 i≠_; rw [hι0 i hi,e]; exact hj) h3
     have this : ι0 i=_:=this
     rw [hι0 i hi,e] at this
     exact this
    ·exfalso
     have hjs : j ∈ σ':=by rw [← (idx1 j i h1).2]; exact Afl (by have:=(idx1 j i h1).1; omega)
     have hjn : j ∈ Acx N k:=by
      rcases (hmem' j).1 hjs with h | h
      ·obtain ⟨i2,hi2,e⟩:=Ajp h
       have:=Anx hnd' (i:=i) (j:=i2) (by have:=(idx1 j i h1).1; omega) (by omega) (by rw [(idx1 j i h1).2,hnm i2 (by omega),e])
       omega
      ·exact (hnews j).2 h
     exact hj (hV j (List.mem_append.2 (.inr hjn)) hjn)
   ·exact h2
  ·have hl : ι2 j = .emp:=hl
   cases h : idx j with
   | none=>rw [ι2c j h] at hl; exact hl
   | some i =>
    cases h2 : nth O' i with
    | none=>rw [ι2b j i h h2] at hl; cases hl
    | some o' =>
     have e:=ι2a i (by rw [h2]; rfl)
     rw [(idx1 j i h).2] at e
     rw [e] at hl
     by_cases hi : i<O.length
     ·have e2 : nm σ' i=j:=(idx1 j i h).2
      rw [hnm i hi] at e2
      have:=g'.le.emp i (by show ι0 i≠_; rw [hι0 i hi,e2]; exact hj) hl
      have this : ι0 i=_:=this
      rw [hι0 i hi,e2] at this
      exact this
     ·exfalso
      have hjs : j ∈ σ':=by rw [← (idx1 j i h).2]; exact Afl (by have:=(idx1 j i h).1; omega)
      have hjn : j ∈ Acx N k:=by
       rcases (hmem' j).1 hjs with h' | h'
       ·obtain ⟨i2,hi2,e3⟩:=Ajp h'
        have:=Anx hnd' (i:=i) (j:=i2) (by have:=(idx1 j i h).1; omega) (by omega) (by rw [(idx1 j i h).2,hnm i2 (by omega),e3])
        omega
       ·exact (hnews j).2 h'
      exact hj (hV j (List.mem_append.2 (.inr hjn)) hjn)
 have hH2 : ∀ j,(if j ∈ W0++Acx N k then Ah1 (nm σ') H σ' O' j else H1 j)=match idx j with | some i=>(nth O' i).map (AeR (nm σ')) | none=>H1 j:=by
  intro j
  cases h : idx j with
  | none =>
   have hj : j ∉ W0++Acx N k:=by
    intro hj
    refine idx2 j h ((hmem' j).2 ?_)
    rcases List.mem_append.1 hj with hj | hj
    ·exact .inl (hW0 j hj)
    ·exact .inr ((hnews j).1 hj)
   rw [if_neg hj]
  | some i =>
   obtain ⟨k1,k2⟩:=idx1 j i h
   have e1:=Akj (ρ:=nm σ') (H:=H) (O:=O') (i:=i) hnd' hl' (by omega)
   rw [k2] at e1
   simp only []
   rw [← e1]
   split
   ·rfl
   ·rename_i hj
    rw [hrest j hj]
    refine hT' j (List.mem_append.2 (.inl ?_))
    rcases (hmem' j).1 (by rw [← k2]; exact Afl (by omega)) with h' | h'
    ·exact h'
    ·exact absurd (List.mem_append.2 (.inr ((hnews j).2 h'))) hj
 have repX : ∀ (c3 : Cx) ,c3.ι=c1.ι→c3.h=c1.h→(T1 = []→c3=c1)→(∀ x v,Rep c1 x v→(T1 = []∨fresh x=true)→Rep c3 x v):=by
  intro c3 h1 h2 h3 x v hx hf
  rcases hf with hf | hf
  ·rw [h3 hf]; exact hx
  ·exact Rep.fresh h1 x v hf hx
 let c3 : Cx:=⟨fun b=>c1.Z b∧¬ temp b,c1.ι,c1.h⟩
 have hc3 : T1 = []→c3=c1:=by
  intro h
  have : (fun b=>c1.Z b∧¬ temp b)=c1.Z:=by
   funext b
   refine propext ⟨fun h=>h.1,fun hz=>⟨hz,fun ⟨id,hid,_⟩=>?_⟩⟩
   rw [h] at hid; cases hid
  simp only [c3,this]
 have hpush : ∀ i,(nth O' i).isSome=true→ι2 (nm σ' i)=c3.ι i:=ι2a
 have hr2 : AcX ⟨fun b=>c1.Z b∧¬ temp b,ι2,c1.h⟩ (fun id=>if id ∈ W0++Acx N k then Ah1 (nm σ') H σ' O' id else H1 id) w':=by
  refine ⟨hr1.heap,?_,?_,?_,?_,?_,?_,?_⟩
  ·intro j b x y hl
   rw [hH2 j]
   rcases live2 j b x y hl with ⟨i,h1,h2,h3⟩ | ⟨h1,h2⟩
   ·obtain ⟨oi,e1⟩:=Option.isSome_iff_exists.1 h2
    obtain ⟨o2,q1,q2⟩:=hr1.obj i b x y h3
    rw [hH1 i (idx1 j i h1).1,e1] at q1
    cases q1
    have hmemO : some oi ∈ O':=by
     have:=(idx1 j i h1).1
     simp only [nth,List.getElem?_eq_getElem this,Option.getD_some] at e1
     rw [← e1]; exact List.getElem_mem this
    refine ⟨AeR (nm σ') oi,by rw [h1]; show Option.map _ (nth O' i)=_; rw [e1]; rfl,?_⟩
    have q3 : AbQ c3 oi b x y:=by
     rcases hfr with h | ⟨_,h⟩
     ·rw [hc3 h]; exact q2
     ·exact AbQ.fresh (c:=c1) (c':=c3) rfl rfl (h oi hmemO) q2
    exact AbQ.ren (S:=fun i=>(nth O' i).isSome=true) (c:=c3) (c':=⟨fun b=>c1.Z b∧¬ temp b,ι2,c1.h⟩) hpush (fun _ h=>h) (fun _ _ _ _ h=>h) (hF.gO' _ hmemO) rfl q3
   ·obtain ⟨oj,q1,q2⟩:=hr.obj j b x y h2
    refine ⟨oj,by rw [h1]; exact q1,q2.mono hLe ?_⟩
    show c1.h[b]? = c.h[b]?
    rw [hr1.heap,hr.heap]
    exact hstay j b x y h1 h2
  ·intro j hj
   have hj : ι2 j = .emp:=hj
   rw [hH2 j]
   cases h : idx j with
   | none=>rw [ι2c j h] at hj; exact hr.emp j hj
   | some i =>
    cases h2 : nth O' i with
    | none=>rw [ι2b j i h h2] at hj; cases hj
    | some o' =>
     have e:=ι2a i (by rw [h2]; rfl)
     rw [(idx1 j i h).2] at e
     rw [e] at hj
     have q1:=hr1.emp i hj
     rw [hH1 i (idx1 j i h).1,h2] at q1
     cases q1
     show Option.map _ (nth O' i)=_
     rw [h2]; rfl
  ·intro j hj hm
   have hj : ∀ b x y,ι2 j ≠ .live b x y:=hj
   have hm : ι2 j ≠ .emp:=hm
   rw [hH2 j]
   cases h : idx j with
   | none =>
    rw [ι2c j h] at hm
    exact hr.non j (fun b x y=>by rw [← ι2c j h]; exact hj b x y) hm
   | some i =>
    cases h2 : nth O' i with
    | none=>simp [h2]
    | some o' =>
     exfalso
     have e:=ι2a i (by rw [h2]; rfl)
     rw [(idx1 j i h).2] at e
     rw [e] at hm
     have q1:=hr1.non i (fun b x y=>by rw [← e]; exact hj b x y) hm
     rw [hH1 i (idx1 j i h).1,h2] at q1
     cases q1
  ·intro j j' b x y x' y' e1 e2
   rcases live2 j b x y e1 with ⟨i,h1,h2,h3⟩ | ⟨h1,h2⟩ <;> rcases live2 j' b x' y' e2 with ⟨i',h1',h2',h3'⟩ | ⟨h1',h2'⟩
   ·have:=hr1.inj i i' b x y x' y' h3 h3'
    subst this
    rw [← (idx1 j i h1).2,(idx1 j' i h1').2]
   ·exfalso
    rcases from1 i b x y h3 with h | ⟨q,hq,p1,p2,h⟩
    ·have:=hr.live_lt h2'; omega
    ·have:=hr.inj _ _ b p1 p2 x' y' h h2'
     subst this
     exact idx2 _ h1' ((hmem' _).2 (.inl hq))
   ·exfalso
    rcases from1 i' b x' y' h3' with h | ⟨q,hq,p1,p2,h⟩
    ·have:=hr.live_lt h2; omega
    ·have:=hr.inj _ _ b p1 p2 x y h h2
     subst this
     exact idx2 _ h1 ((hmem' _).2 (.inl hq))
   ·exact hr.inj j j' b x y x' y' h2 h2'
  ·intro j b x y e1 e2
   rcases live2 j b x y e1 with ⟨i,h1,h2,h3⟩ | ⟨h1,h2⟩
   ·exact hr1.sep i b x y h3 e2.1
   ·rcases hZ2 b e2 with h | h | ⟨q,hq,p1,p2,h⟩
    ·exact hr.sep j b x y h2 h
    ·have:=hr.live_lt h2; omega
    ·have:=hr.inj _ _ b p1 p2 x y h h2
     subst this
     exact idx2 _ h1 ((hmem' _).2 (.inl hq))
  ·exact fun b hb=>hr1.zlt b hb.1
  ·obtain ⟨B,hB⟩:=hr.fin
   refine ⟨max B (N+k),fun j hj=>?_⟩
   have hj2 : j ∉ σ':=by
    intro h
    rcases (hmem' j).1 h with h | h
    ·have:=hσN j h; omega
    ·omega
   have : idx j=none:=by
    cases h : idx j with
    | none=>rfl
    | some i=>exact absurd (by rw [← (idx1 j i h).2]; exact Afl (by have:=(idx1 j i h).1; omega)) hj2
   show ι2 j=_
   rw [ι2c j this]
   exact hB j (by omega)
 refine ⟨v,_,he,hr2,?_,⟨hLe,?_,?_,?_,g'.size,g'.os,g'.tape,g'.output⟩,fun j hj hjW=>?_⟩
 ·have q3 : Rep c3 r v:=repX c3 rfl rfl hc3 r v hx (hfr.imp id (fun h=>h.1))
  exact Rep.ren (S:=fun i=>(nth O' i).isSome=true) (c:=c3) (c':=⟨fun b=>c1.Z b∧¬ temp b,ι2,c1.h⟩) hpush (fun _ h=>h) (fun _ _ _ _ h=>h) r v hF.gr q3
 ·intro b hb
  rcases hZ2 b hb with h | h | ⟨q,hq,p1,p2,h⟩
  ·exact .inl h
  ·exact .inr (.inl h)
  ·exact .inr (.inr ⟨q,p1,p2,h⟩)
 ·intro j b x y hl
  rcases live2 j b x y hl with ⟨i,h1,h2,h3⟩ | ⟨h1,h2⟩
  ·rcases from1 i b x y h3 with h | ⟨q,hq,p1,p2,h⟩
   ·exact .inl h
   ·exact .inr ⟨q,p1,p2,h⟩
  ·exact .inr ⟨j,x,y,h2⟩
 ·intro b hb hn
  exact hkeep b hb fun j _ p q h=>hn j p q h
 ·have : idx j=none:=by
   cases h : idx j with
   | none=>rfl
   | some i =>
    exfalso
    have hjs : j ∈ σ':=by rw [← (idx1 j i h).2]; exact Afl (by have:=(idx1 j i h).1; omega)
    rcases (hmem' j).1 hjs with h' | h'
    ·obtain ⟨i2,hi2,e3⟩:=Ajp h'
     have:=hHσ i2 (by omega)
     rw [e3,hr.non j (by rw [hj]; simp) (by rw [hj]; simp)] at this
     cases this
    ·exact hjW (List.mem_append.2 (.inr ((hnews j).2 h')))
  show ι2 j=_
  rw [ι2c j this]; exact hj
theorem Ali {P : Program} {o : Oper} {s : Nat→AV} {H : Aac} {N : Nat} (hc : AaY o=true) (g : Operand) (as : Array Operand) (ts : Array TypeId) (ho : o.op = .call { callee := .value g,args:=as,argTypes:=ts })
 (f : FuncId) (caps : List AV) (hg : ev s g = .fn f caps) (hcal : AaN P f=true) {args0 : List AV} {O : List AaZ} {r : AV} {O' : List (Option AaZ)} (hF : Aab P f args0 O r O') (σ : List Nat) (T1 : List Nat) (hlen : σ.length=O.length)
 (hco : AjI H (nm σ) (as.toList.map (ev s)++caps) args0 T1) (hO : ∀ i (h : i<O.length),H (nm σ i)=some (AeR (nm σ) O[i])) (hnd : σ.Nodup) (hσN : ∀ j ∈ σ,j<N) (hT1 : ∀ j ∈ T1,j<N∧j ∉ σ)
 (hfr : T1 = []∨(fresh r=true∧∀ o,some o ∈ O'→Ae6 o=true)) (W0 : List Nat) (hW0 : ∀ j ∈ W0,j ∈ σ) (hun : ∀ i (h : i<O.length),nm σ i ∈ W0∨nth O' i=some O[i]) :
 Aao P o s H N (ren (nm (σ++Acx N (O'.length-O.length))) r) (Ah1 (nm (σ++Acx N (O'.length-O.length))) H (σ++Acx N (O'.length-O.length)) O') (N+(O'.length-O.length)) (σ++T1) (W0++Acx N (O'.length-O.length)):=by
 have hl0:=hF.len
 have hnews : ∀ j,j ∈ Acx N (O'.length-O.length)↔N≤j∧j<N+(O'.length-O.length):=by
  intro j
  simp only [Acx,List.mem_map,List.mem_range]
  constructor
  ·rintro ⟨i,hi,rfl⟩; omega
  ·rintro ⟨h1,h2⟩; exact ⟨j-N,by omega,by omega⟩
 refine Aao.call f _ (σ++T1) (W0++Acx N (O'.length-O.length)) (Acx N (O'.length-O.length)) (by omega) (fun id h=>?_) (fun id h=>(hnews id).1 h) (fun id h=>?_) (Apb hF.gO hlen hnd hσN hO hun hl0) fun n c s1 H1 a w hrel hu hT' hV=>?_
 ·rcases List.mem_append.1 h with h | h
  ·exact hσN id h
  ·exact (hT1 id h).1
 ·rcases List.mem_append.1 h with h | h
  ·exact .inl (List.mem_append.2 (.inl (hW0 id h)))
  ·exact .inr h
 obtain ⟨vs,h1,h2⟩:=AmV hc ho hg hcal hrel hu
 exact ⟨vs,h1,AnL hF σ T1 hlen hco hO hnd hσN hT1 hfr W0 hW0 hun c H1 w vs hrel.hr hT' hV h2⟩
end Go.Abs
