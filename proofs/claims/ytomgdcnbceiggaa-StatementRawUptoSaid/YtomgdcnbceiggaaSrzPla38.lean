import Derived.Test.YtomgdcnbceiggaaSrzPla37
set_option linter.unusedVariables false
set_option linter.unusedSimpArgs false
set_option maxRecDepth 4000
namespace Go.TF
open Go Go.Abs
abbrev Zd : AaI×Int:=((AaI.mk 0 0 (ByteArray.mk #[]) 0 0 0 0 0 [] [] (ByteArray.mk #[]) 0 (ByteArray.mk #[])),1)
def AqR (k : Nat) (r : Option (AaI×List Int)) (p : Option Unit) : Option (AaI×Int) :=
 match r with
 | some (v,l) =>
  if l.length=0 then
   AbD (AaM k v.Author v.Number v.Prev v.Time v.Kind v.A v.B v.C v.Lst v.Pins v.Body v.Seal_Key v.Seal_Digest) fun c =>
   if c=0 then
    AbD (AbY k v.Author v.Number v.Prev v.Time v.Kind v.A v.B v.C v.Lst v.Pins v.Body v.Seal_Key v.Seal_Digest) fun b =>
    if b=true then some (v,0) else some Zd
   else some Zd
  else some Zd
 | none=>match p with
  | some _=>some Zd
  | none=>none
theorem AlK (k : Nat) (v0 : List Int) : AcW k v0=AqR k (Aaj k v0) (AaZ k v0):=rfl
def AlJ (k : Nat) (r : Option (AaI×List Int)) (p : Option Unit) (R : Option (AaI×Int)) : Prop:=∃ d,AqR k r p=some d∧R=some d∧(d=Zd∨d.2=0∧d.1.Lst.length≤100∧d.1.Pins.length≤100)
theorem Afz (k : Nat) {R : Option (AaI×Int)} (h : R=some Zd) : AlJ k none (some ()) R:=⟨Zd,rfl,h,.inl rfl⟩
theorem Agx (k : Nat) (hk : 900<k) (l : List Int) (hb : Byt l) (hl : l.length≤5000) {f : Int→List Int→Option (AaI×List Int)} {g : Int→List Int→Option Unit} {h : Int→List Int→Bool→Option (AaI×Int)}
 (hz : ∀ a x,x.length≤5000→h a x false=some Zd)
 (hs : ∀ a x,l=enc a++x→AlF (enc a)=a→Byt x→x.length≤5000→AlJ k (f a x) (g a x) (h a x true)) :
 AlJ k (AfT (AaO k l) f) (pn2 (AaO k l) (Aac k l) g) (Aer (Aau k l true) h):=by
 unfold AaO Aac Aau
 rw [AfP k (by omega) l (by omega),AdF k (by omega) l (by omega)]
 have hx:=AdX l
 rcases e : AeR l with ⟨a,x,b⟩
 rw [e] at hx
 simp only at hx
 cases b
 ·exact Afz k (hz a x (by omega))
 ·obtain ⟨h1,h2,h3⟩:=AiE hb e
  exact hs a x h1 h2 h3 (by omega)
theorem Amo (k : Nat) (hk : 900<k) (l : List Int) (m : Int) (hb : Byt l) (hl : l.length≤5000) {f : ByteArray→List Int→Option (AaI×List Int)} {g : ByteArray→List Int→Option Unit} {h : ByteArray→List Int→Bool→Option (AaI×Int)}
 (hz : ∀ a x,x.length≤5000→h a x false=some Zd)
 (hs : ∀ a x,l=AgO a++x→(a.size : Int)≤m→Byt x→x.length≤5000→AlJ k (f a x) (g a x) (h a x true)) :
 AlJ k (AfT (Aai k l m) f) (pn2 (Aai k l m) (Aa0 k l m) g) (Aer (AbE k l true m) h):=by
 unfold Aai Aa0 AbE
 rw [Aj7 k (by omega) l m (by omega),AeK k (by omega) l m (by omega)]
 have hx:=Ait l m
 rcases e : Agf l m with ⟨a,x,b⟩
 rw [e] at hx
 simp only at hx
 cases b
 ·exact Afz k (hz a x (by omega))
 ·obtain ⟨h1,h2,h3⟩:=Aml hb e
  exact hs a x h1 h2 h3 (by omega)
theorem Aqm (k : Nat) (hk : 900<k) (l : List Int) (m : Int) (hb : Byt l) (hl : l.length≤5000) {f : List Int→List Int→Option (AaI×List Int)} {g : List Int→List Int→Option Unit} {h : List Int→List Int→Bool→Option (AaI×Int)}
 (hz : ∀ a x,x.length≤5000→h a x false=some Zd)
 (hs : ∀ a x,l=enc a.length++(a.flatMap enc++x)→(a.length : Int)≤m→Byt x→x.length≤5000→AlJ k (f a x) (g a x) (h a x true)) :
 AlJ k (AfT (AbO k l m) f) (pn2 (AbO k l m) (Abc k l m) g) (Aer (AbB k l m) fun a x b=>if true=true then h a x b else h a x false):=by
 unfold AbO Abc
 rw [Aj8 k hk l m hl,AfX k hk l m hl]
 have hx:=Ahl l m
 rcases e : AhY l m with ⟨a,x,b⟩
 rw [e] at hx
 simp only at hx
 cases b
 ·exact Afz k (hz a x (by omega))
 ·obtain ⟨h1,h2,h3⟩:=Amm hb hl e
  exact hs a x h1 h2 h3 (by omega)
theorem AiR (k : Nat) (hk : 900<k) (l : List Int) (hl : l.length≤5000) (ok : Bool) : ∃ a x b,Aau k l ok=some (a,x,b)∧x.length≤5000∧(ok=false→b=false):=by
 unfold Aau
 rw [AdF k (by omega) l (by omega)]
 have hx:=AdX l
 rcases e : AeR l with ⟨a,x,b⟩
 rw [e] at hx
 simp only at hx
 cases ok
 ·exact ⟨a,x,false,rfl,by omega,fun _=>rfl⟩
 ·exact ⟨a,x,b,rfl,by omega,fun h=>by cases h⟩
theorem AiQ (k : Nat) (hk : 900<k) (l : List Int) (m : Int) (hl : l.length≤5000) (ok : Bool) : ∃ a x b,AbE k l ok m=some (a,x,b)∧x.length≤5000∧(ok=false→b=false):=by
 unfold AbE
 rw [AeK k (by omega) l m (by omega)]
 have hx:=Ait l m
 rcases e : Agf l m with ⟨a,x,b⟩
 rw [e] at hx
 simp only at hx
 cases ok
 ·exact ⟨a,x,false,rfl,by omega,fun _=>rfl⟩
 ·exact ⟨a,x,b,rfl,by omega,fun h=>by cases h⟩
theorem Ab9 (k : Nat) (hk : 900<k) (l : List Int) (hl : l.length≤5000) {h : Int→List Int→Bool→Option (AaI×Int)} (hz : ∀ a x,x.length≤5000→h a x false=some Zd) : Aer (Aau k l false) h=some Zd:=by
 obtain ⟨a,x,b,e,hx,hb⟩:=AiR k hk l hl false
 rw [e,Ab8,hb rfl,hz a x hx]
theorem AgV (k : Nat) (hk : 900<k) (l : List Int) (m : Int) (hl : l.length≤5000) {h : ByteArray→List Int→Bool→Option (AaI×Int)} (hz : ∀ a x,x.length≤5000→h a x false=some Zd) : Aer (AbE k l false m) h=some Zd:=by
 obtain ⟨a,x,b,e,hx,hb⟩:=AiQ k hk l m hl false
 rw [e,Ab8,hb rfl,hz a x hx]
theorem AgW (k : Nat) (hk : 900<k) (l : List Int) (m : Int) (hl : l.length≤5000) {h : List Int→List Int→Bool→Option (AaI×Int)} (hz : ∀ a x,x.length≤5000→h a x false=some Zd) : Aer (AbB k l m) (fun a x b=>if false=true then h a x b else h a x false)=some Zd:=by
 rw [AfX k hk l m hl]
 have hx:=Ahl l m
 rcases e : AhY l m with ⟨a,x,b⟩
 rw [e] at hx
 exact hz a x (by simp only at hx; omega)
def AjN (author num : Int) (prev : ByteArray) (time kind A B C : Int) (L : List Int) (c : Int) : List Int :=
 enc author++enc num++AgO prev++[time,kind,A,B,C].flatMap enc++enc L.length++L.flatMap enc++enc c
theorem Ahz (author num : Int) (prev : ByteArray) (time kind A B C : Int) (L : List Int) (pins : List AaA) (body : ByteArray) : Aeq author num prev time kind A B C L pins body=AjN author num prev time kind A B C L pins.length++(pins.flatMap AhV++AgO body):=by
 simp only [Aeq,AjN,List.append_assoc]
theorem AnN (k : Nat) (hk : 900<k) (v0 : List Int) (author num : Int) (prev : ByteArray) (time kind A B C : Int) (L l : List Int) (pins : List AaA) (hl : l.length≤5000) :
 AaY.J2 k v0 author num prev time kind A B C L l false pins=some Zd:=by
 unfold AaY.J2
 refine AgV k hk l _ hl fun a x hx=>?_
 refine Ab9 k hk x hx fun b y hy=>?_
 refine AgV k hk y _ hy fun c z hz=>?_
 rfl
theorem Agt (k : Nat) (hk : 900<k) (v0 : List Int) (author num : Int) (prev : ByteArray) (time kind A B C : Int) (L l : List Int) (pins : List AaA) (hl : l.length≤5000) (n : Nat) (c : Int) (hn : 0<n) :
 AaY.L3 k v0 author num prev time kind A B C L n c l false pins=some Zd:=by
 cases n with
 | zero=>omega
 | succ n =>
  rw [AaY.L3,if_neg (show ¬ false=true by simp),AnN k hk _ _ _ _ _ _ _ _ _ _ _ _ hl,ite_self]
theorem AnO (k : Nat) (hk : 900<k) (v0 : List Int) (author num : Int) (prev : ByteArray) (time kind A B C : Int) (L l : List Int) (hl : l.length≤5000) :
 AaY.J1 k v0 author num prev time kind A B C L l false=some Zd:=by
 unfold AaY.J1
 exact Ab9 k hk l hl fun a x hx=>Agt k hk _ _ _ _ _ _ _ _ _ _ _ _ hx _ _ (by omega)
theorem Alw (k : Nat) (hk : 3000000<k) (v0 : List Int) (author num : Int) (prev : ByteArray) (time kind A B C : Int) (L l : List Int) (pins : List AaA) (body : ByteArray) (sk : Int) (sd : ByteArray) (hL : L.length≤64) (hp : pins.length≤64) (hd : sd.size≤100)
 (hv : l = []→v0=Aeq author num prev time kind A B C L pins body++enc sk++AgO sd) :
 AlJ k (some (⟨author,num,prev,time,kind,A,B,C,L,pins,body,sk,sd⟩,l)) none (if (!true)=true then some Zd else if 0<(l.length : Int) then some Zd else
  AbD (Aan k author num prev time kind A B C L pins body sk sd) fun v43 =>
  if v43≠0 then some Zd else
   AbD (AcR k author num prev time kind A B C L pins body sk sd) fun v44 =>
   if (!v44)=true then some Zd else
    AfT (Ach k author num prev time kind A B C L pins body sk sd) fun v45 v46 =>
    if (!AbZ (ofI v45) (ofI v0))=true then some Zd
    else some ((AaI.mk author num prev time kind A B C L pins body sk sd),0)):=by
 rw [if_neg (by simp)]
 by_cases hl : l.length=0
 case neg=>exact ⟨Zd,by simp only [AqR]; rw [if_neg hl],by rw [if_pos (by omega)],.inl rfl⟩
 have hv:=hv (List.length_eq_zero_iff.1 hl)
 rw [if_neg (by omega),Aij k _ _ _ _ _ _ _ _ _ _ _ _ _ (by omega) (by omega) (by omega),AaH]
 unfold AlJ
 simp only [AqR]
 rw [if_pos hl,AkC k _ _ _ _ _ _ _ _ _ _ _ _ _ (by omega) (by omega) (by omega),AaH]
 by_cases hc : Amg author num prev time kind A B C L pins body=0
 case neg=>exact ⟨Zd,by rw [if_neg hc],by rw [if_pos hc],.inl rfl⟩
 have hg:=(AjR hc).g
 rw [if_pos hc,if_neg (by simp [hc]),Af6 k hk _ _ _ _ _ _ _ _ _ _ _ _ _ hg,AhP k hk _ _ _ _ _ _ _ _ _ _ _ _ _ hg,AaH,AaH,AhR k hk _ _ _ _ _ _ _ _ _ _ _ _ _ hg hd]
 cases hs : Akp author num prev time kind A B C L pins body sk sd
 ·exact ⟨Zd,rfl,rfl,.inl rfl⟩
 ·have he : Anh author num prev time kind A B C L pins body sk sd=(v0,0):=by
   unfold Anh
   rw [if_neg (by simp [hc]),if_neg (by simp [hs]),hv]
  refine ⟨((AaI.mk author num prev time kind A B C L pins body sk sd),0),rfl,?_,.inr ⟨rfl,by show L.length≤100; omega,by show pins.length≤100; omega⟩⟩
  rw [he,if_neg (by simp),Aea,if_neg (by simp [Adr])]
theorem Aoc (k : Nat) (hk : 3000000<k) (v0 : List Int) (author num : Int) (prev : ByteArray) (time kind A B C : Int) (L l : List Int) (pins : List AaA) (hL : L.length≤64) (hp : pins.length≤64) (hb : Byt l) (hl : l.length≤5000)
 (hv : v0=AjN author num prev time kind A B C L pins.length++(pins.flatMap AhV++l)) :
 AlJ k (AfT (Aai k l 4096) fun v33 v34 =>
  AfT (AaO k v34) fun v35 v36 =>
  AfT (Aai k v36 32) fun v37 v38 =>
  some ((AaI.mk author num prev time kind A B C L pins v33 v35 v37),v38))
  (pn2 (Aai k l 4096) (Aa0 k l 4096) fun v31 v32 =>
  pn2 (AaO k v32) (Aac k v32) fun v33 v34 =>
  pn2 (Aai k v34 32) (Aa0 k v34 32) fun v35 v36 =>
  none) (AaY.J2 k v0 author num prev time kind A B C L l true pins):=by
 unfold AaY.J2
 refine Amo k (by omega) l _ hb hl (fun a x hx=>Ab9 k (by omega) x hx fun b y hy=>AgV k (by omega) y _ hy fun c z hz=>rfl) fun body x e1 s1 hb1 hl1=>?_
 refine Agx k (by omega) x hb1 hl1 (fun b y hy=>AgV k (by omega) y _ hy fun c z hz=>rfl) fun sk y e2 _ hb2 hl2=>?_
 refine Amo k (by omega) y _ hb2 hl2 (fun c z hz=>rfl) fun sd z e3 s3 hb3 hl3=>?_
 exact Alw k hk v0 author num prev time kind A B C L z pins body sk sd hL hp (by omega) fun hz=>by
  rw [hv,e1,e2,e3,hz,Ahz]
  simp only [List.append_assoc,List.append_nil]
theorem AjI (k : Nat) (hk : 3000000<k) (v0 : List Int) (author num : Int) (prev : ByteArray) (time kind A B C : Int) (L : List Int) (hL : L.length≤64) (c : Nat) (hc : c≤64) : ∀ (m i n : Nat) (l : List Int) (pins : List AaA),i+m=c→m<n→pins.length=i→Byt l→l.length≤5000 →
 v0=AjN author num prev time kind A B C L c++(pins.flatMap AhV++l) →
 AlJ k (Aaj.L1 k author num prev time kind A B C L (c : Int) n (i : Int) l pins) (AaZ.L1 k (c : Int) n (i : Int) l pins) (AaY.L3 k v0 author num prev time kind A B C L n (m : Int) l true pins)
 | 0,i,n+1,l,pins,h,hn,hp,hb,hl,hv=>by
  rw [Aaj.L1,AaZ.L1,AaY.L3,if_neg (by omega),if_neg (by omega),if_neg (by omega)]
  obtain rfl : c=pins.length:=by omega
  exact Aoc k hk v0 author num prev time kind A B C L l pins hL (by omega) hb hl hv
 | m+1,i,n+1,l,pins,h,hn,hp,hb,hl,hv=>by
  rw [Aaj.L1,AaZ.L1,AaY.L3,if_pos (by omega),if_pos (by omega),if_pos (by omega),if_pos rfl,if_neg (by omega)]
  have hch : ∀ (x : AaA),(pins.length+([x] : List AaA).length)*32≤140737488355328:=fun x=>by simp; omega
  have hf : ∀ (a b : Int) (d : ByteArray) (x : List Int),x.length≤5000→(chk ((pins.length+([(AaA.mk a b d)] : List AaA).length)*32≤140737488355328) <|
   AaY.L3 k v0 author num prev time kind A B C L n (IntKind.wrap .i64 (((m+1 : Nat) : Int)-1)) x false (pins++([(AaA.mk a b d)] : List AaA)))=some Zd:=fun a b d x hx=>by
   rw [AaX (hch _),Agt k (by omega) _ _ _ _ _ _ _ _ _ _ _ _ hx _ _ (by omega)]
  refine Agx k (by omega) l hb hl (fun a x hx=>Ab9 k (by omega) x hx fun b y hy=>AgV k (by omega) y _ hy fun d z hz=>hf a b d z hz) fun a x e1 _ hb1 hl1=>?_
  refine Agx k (by omega) x hb1 hl1 (fun b y hy=>AgV k (by omega) y _ hy fun d z hz=>hf a b d z hz) fun b y e2 _ hb2 hl2=>?_
  refine Amo k (by omega) y _ hb2 hl2 (fun d z hz=>hf a b d z hz) fun d z e3 s3 hb3 hl3=>?_
  rw [AaX (hch _),AaX (hch _),AaX (hch _),AeS i (by omega),show IntKind.wrap .i64 (((m+1 : Nat) : Int)-1)=((m : Nat) : Int) by rw [w64 (by omega) (by omega)]; omega]
  refine AjI k hk v0 author num prev time kind A B C L hL c hc m (i+1) n z _ (by omega) (by omega) (by simp [hp]) hb3 hl3 ?_
  rw [hv,e1,e2,e3,List.flatMap_append]
  simp only [AhV,List.flatMap_cons,List.flatMap_nil,List.append_assoc,List.append_nil]
  try rfl
theorem Anp (k : Nat) (hk : 900<k) (v0 : List Int) (author num : Int) (prev : ByteArray) (time kind A B C : Int) (L : List Int) : ∀ (m n : Nat) (c : Int) (l : List Int) (ok : Bool) (pins : List AaA),pins.length+m=64→m<n→(m : Int)<c→c≤9223372036854775807→l.length≤5000 →
 AaY.L3 k v0 author num prev time kind A B C L n c l ok pins=some Zd
 | m,n,c,l,false,pins,hp,hn,hc,hc2,hl=>Agt k hk _ _ _ _ _ _ _ _ _ _ _ _ hl _ _ (by omega)
 | 0,n+1,c,l,true,pins,hp,hn,hc,hc2,hl=>by rw [AaY.L3,if_pos (by omega),if_pos rfl,if_pos (by omega)]
 | m+1,n+1,c,l,true,pins,hp,hn,hc,hc2,hl=>by
  obtain ⟨a,x,o1,e1,h1,_⟩:=AiR k hk l hl true
  obtain ⟨b,y,o2,e2,h2,_⟩:=AiR k hk x h1 o1
  obtain ⟨d,z,o3,e3,h3,_⟩:=AiQ k hk y 32 h2 o2
  rw [AaY.L3,if_pos (by omega),if_pos rfl,if_neg (by omega),e1,Ab8,e2,Ab8,e3,Ab8,AaX (by simp; omega),w64 (by omega) (by omega)]
  exact Anp k hk v0 author num prev time kind A B C L m n _ z o3 _ (by simp; omega) (by omega) (by omega) (by omega) h3
theorem Aj1 (v : Int) : ∀ j,Byt (Ahw v j)
 | 0=>by intro y hy; cases hy
 | j+1=>by
  intro y hy
  rcases List.mem_cons.1 hy with rfl | hy
  ·omega
  ·exact Aj1 v j y hy
theorem Als (H x y s t : List Int) (hx : Byt x) (hy : Byt y) (hl : x.length=y.length) (h : ofI (H++(x++s))=ofI (H++(y++t))) : x=y:=by
 have h1 : ((H++(x++s)).map fun n : Int=>UInt8.ofNat n.toNat)=((H++(y++t)).map fun n : Int=>UInt8.ofNat n.toNat):=by
  have:=congrArg (fun b : ByteArray=>b.data.toList) h
  simpa [ofI] using this
 rw [List.map_append,List.map_append,List.map_append,List.map_append] at h1
 have h2:=List.append_cancel_left h1
 have h3:=(List.append_inj h2 (by simp [hl])).1
 have h4:=congrArg (fun l : List UInt8=>bI ⟨l.toArray⟩) h3
 have e1:=AmG x hx
 have e2:=AmG y hy
 unfold ofI at e1 e2
 rw [← e1,← e2]
 exact h4
theorem AqC (k : Nat) (hk : 3000000<k) (v0 : List Int) (author num : Int) (prev : ByteArray) (time kind A B C : Int) (L l : List Int) (c : Int) (hL : L.length≤64) (hl : l.length≤5000) (hb : Byt l) (hc : AlF (enc c)=c) (hn : c≠0)
 (hv : v0=AjN author num prev time kind A B C L c++l) : AaY.J2 k v0 author num prev time kind A B C L l true []=some Zd:=by
 unfold AaY.J2
 obtain ⟨body,x,o1,e1,h1,_⟩:=AiQ k (by omega) l 4096 hl true
 obtain ⟨sk,y,o2,e2,h2,_⟩:=AiR k (by omega) x h1 o1
 obtain ⟨sd,z,o3,e3,h3,_⟩:=AiQ k (by omega) y 32 h2 o2
 have hd : sd.size≤100∨o3=false:=by
  unfold AbE at e3
  rw [AeK k (by omega) y _ (by omega)] at e3
  rcases e : Agf y 32 with ⟨a,w,b⟩
  rw [e,Ab8] at e3
  cases o2
  ·rw [if_neg (by simp)] at e3; simp at e3; exact .inr e3.2.2
  ·rw [if_pos rfl] at e3
   simp only [Option.some.injEq,Prod.mk.injEq] at e3
   obtain ⟨rfl,rfl,rfl⟩:=e3
   cases b
   ·exact .inr rfl
   ·left
    unfold Agf at e
    dsimp only at e
    split at e; · simp at e
    split at e; · simp at e
    split at e; · simp at e
    split at e; · simp at e
    simp only [Prod.mk.injEq] at e
    rw [← e.1,AkX,List.length_take]
    omega
 rw [e1,Ab8,e2,Ab8,e3,Ab8]
 cases o3
 ·rfl
 have hd : sd.size≤100:=by rcases hd with h | h; · exact h
                           ·cases h
 rw [if_neg (by simp)]
 split; · rfl
 rw [Aij k _ _ _ _ _ _ _ _ _ _ _ _ _ (by omega) (by omega) (by simp; omega),AaH]
 split; · rfl
 rename_i hck
 have hck : Amg author num prev time kind A B C L [] body=0:=by simpa using hck
 have hg:=(AjR hck).g
 rw [Af6 k hk _ _ _ _ _ _ _ _ _ _ _ _ _ hg,AaH]
 split; · rfl
 rename_i hs
 rw [AhR k hk _ _ _ _ _ _ _ _ _ _ _ _ _ hg hd]
 unfold Anh
 rw [if_neg (by simp [hck]),if_neg hs,Aea,if_pos]
 have : ¬ AbZ (ofI (Aeq author num prev time kind A B C L [] body++enc sk++AgO sd)) (ofI v0)=true:=by
  rw [Aiu,hv,Ahz]
  intro h
  unfold AjN at h
  simp only [List.append_assoc] at h
  have e:=Als (enc author++(enc num++(AgO prev++([time,kind,A,B,C].flatMap enc++(enc L.length++L.flatMap enc))))) (enc 0) (enc c) _ l (Aj1 _ 8) (Aj1 _ 8) rfl (by simpa only [List.append_assoc,List.length_nil,Int.natCast_zero,Int.ofNat_zero] using h)
  have e2 : AlF (enc 0)=c:=by rw [e]; exact hc
  rw [AnD 0 (Aof (by omega) (by omega))] at e2
  exact hn e2.symm
 simpa using this
theorem AlE (l : List Int) : -9223372036854775808≤AlF l∧AlF l≤9223372036854775807:=by
 unfold AlF
 rw [AiB]
 split <;> omega
theorem Aod (k : Nat) (hk : 3000000<k) (v0 : List Int) (author num : Int) (prev : ByteArray) (time kind A B C : Int) (L l : List Int) (hL : L.length≤64) (hb : Byt l) (hl : l.length≤5000)
 (hv : ∀ a x,l=enc a++x→v0=AjN author num prev time kind A B C L a++x) :
 AlJ k (AfT (AaO k l) fun v21 v22 =>
  AbD (Abd k v21 0 64) fun v23 =>
  AbD (AbS k v23) fun _ =>
  Aaj.L1 k author num prev time kind A B C L v21 k 0 v22 ([] : List AaA))
  (pn2 (AaO k l) (Aac k l) fun v19 v20 =>
  AbD (Abd k v19 0 64) fun v21 =>
  pn1 (AbS k v21) (Aby k v21) fun _ =>
  AaZ.L1 k v19 k 0 v20 ([] : List AaA)) (AaY.J1 k v0 author num prev time kind A B C L l true):=by
 unfold AaY.J1
 refine Agx k (by omega) l hb hl (fun a x hx=>Agt k (by omega) _ _ _ _ _ _ _ _ _ _ _ _ hx _ _ (by omega)) fun c x e1 hc hb1 hl1=>?_
 have hr:=AlE (enc c)
 rw [hc] at hr
 rw [AlI,AaH,AaH]
 cases hi : bIn c 0 64
 ·refine Afz k ?_
  by_cases hn : c<0
  ·obtain ⟨q,rfl⟩ : ∃ q,k=q+1:=⟨k-1,by omega⟩
   rw [AaY.L3,if_neg (by omega)]
   exact AqC (q+1) hk v0 author num prev time kind A B C L x c hL hl1 hb1 hc (by omega) (hv c x e1)
  ·have : 64<c:=by simp [bIn] at hi; omega
   exact Anp k (by omega) v0 author num prev time kind A B C L 64 k c x true [] rfl (by omega) (by omega) hr.2 hl1
 ·simp only [bIn,Bool.and_eq_true,decide_eq_true_eq] at hi
  obtain ⟨q,rfl⟩:=Int.eq_ofNat_of_zero_le hi.1
  have:=AjI k hk v0 author num prev time kind A B C L hL q (by omega) q 0 k x [] (by omega) (by omega) rfl hb1 hl1 (hv _ x e1)
  exact this
theorem AkB (k : Nat) (hk : 3000000<k) (v0 : List Int) (hb : Byt v0) (hl : v0.length≤5000) : AlJ k (Aaj k v0) (AaZ k v0) (AaY k v0):=by
 have hk9 : 900<k:=by omega
 unfold Aaj AaZ AaY
 have f1 : ∀ (a b : Int) (p : ByteArray) (t d A B C : Int) (L x : List Int),x.length≤5000→AaY.J1 k v0 a b p t d A B C L x false=some Zd:=fun a b p t d A B C L x hx=>AnO k hk9 _ _ _ _ _ _ _ _ _ _ _ hx
 refine Agx k hk9 v0 hb hl (fun a x h=>Ab9 k hk9 x h fun b x h=>AgV k hk9 x _ h fun p x h=>Ab9 k hk9 x h fun t x h=>Ab9 k hk9 x h fun d x h=>Ab9 k hk9 x h fun A x h=>Ab9 k hk9 x h fun B x h=>Ab9 k hk9 x h fun C x h=>AgW k hk9 x _ h fun L x h=>f1 _ _ _ _ _ _ _ _ _ x h) fun a x1 e1 _ b1 l1=>?_
 refine Agx k hk9 x1 b1 l1 (fun b x h=>AgV k hk9 x _ h fun p x h=>Ab9 k hk9 x h fun t x h=>Ab9 k hk9 x h fun d x h=>Ab9 k hk9 x h fun A x h=>Ab9 k hk9 x h fun B x h=>Ab9 k hk9 x h fun C x h=>AgW k hk9 x _ h fun L x h=>f1 _ _ _ _ _ _ _ _ _ x h) fun b x2 e2 _ b2 l2=>?_
 refine Amo k hk9 x2 _ b2 l2 (fun p x h=>Ab9 k hk9 x h fun t x h=>Ab9 k hk9 x h fun d x h=>Ab9 k hk9 x h fun A x h=>Ab9 k hk9 x h fun B x h=>Ab9 k hk9 x h fun C x h=>AgW k hk9 x _ h fun L x h=>f1 _ _ _ _ _ _ _ _ _ x h) fun p x3 e3 _ b3 l3=>?_
 refine Agx k hk9 x3 b3 l3 (fun t x h=>Ab9 k hk9 x h fun d x h=>Ab9 k hk9 x h fun A x h=>Ab9 k hk9 x h fun B x h=>Ab9 k hk9 x h fun C x h=>AgW k hk9 x _ h fun L x h=>f1 _ _ _ _ _ _ _ _ _ x h) fun t x4 e4 _ b4 l4=>?_
 refine Agx k hk9 x4 b4 l4 (fun d x h=>Ab9 k hk9 x h fun A x h=>Ab9 k hk9 x h fun B x h=>Ab9 k hk9 x h fun C x h=>AgW k hk9 x _ h fun L x h=>f1 _ _ _ _ _ _ _ _ _ x h) fun d x5 e5 _ b5 l5=>?_
 refine Agx k hk9 x5 b5 l5 (fun A x h=>Ab9 k hk9 x h fun B x h=>Ab9 k hk9 x h fun C x h=>AgW k hk9 x _ h fun L x h=>f1 _ _ _ _ _ _ _ _ _ x h) fun A x6 e6 _ b6 l6=>?_
 refine Agx k hk9 x6 b6 l6 (fun B x h=>Ab9 k hk9 x h fun C x h=>AgW k hk9 x _ h fun L x h=>f1 _ _ _ _ _ _ _ _ _ x h) fun B x7 e7 _ b7 l7=>?_
 refine Agx k hk9 x7 b7 l7 (fun C x h=>AgW k hk9 x _ h fun L x h=>f1 _ _ _ _ _ _ _ _ _ x h) fun C x8 e8 _ b8 l8=>?_
 refine Aqm k hk9 x8 _ b8 l8 (fun L x h=>f1 _ _ _ _ _ _ _ _ _ x h) fun L x9 e9 s9 b9 l9=>?_
 refine Aod k hk v0 a b p t d A B C L x9 (by omega) b9 l9 fun c y e=>?_
 rw [e1,e2,e3,e4,e5,e6,e7,e8,e9,e]
 unfold AjN
 simp only [List.flatMap_cons,List.flatMap_nil,List.append_assoc,List.append_nil]
 try rfl
theorem AlZ (k : Nat) (hk : 3000000<k) (v0 : List Int) (hb : Byt v0) (hl : v0.length≤5000) : AeW k v0=some true:=by
 obtain ⟨d,h1,h2,h3⟩:=AkB k hk v0 hb hl
 unfold AeW
 rw [AlK,h1,h2]
 obtain ⟨v,c⟩:=d
 have hs : v.Lst.length≤100∧v.Pins.length≤100:=by
  rcases h3 with h | h
  ·simp only [Prod.mk.injEq] at h
   rw [h.1]
   simp
  ·exact h.2
 rw [Aea,Aea,if_pos rfl,AhQ k _ _ _ _ _ _ _ _ _ _ _ _ _ (by omega) (by omega) (by omega) (by omega),AaH]
end Go.TF
set_option linter.unusedVariables false
set_option linter.unusedSimpArgs false
namespace Go.TF
open Go Go.Abs
theorem AoY : Acl 10000000=some true:=by decide +kernel
theorem Akb (k : Nat) (v0 : Int) (v1 : Int) (v2 : ByteArray) (v3 : Int) (v4 : Int) (v5 : Int) (v6 : Int) (v7 : Int) (v8 : (List Int)) (v9 : (List AaA)) (v10 : ByteArray) (v11 : Int) (v12 : ByteArray) :
 ∃ b,AdM k v0 v1 v2 v3 v4 v5 v6 v7 v8 v9 v10 v11 v12=some b∧(b=true→v8.length≤100∧v9.length≤100∧v10.size≤5000∧v2.size≤100∧v12.size≤100):=by
 unfold AdM
 by_cases h1 : (v8.length : Int)≤100
 case neg=>rw [if_neg h1]; exact ⟨_,rfl,fun h=>by cases h⟩
 by_cases h2 : (v9.length : Int)≤100
 case neg=>rw [if_pos h1,if_neg h2]; exact ⟨_,rfl,fun h=>by cases h⟩
 by_cases h3 : (v10.size : Int)≤5000
 case neg=>rw [if_pos h1,if_pos h2,if_neg h3]; exact ⟨_,rfl,fun h=>by cases h⟩
 by_cases h4 : (v2.size : Int)≤100
 case neg=>rw [if_pos h1,if_pos h2,if_pos h3,if_neg h4]; exact ⟨_,rfl,fun h=>by cases h⟩
 rw [if_pos h1,if_pos h2,if_pos h3,if_pos h4]
 exact ⟨_,rfl,fun h=>by simp only [decide_eq_true_eq] at h; omega⟩
def Ai0 (l : List AaA) : Nat:=(l.map fun p=>p.Digest.size).sum
theorem Aiz : ∀ (l : List AaA),(l.flatMap AhV).length=24*l.length+Ai0 l
 | []=>rfl
 | x::l=>by
  have:=Aiz l
  unfold Ai0 at this ⊢
  rw [List.flatMap_cons,List.length_append,this,Ag7,List.length_cons,List.map_cons,List.sum_cons]; omega
theorem Ako (b : List Int) : (Ant b).size≤100:=by rw [AlV]; omega
theorem AhN (v0 : Int) (v1 : Int) (v2 : ByteArray) (v3 : Int) (v4 : Int) (v5 : Int) (v6 : Int) (v7 : Int) (v8 : (List Int)) (v9 : (List AaA)) (v10 : ByteArray) (v11 : Int) (v12 : ByteArray) (v13 : Int) (v14 : Int) (v15 : ByteArray) (v16 : Int) (v17 : Int) (v18 : Int) (v19 : Int) (v20 : Int) (v21 : (List Int)) (v22 : (List AaA)) (v23 : ByteArray) (v24 : Int) (v25 : ByteArray) (v26 : (List Int))
 (h26 : Fit (.lst false false (v26.map (.int .u8)))) (p9 : Ai0 v9≤1048576) (p22 : Ai0 v22≤1048576) :
 ∃ k,Ace k v0 v1 v2 v3 v4 v5 v6 v7 v8 v9 v10 v11 v12 v13 v14 v15 v16 v17 v18 v19 v20 v21 v22 v23 v24 v25 v26=some true:=by
 obtain ⟨k,hk⟩ : ∃ k,k=10000000:=⟨_,rfl⟩
 refine ⟨k,?_⟩
 have aw : Acl k=some true:=by rw [hk]; exact AoY
 have hk3 : 3000000<k:=by omega
 clear hk
 obtain ⟨a,ea,ha⟩:=Akb k v0 v1 v2 v3 v4 v5 v6 v7 v8 v9 v10 v11 v12
 obtain ⟨b,eb,hb⟩:=Akb k v13 v14 v15 v16 v17 v18 v19 v20 v21 v22 v23 v24 v25
 unfold Ace
 rw [ea,AaH]
 cases a
 ·rw [if_pos (by simp),aw]; rfl
 obtain ⟨g1,g2,g3,g4,g5⟩:=ha rfl
 rw [if_neg (by simp),eb,AaH]
 cases b
 ·rw [if_pos (by simp),aw]; rfl
 obtain ⟨j1,j2,j3,j4,j5⟩:=hb rfl
 rw [if_neg (by simp)]
 by_cases h5 : 500<(v26.length : Int)
 ·rw [if_pos h5,aw]; rfl
 have hg : Af5 v2 v8 v9 v10:=⟨g4,g1,g2,by rw [Aiz]; omega,g3⟩
 have hr:=h26.ints.2
 have hB : Byt v26:=fun y hy=>by
  have:=hr y hy
  simp [InR,IntKind.min,IntKind.max,IntKind.bits,IntKind.signed] at this
  omega
 rw [if_neg h5,aw,AaH,if_pos rfl,Ah7 k hk3 v0 v1 v2 v3 v4 v5 v6 v7 v8 v9 v10 v11 v12 _ _ _ _ _ _ _ _ _ _ _ _ _ hg g5,AaH,if_pos rfl,AmV k hk3 _ _ _ _ _ _ _ _ _ _ _ _ _ hg,AaH]
 dsimp only
 rw [Ah7 k hk3 v0 v1 v2 v3 v4 v5 v6 v7 v8 v9 v10 v0 _ _ _ _ _ _ _ _ _ _ _ _ _ _ hg (show (Ani v0 v1 v2 v3 v4 v5 v6 v7 v8 v9 v10).size≤100 from Ako _),AaH,if_pos rfl,AlZ k hk3 v26 hB (by omega),AaH]
end Go.TF
