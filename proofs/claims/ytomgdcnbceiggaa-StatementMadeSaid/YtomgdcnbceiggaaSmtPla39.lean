import Derived.Test.YtomgdcnbceiggaaSmtPla38
set_option linter.unusedVariables false
set_option linter.unusedSimpArgs false
set_option maxRecDepth 4000
namespace Go.TF
open Go Go.Abs
abbrev Zd : AaI×Int:=((AaI.mk 0 0 (ByteArray.mk #[]) 0 0 0 0 0 [] [] (ByteArray.mk #[]) 0 (ByteArray.mk #[])),1)
def ArC (k : Nat) (r : Option (AaI×List Int)) (p : Option Unit) : Option (AaI×Int) :=
 match r with
 | some (v,l) =>
  if l.length=0 then
   AbI (AaQ k v.Author v.Number v.Prev v.Time v.Kind v.A v.B v.C v.Lst v.Pins v.Body v.Seal_Key v.Seal_Digest) fun c =>
   if c=0 then
    AbI (Abm k v.Author v.Number v.Prev v.Time v.Kind v.A v.B v.C v.Lst v.Pins v.Body v.Seal_Key v.Seal_Digest) fun b =>
    if b=true then some (v,0) else some Zd
   else some Zd
  else some Zd
 | none=>match p with
  | some _=>some Zd
  | none=>none
theorem Alw (k : Nat) (v0 : List Int) : Acs k v0=ArC k (Aam k v0) (Aac k v0):=rfl
def Alv (k : Nat) (r : Option (AaI×List Int)) (p : Option Unit) (R : Option (AaI×Int)) : Prop:=∃ d,ArC k r p=some d∧R=some d∧(d=Zd∨d.2=0∧d.1.Lst.length≤100∧d.1.Pins.length≤100)
theorem AgO (k : Nat) {R : Option (AaI×Int)} (h : R=some Zd) : Alv k none (some ()) R:=⟨Zd,rfl,h,.inl rfl⟩
theorem AhV (k : Nat) (hk : 900<k) (l : List Int) (hb : Byt l) (hl : l.length≤5000) {f : Int→List Int→Option (AaI×List Int)} {g : Int→List Int→Option Unit} {h : Int→List Int→Bool→Option (AaI×Int)}
 (hz : ∀ a x,x.length≤5000→h a x false=some Zd)
 (hs : ∀ a x,l=enc a++x→Alq (enc a)=a→Byt x→x.length≤5000→Alv k (f a x) (g a x) (h a x true)) :
 Alv k (Acy (AaT k l) f) (pn2 (AaT k l) (Aaf k l) g) (AfB (Aa1 k l true) h):=by
 unfold AaT Aaf Aa1
 rw [Afp k (by omega) l (by omega),AdX k (by omega) l (by omega)]
 have hx:=Ads l
 rcases e : Aeo l with ⟨a,x,b⟩
 rw [e] at hx
 simp only at hx
 cases b
 ·exact AgO k (hz a x (by omega))
 ·obtain ⟨h1,h2,h3⟩:=Aio hb e
  exact hs a x h1 h2 h3 (by omega)
theorem AnU (k : Nat) (hk : 900<k) (l : List Int) (m : Int) (hb : Byt l) (hl : l.length≤5000) {f : ByteArray→List Int→Option (AaI×List Int)} {g : ByteArray→List Int→Option Unit} {h : ByteArray→List Int→Bool→Option (AaI×Int)}
 (hz : ∀ a x,x.length≤5000→h a x false=some Zd)
 (hs : ∀ a x,l=Agc a++x→(a.size : Int)≤m→Byt x→x.length≤5000→Alv k (f a x) (g a x) (h a x true)) :
 Alv k (Acy (Aal k l m) f) (pn2 (Aal k l m) (Aa7 k l m) g) (AfB (AbL k l true m) h):=by
 unfold Aal Aa7 AbL
 rw [Akn k (by omega) l m (by omega),Aeg k (by omega) l m (by omega)]
 have hx:=AjY l m
 rcases e : Ag9 l m with ⟨a,x,b⟩
 rw [e] at hx
 simp only at hx
 cases b
 ·exact AgO k (hz a x (by omega))
 ·obtain ⟨h1,h2,h3⟩:=AnR hb e
  exact hs a x h1 h2 h3 (by omega)
theorem ArY (k : Nat) (hk : 900<k) (l : List Int) (m : Int) (hb : Byt l) (hl : l.length≤5000) {f : List Int→List Int→Option (AaI×List Int)} {g : List Int→List Int→Option Unit} {h : List Int→List Int→Bool→Option (AaI×Int)}
 (hz : ∀ a x,x.length≤5000→h a x false=some Zd)
 (hs : ∀ a x,l=enc a.length++(a.flatMap enc++x)→(a.length : Int)≤m→Byt x→x.length≤5000→Alv k (f a x) (g a x) (h a x true)) :
 Alv k (Acy (AbY k l m) f) (pn2 (AbY k l m) (Abu k l m) g) (AfB (AbJ k l m) fun a x b=>if true=true then h a x b else h a x false):=by
 unfold AbY Abu
 rw [Ako k hk l m hl,Afw k hk l m hl]
 have hx:=AiL l m
 rcases e : Ah5 l m with ⟨a,x,b⟩
 rw [e] at hx
 simp only at hx
 cases b
 ·exact AgO k (hz a x (by omega))
 ·obtain ⟨h1,h2,h3⟩:=AnS hb hl e
  exact hs a x h1 h2 h3 (by omega)
theorem Ai1 (k : Nat) (hk : 900<k) (l : List Int) (hl : l.length≤5000) (ok : Bool) : ∃ a x b,Aa1 k l ok=some (a,x,b)∧x.length≤5000∧(ok=false→b=false):=by
 unfold Aa1
 rw [AdX k (by omega) l (by omega)]
 have hx:=Ads l
 rcases e : Aeo l with ⟨a,x,b⟩
 rw [e] at hx
 simp only at hx
 cases ok
 ·exact ⟨a,x,false,rfl,by omega,fun _=>rfl⟩
 ·exact ⟨a,x,b,rfl,by omega,fun h=>by cases h⟩
theorem Ai0 (k : Nat) (hk : 900<k) (l : List Int) (m : Int) (hl : l.length≤5000) (ok : Bool) : ∃ a x b,AbL k l ok m=some (a,x,b)∧x.length≤5000∧(ok=false→b=false):=by
 unfold AbL
 rw [Aeg k (by omega) l m (by omega)]
 have hx:=AjY l m
 rcases e : Ag9 l m with ⟨a,x,b⟩
 rw [e] at hx
 simp only at hx
 cases ok
 ·exact ⟨a,x,false,rfl,by omega,fun _=>rfl⟩
 ·exact ⟨a,x,b,rfl,by omega,fun h=>by cases h⟩
theorem AcN (k : Nat) (hk : 900<k) (l : List Int) (hl : l.length≤5000) {h : Int→List Int→Bool→Option (AaI×Int)} (hz : ∀ a x,x.length≤5000→h a x false=some Zd) : AfB (Aa1 k l false) h=some Zd:=by
 obtain ⟨a,x,b,e,hx,hb⟩:=Ai1 k hk l hl false
 rw [e,AcL,hb rfl,hz a x hx]
theorem Agx (k : Nat) (hk : 900<k) (l : List Int) (m : Int) (hl : l.length≤5000) {h : ByteArray→List Int→Bool→Option (AaI×Int)} (hz : ∀ a x,x.length≤5000→h a x false=some Zd) : AfB (AbL k l false m) h=some Zd:=by
 obtain ⟨a,x,b,e,hx,hb⟩:=Ai0 k hk l m hl false
 rw [e,AcL,hb rfl,hz a x hx]
theorem Agy (k : Nat) (hk : 900<k) (l : List Int) (m : Int) (hl : l.length≤5000) {h : List Int→List Int→Bool→Option (AaI×Int)} (hz : ∀ a x,x.length≤5000→h a x false=some Zd) : AfB (AbJ k l m) (fun a x b=>if false=true then h a x b else h a x false)=some Zd:=by
 rw [Afw k hk l m hl]
 have hx:=AiL l m
 rcases e : Ah5 l m with ⟨a,x,b⟩
 rw [e] at hx
 exact hz a x (by simp only at hx; omega)
def Aj1 (author num : Int) (prev : ByteArray) (time kind A B C : Int) (L : List Int) (c : Int) : List Int :=
 enc author++enc num++Agc prev++[time,kind,A,B,C].flatMap enc++enc L.length++L.flatMap enc++enc c
theorem Aid (author num : Int) (prev : ByteArray) (time kind A B C : Int) (L : List Int) (pins : List AaD) (body : ByteArray) : AeW author num prev time kind A B C L pins body=Aj1 author num prev time kind A B C L pins.length++(pins.flatMap Ah8++Agc body):=by
 simp only [AeW,Aj1,List.append_assoc]
theorem An7 (k : Nat) (hk : 900<k) (v0 : List Int) (author num : Int) (prev : ByteArray) (time kind A B C : Int) (L l : List Int) (pins : List AaD) (hl : l.length≤5000) :
 Aab.J2 k v0 author num prev time kind A B C L l false pins=some Zd:=by
 unfold Aab.J2
 refine Agx k hk l _ hl fun a x hx=>?_
 refine AcN k hk x hx fun b y hy=>?_
 refine Agx k hk y _ hy fun c z hz=>?_
 rfl
theorem AhO (k : Nat) (hk : 900<k) (v0 : List Int) (author num : Int) (prev : ByteArray) (time kind A B C : Int) (L l : List Int) (pins : List AaD) (hl : l.length≤5000) (n : Nat) (c : Int) (hn : 0<n) :
 Aab.L3 k v0 author num prev time kind A B C L n c l false pins=some Zd:=by
 cases n with
 | zero=>omega
 | succ n =>
  rw [Aab.L3,if_neg (show ¬ false=true by simp),An7 k hk _ _ _ _ _ _ _ _ _ _ _ _ hl,ite_self]
theorem An8 (k : Nat) (hk : 900<k) (v0 : List Int) (author num : Int) (prev : ByteArray) (time kind A B C : Int) (L l : List Int) (hl : l.length≤5000) :
 Aab.J1 k v0 author num prev time kind A B C L l false=some Zd:=by
 unfold Aab.J1
 exact AcN k hk l hl fun a x hx=>AhO k hk _ _ _ _ _ _ _ _ _ _ _ _ hx _ _ (by omega)
theorem Ama (k : Nat) (hk : 3000000<k) (v0 : List Int) (author num : Int) (prev : ByteArray) (time kind A B C : Int) (L l : List Int) (pins : List AaD) (body : ByteArray) (sk : Int) (sd : ByteArray) (hL : L.length≤64) (hp : pins.length≤64) (hd : sd.size≤100)
 (hv : l = []→v0=AeW author num prev time kind A B C L pins body++enc sk++Agc sd) :
 Alv k (some (⟨author,num,prev,time,kind,A,B,C,L,pins,body,sk,sd⟩,l)) none (if (!true)=true then some Zd else if 0<(l.length : Int) then some Zd else
  AbI (Aav k author num prev time kind A B C L pins body sk sd) fun v43 =>
  if v43≠0 then some Zd else
   AbI (Aci k author num prev time kind A B C L pins body sk sd) fun v44 =>
   if (!v44)=true then some Zd else
    Acy (Ack k author num prev time kind A B C L pins body sk sd) fun v45 v46 =>
    if (!Abo (ofI v45) (ofI v0))=true then some Zd
    else some ((AaI.mk author num prev time kind A B C L pins body sk sd),0)):=by
 rw [if_neg (by simp)]
 by_cases hl : l.length=0
 case neg=>exact ⟨Zd,by simp only [ArC]; rw [if_neg hl],by rw [if_pos (by omega)],.inl rfl⟩
 have hv:=hv (List.length_eq_zero_iff.1 hl)
 rw [if_neg (by omega),AjN k _ _ _ _ _ _ _ _ _ _ _ _ _ (by omega) (by omega) (by omega),AaJ]
 unfold Alv
 simp only [ArC]
 rw [if_pos hl,Aks k _ _ _ _ _ _ _ _ _ _ _ _ _ (by omega) (by omega) (by omega),AaJ]
 by_cases hc : AnM author num prev time kind A B C L pins body=0
 case neg=>exact ⟨Zd,by rw [if_neg hc],by rw [if_pos hc],.inl rfl⟩
 have hg:=(Aj7 hc).g
 rw [if_pos hc,if_neg (by simp [hc]),AgV k hk _ _ _ _ _ _ _ _ _ _ _ _ _ hg,Ahz k hk _ _ _ _ _ _ _ _ _ _ _ _ _ hg,AaJ,AaJ,AgX k hk _ _ _ _ _ _ _ _ _ _ _ _ _ hg hd]
 cases hs : AlP author num prev time kind A B C L pins body sk sd
 ·exact ⟨Zd,rfl,rfl,.inl rfl⟩
 ·have he : Aly author num prev time kind A B C L pins body sk sd=(v0,0):=by
   unfold Aly
   rw [if_neg (by simp [hc]),if_neg (by simp [hs]),hv]
  refine ⟨((AaI.mk author num prev time kind A B C L pins body sk sd),0),rfl,?_,.inr ⟨rfl,by show L.length≤100; omega,by show pins.length≤100; omega⟩⟩
  rw [he,if_neg (by simp),Aaq,if_neg (by simp [AeA])]
theorem ApN (k : Nat) (hk : 3000000<k) (v0 : List Int) (author num : Int) (prev : ByteArray) (time kind A B C : Int) (L l : List Int) (pins : List AaD) (hL : L.length≤64) (hp : pins.length≤64) (hb : Byt l) (hl : l.length≤5000)
 (hv : v0=Aj1 author num prev time kind A B C L pins.length++(pins.flatMap Ah8++l)) :
 Alv k (Acy (Aal k l 4096) fun v33 v34 =>
  Acy (AaT k v34) fun v35 v36 =>
  Acy (Aal k v36 32) fun v37 v38 =>
  some ((AaI.mk author num prev time kind A B C L pins v33 v35 v37),v38))
  (pn2 (Aal k l 4096) (Aa7 k l 4096) fun v31 v32 =>
  pn2 (AaT k v32) (Aaf k v32) fun v33 v34 =>
  pn2 (Aal k v34 32) (Aa7 k v34 32) fun v35 v36 =>
  none) (Aab.J2 k v0 author num prev time kind A B C L l true pins):=by
 unfold Aab.J2
 refine AnU k (by omega) l _ hb hl (fun a x hx=>AcN k (by omega) x hx fun b y hy=>Agx k (by omega) y _ hy fun c z hz=>rfl) fun body x e1 s1 hb1 hl1=>?_
 refine AhV k (by omega) x hb1 hl1 (fun b y hy=>Agx k (by omega) y _ hy fun c z hz=>rfl) fun sk y e2 _ hb2 hl2=>?_
 refine AnU k (by omega) y _ hb2 hl2 (fun c z hz=>rfl) fun sd z e3 s3 hb3 hl3=>?_
 exact Ama k hk v0 author num prev time kind A B C L z pins body sk sd hL hp (by omega) fun hz=>by
  rw [hv,e1,e2,e3,hz,Aid]
  simp only [List.append_assoc,List.append_nil]
theorem Ajw (k : Nat) (hk : 3000000<k) (v0 : List Int) (author num : Int) (prev : ByteArray) (time kind A B C : Int) (L : List Int) (hL : L.length≤64) (c : Nat) (hc : c≤64) : ∀ (m i n : Nat) (l : List Int) (pins : List AaD),i+m=c→m<n→pins.length=i→Byt l→l.length≤5000 →
 v0=Aj1 author num prev time kind A B C L c++(pins.flatMap Ah8++l) →
 Alv k (Aam.L1 k author num prev time kind A B C L (c : Int) n (i : Int) l pins) (Aac.L1 k (c : Int) n (i : Int) l pins) (Aab.L3 k v0 author num prev time kind A B C L n (m : Int) l true pins)
 | 0,i,n+1,l,pins,h,hn,hp,hb,hl,hv=>by
  rw [Aam.L1,Aac.L1,Aab.L3,if_neg (by omega),if_neg (by omega),if_neg (by omega)]
  obtain rfl : c=pins.length:=by omega
  exact ApN k hk v0 author num prev time kind A B C L l pins hL (by omega) hb hl hv
 | m+1,i,n+1,l,pins,h,hn,hp,hb,hl,hv=>by
  rw [Aam.L1,Aac.L1,Aab.L3,if_pos (by omega),if_pos (by omega),if_pos (by omega),if_pos rfl,if_neg (by omega)]
  have hch : ∀ (x : AaD),(pins.length+([x] : List AaD).length)*32≤140737488355328:=fun x=>by simp; omega
  have hf : ∀ (a b : Int) (d : ByteArray) (x : List Int),x.length≤5000→(chk ((pins.length+([(AaD.mk a b d)] : List AaD).length)*32≤140737488355328) <|
   Aab.L3 k v0 author num prev time kind A B C L n (IntKind.wrap .i64 (((m+1 : Nat) : Int)-1)) x false (pins++([(AaD.mk a b d)] : List AaD)))=some Zd:=fun a b d x hx=>by
   rw [AaX (hch _),AhO k (by omega) _ _ _ _ _ _ _ _ _ _ _ _ hx _ _ (by omega)]
  refine AhV k (by omega) l hb hl (fun a x hx=>AcN k (by omega) x hx fun b y hy=>Agx k (by omega) y _ hy fun d z hz=>hf a b d z hz) fun a x e1 _ hb1 hl1=>?_
  refine AhV k (by omega) x hb1 hl1 (fun b y hy=>Agx k (by omega) y _ hy fun d z hz=>hf a b d z hz) fun b y e2 _ hb2 hl2=>?_
  refine AnU k (by omega) y _ hb2 hl2 (fun d z hz=>hf a b d z hz) fun d z e3 s3 hb3 hl3=>?_
  rw [AaX (hch _),AaX (hch _),AaX (hch _),AeS i (by omega),show IntKind.wrap .i64 (((m+1 : Nat) : Int)-1)=((m : Nat) : Int) by rw [w64 (by omega) (by omega)]; omega]
  refine Ajw k hk v0 author num prev time kind A B C L hL c hc m (i+1) n z _ (by omega) (by omega) (by simp [hp]) hb3 hl3 ?_
  rw [hv,e1,e2,e3,List.flatMap_append]
  simp only [Ah8,List.flatMap_cons,List.flatMap_nil,List.append_assoc,List.append_nil]
  try rfl
theorem AoV (k : Nat) (hk : 900<k) (v0 : List Int) (author num : Int) (prev : ByteArray) (time kind A B C : Int) (L : List Int) : ∀ (m n : Nat) (c : Int) (l : List Int) (ok : Bool) (pins : List AaD),pins.length+m=64→m<n→(m : Int)<c→c≤9223372036854775807→l.length≤5000 →
 Aab.L3 k v0 author num prev time kind A B C L n c l ok pins=some Zd
 | m,n,c,l,false,pins,hp,hn,hc,hc2,hl=>AhO k hk _ _ _ _ _ _ _ _ _ _ _ _ hl _ _ (by omega)
 | 0,n+1,c,l,true,pins,hp,hn,hc,hc2,hl=>by rw [Aab.L3,if_pos (by omega),if_pos rfl,if_pos (by omega)]
 | m+1,n+1,c,l,true,pins,hp,hn,hc,hc2,hl=>by
  obtain ⟨a,x,o1,e1,h1,_⟩:=Ai1 k hk l hl true
  obtain ⟨b,y,o2,e2,h2,_⟩:=Ai1 k hk x h1 o1
  obtain ⟨d,z,o3,e3,h3,_⟩:=Ai0 k hk y 32 h2 o2
  rw [Aab.L3,if_pos (by omega),if_pos rfl,if_neg (by omega),e1,AcL,e2,AcL,e3,AcL,AaX (by simp; omega),w64 (by omega) (by omega)]
  exact AoV k hk v0 author num prev time kind A B C L m n _ z o3 _ (by simp; omega) (by omega) (by omega) (by omega) h3
theorem Aht (v : Int) : ∀ j,Byt (AiZ v j)
 | 0=>by intro y hy; cases hy
 | j+1=>by
  intro y hy
  rcases List.mem_cons.1 hy with rfl | hy
  ·omega
  ·exact Aht v j y hy
theorem AmS (H x y s t : List Int) (hx : Byt x) (hy : Byt y) (hl : x.length=y.length) (h : ofI (H++(x++s))=ofI (H++(y++t))) : x=y:=by
 have h1 : ((H++(x++s)).map fun n : Int=>UInt8.ofNat n.toNat)=((H++(y++t)).map fun n : Int=>UInt8.ofNat n.toNat):=by
  have:=congrArg (fun b : ByteArray=>b.data.toList) h
  simpa [ofI] using this
 rw [List.map_append,List.map_append,List.map_append,List.map_append] at h1
 have h2:=List.append_cancel_left h1
 have h3:=(List.append_inj h2 (by simp [hl])).1
 have h4:=congrArg (fun l : List UInt8=>bI ⟨l.toArray⟩) h3
 have e1:=Amy x hx
 have e2:=Amy y hy
 unfold ofI at e1 e2
 rw [← e1,← e2]
 exact h4
theorem Aqx (k : Nat) (hk : 3000000<k) (v0 : List Int) (author num : Int) (prev : ByteArray) (time kind A B C : Int) (L l : List Int) (c : Int) (hL : L.length≤64) (hl : l.length≤5000) (hb : Byt l) (hc : Alq (enc c)=c) (hn : c≠0)
 (hv : v0=Aj1 author num prev time kind A B C L c++l) : Aab.J2 k v0 author num prev time kind A B C L l true []=some Zd:=by
 unfold Aab.J2
 obtain ⟨body,x,o1,e1,h1,_⟩:=Ai0 k (by omega) l 4096 hl true
 obtain ⟨sk,y,o2,e2,h2,_⟩:=Ai1 k (by omega) x h1 o1
 obtain ⟨sd,z,o3,e3,h3,_⟩:=Ai0 k (by omega) y 32 h2 o2
 have hd : sd.size≤100∨o3=false:=by
  unfold AbL at e3
  rw [Aeg k (by omega) y _ (by omega)] at e3
  rcases e : Ag9 y 32 with ⟨a,w,b⟩
  rw [e,AcL] at e3
  cases o2
  ·rw [if_neg (by simp)] at e3; simp at e3; exact .inr e3.2.2
  ·rw [if_pos rfl] at e3
   simp only [Option.some.injEq,Prod.mk.injEq] at e3
   obtain ⟨rfl,rfl,rfl⟩:=e3
   cases b
   ·exact .inr rfl
   ·left
    unfold Ag9 at e
    dsimp only at e
    split at e; · simp at e
    split at e; · simp at e
    split at e; · simp at e
    split at e; · simp at e
    simp only [Prod.mk.injEq] at e
    rw [← e.1,AgK,List.length_take]
    omega
 rw [e1,AcL,e2,AcL,e3,AcL]
 cases o3
 ·rfl
 have hd : sd.size≤100:=by rcases hd with h | h; · exact h
                           ·cases h
 rw [if_neg (by simp)]
 split; · rfl
 rw [AjN k _ _ _ _ _ _ _ _ _ _ _ _ _ (by omega) (by omega) (by simp; omega),AaJ]
 split; · rfl
 rename_i hck
 have hck : AnM author num prev time kind A B C L [] body=0:=by simpa using hck
 have hg:=(Aj7 hck).g
 rw [AgV k hk _ _ _ _ _ _ _ _ _ _ _ _ _ hg,AaJ]
 split; · rfl
 rename_i hs
 rw [AgX k hk _ _ _ _ _ _ _ _ _ _ _ _ _ hg hd]
 unfold Aly
 rw [if_neg (by simp [hck]),if_neg hs,Aaq,if_pos]
 have : ¬ Abo (ofI (AeW author num prev time kind A B C L [] body++enc sk++Agc sd)) (ofI v0)=true:=by
  rw [AjZ,hv,Aid]
  intro h
  unfold Aj1 at h
  simp only [List.append_assoc] at h
  have e:=AmS (enc author++(enc num++(Agc prev++([time,kind,A,B,C].flatMap enc++(enc L.length++L.flatMap enc))))) (enc 0) (enc c) _ l (Aht _ 8) (Aht _ 8) rfl (by simpa only [List.append_assoc,List.length_nil,Int.natCast_zero,Int.ofNat_zero] using h)
  have e2 : Alq (enc 0)=c:=by rw [e]; exact hc
  rw [Anx 0 (ApQ (by omega) (by omega))] at e2
  exact hn e2.symm
 simpa using this
theorem Alp (l : List Int) : -9223372036854775808≤Alq l∧Alq l≤9223372036854775807:=by
 unfold Alq
 rw [Aim]
 split <;> omega
theorem ApO (k : Nat) (hk : 3000000<k) (v0 : List Int) (author num : Int) (prev : ByteArray) (time kind A B C : Int) (L l : List Int) (hL : L.length≤64) (hb : Byt l) (hl : l.length≤5000)
 (hv : ∀ a x,l=enc a++x→v0=Aj1 author num prev time kind A B C L a++x) :
 Alv k (Acy (AaT k l) fun v21 v22 =>
  AbI (Abv k v21 0 64) fun v23 =>
  AbI (Abc k v23) fun _ =>
  Aam.L1 k author num prev time kind A B C L v21 k 0 v22 ([] : List AaD))
  (pn2 (AaT k l) (Aaf k l) fun v19 v20 =>
  AbI (Abv k v19 0 64) fun v21 =>
  pn1 (Abc k v21) (AcC k v21) fun _ =>
  Aac.L1 k v19 k 0 v20 ([] : List AaD)) (Aab.J1 k v0 author num prev time kind A B C L l true):=by
 unfold Aab.J1
 refine AhV k (by omega) l hb hl (fun a x hx=>AhO k (by omega) _ _ _ _ _ _ _ _ _ _ _ _ hx _ _ (by omega)) fun c x e1 hc hb1 hl1=>?_
 have hr:=Alp (enc c)
 rw [hc] at hr
 rw [Alu,AaJ,AaJ]
 cases hi : bIn c 0 64
 ·refine AgO k ?_
  by_cases hn : c<0
  ·obtain ⟨q,rfl⟩ : ∃ q,k=q+1:=⟨k-1,by omega⟩
   rw [Aab.L3,if_neg (by omega)]
   exact Aqx (q+1) hk v0 author num prev time kind A B C L x c hL hl1 hb1 hc (by omega) (hv c x e1)
  ·have : 64<c:=by simp [bIn] at hi; omega
   exact AoV k (by omega) v0 author num prev time kind A B C L 64 k c x true [] rfl (by omega) (by omega) hr.2 hl1
 ·simp only [bIn,Bool.and_eq_true,decide_eq_true_eq] at hi
  obtain ⟨q,rfl⟩:=Int.eq_ofNat_of_zero_le hi.1
  have:=Ajw k hk v0 author num prev time kind A B C L hL q (by omega) q 0 k x [] (by omega) (by omega) rfl hb1 hl1 (hv _ x e1)
  exact this
theorem Akr (k : Nat) (hk : 3000000<k) (v0 : List Int) (hb : Byt v0) (hl : v0.length≤5000) : Alv k (Aam k v0) (Aac k v0) (Aab k v0):=by
 have hk9 : 900<k:=by omega
 unfold Aam Aac Aab
 have f1 : ∀ (a b : Int) (p : ByteArray) (t d A B C : Int) (L x : List Int),x.length≤5000→Aab.J1 k v0 a b p t d A B C L x false=some Zd:=fun a b p t d A B C L x hx=>An8 k hk9 _ _ _ _ _ _ _ _ _ _ _ hx
 refine AhV k hk9 v0 hb hl (fun a x h=>AcN k hk9 x h fun b x h=>Agx k hk9 x _ h fun p x h=>AcN k hk9 x h fun t x h=>AcN k hk9 x h fun d x h=>AcN k hk9 x h fun A x h=>AcN k hk9 x h fun B x h=>AcN k hk9 x h fun C x h=>Agy k hk9 x _ h fun L x h=>f1 _ _ _ _ _ _ _ _ _ x h) fun a x1 e1 _ b1 l1=>?_
 refine AhV k hk9 x1 b1 l1 (fun b x h=>Agx k hk9 x _ h fun p x h=>AcN k hk9 x h fun t x h=>AcN k hk9 x h fun d x h=>AcN k hk9 x h fun A x h=>AcN k hk9 x h fun B x h=>AcN k hk9 x h fun C x h=>Agy k hk9 x _ h fun L x h=>f1 _ _ _ _ _ _ _ _ _ x h) fun b x2 e2 _ b2 l2=>?_
 refine AnU k hk9 x2 _ b2 l2 (fun p x h=>AcN k hk9 x h fun t x h=>AcN k hk9 x h fun d x h=>AcN k hk9 x h fun A x h=>AcN k hk9 x h fun B x h=>AcN k hk9 x h fun C x h=>Agy k hk9 x _ h fun L x h=>f1 _ _ _ _ _ _ _ _ _ x h) fun p x3 e3 _ b3 l3=>?_
 refine AhV k hk9 x3 b3 l3 (fun t x h=>AcN k hk9 x h fun d x h=>AcN k hk9 x h fun A x h=>AcN k hk9 x h fun B x h=>AcN k hk9 x h fun C x h=>Agy k hk9 x _ h fun L x h=>f1 _ _ _ _ _ _ _ _ _ x h) fun t x4 e4 _ b4 l4=>?_
 refine AhV k hk9 x4 b4 l4 (fun d x h=>AcN k hk9 x h fun A x h=>AcN k hk9 x h fun B x h=>AcN k hk9 x h fun C x h=>Agy k hk9 x _ h fun L x h=>f1 _ _ _ _ _ _ _ _ _ x h) fun d x5 e5 _ b5 l5=>?_
 refine AhV k hk9 x5 b5 l5 (fun A x h=>AcN k hk9 x h fun B x h=>AcN k hk9 x h fun C x h=>Agy k hk9 x _ h fun L x h=>f1 _ _ _ _ _ _ _ _ _ x h) fun A x6 e6 _ b6 l6=>?_
 refine AhV k hk9 x6 b6 l6 (fun B x h=>AcN k hk9 x h fun C x h=>Agy k hk9 x _ h fun L x h=>f1 _ _ _ _ _ _ _ _ _ x h) fun B x7 e7 _ b7 l7=>?_
 refine AhV k hk9 x7 b7 l7 (fun C x h=>Agy k hk9 x _ h fun L x h=>f1 _ _ _ _ _ _ _ _ _ x h) fun C x8 e8 _ b8 l8=>?_
 refine ArY k hk9 x8 _ b8 l8 (fun L x h=>f1 _ _ _ _ _ _ _ _ _ x h) fun L x9 e9 s9 b9 l9=>?_
 refine ApO k hk v0 a b p t d A B C L x9 (by omega) b9 l9 fun c y e=>?_
 rw [e1,e2,e3,e4,e5,e6,e7,e8,e9,e]
 unfold Aj1
 simp only [List.flatMap_cons,List.flatMap_nil,List.append_assoc,List.append_nil]
 try rfl
theorem AgG (k : Nat) (hk : 3000000<k) (v0 : List Int) (hb : Byt v0) (hl : v0.length≤5000) : AdQ k v0=some true:=by
 obtain ⟨d,h1,h2,h3⟩:=Akr k hk v0 hb hl
 unfold AdQ
 rw [Alw,h1,h2]
 obtain ⟨v,c⟩:=d
 have hs : v.Lst.length≤100∧v.Pins.length≤100:=by
  rcases h3 with h | h
  ·simp only [Prod.mk.injEq] at h
   rw [h.1]
   simp
  ·exact h.2
 rw [Aaq,Aaq,if_pos rfl,Ah0 k _ _ _ _ _ _ _ _ _ _ _ _ _ (by omega) (by omega) (by omega) (by omega),AaJ]
end Go.TF
set_option linter.unusedVariables false
set_option linter.unusedSimpArgs false
namespace Go.TF
open Go Go.Abs
theorem ApG : AcX 10000000=some true:=by decide +kernel
def As9 (l : List AaD) : Nat:=(l.map fun p=>p.Digest.size).sum
theorem AlO (b : List Int) : (AoZ b).size≤100:=by rw [Ajb]; omega
end Go.TF
set_option linter.unusedVariables false
set_option linter.unusedSimpArgs false
namespace Go.TF
open Go Go.Abs
theorem Afc (k : Nat) (l : List Int) (p : Int) (xs : List Int) (hl : l.length≤1000) (hp : Pos p) (h1 : 1≤xs.length) (h2 : xs.length≤1000) : ∃ a q,AbS k l p xs=some (a,q)∧Pos q∧a ∈ xs:=by
 obtain ⟨a,q,e,hq,ha⟩:=AcO k l p xs.length hl hp
 have ha:=ha (by omega) (by omega)
 obtain ⟨i,rfl⟩:=Int.eq_ofNat_of_zero_le ha.1
 unfold AbS
 rw [e,Aaq,AcJ (by omega)]
 exact ⟨_,_,rfl,hq,List.getElem_mem _⟩
theorem AhP (k : Nat) (l : List Int) (p : Int) (hl : l.length≤1000) (hp : Pos p) : ∃ s q,Abz k l p=some (s,q)∧Pos q∧s.size=32:=by
 unfold Abz
 rw [AaX (by omega),Ai7]
 obtain ⟨a,q,e,hq,_⟩:=AcO k l p 4 hl hp
 obtain ⟨b,r,e2,hr,_⟩:=AcO k l q 256 hl hq
 rw [e,Aaq,e2,Aaq,AaX (by simp),AaX (by simp)]
 exact ⟨_,_,rfl,hr,by rw [AgK]; simp⟩
theorem Aqw (k : Nat) (l : List Int) (p n : Int) (hl : l.length≤1000) (hp : Pos p) : ∃ b q,AdZ k l p n=some (b,q)∧Pos q:=by
 obtain ⟨a,q,e,hq,_⟩:=AcO k l p n hl hp
 unfold AdZ
 rw [e,Aaq]
 exact ⟨_,_,rfl,hq⟩
structure AgU (s : AaI) : Prop where
 p : s.Prev.size=0
 l : s.Lst.length≤3
 q : s.Pins.length≤1
 d : ∀ x ∈ s.Pins,x.Digest.size=32
 b : s.Body.size≤5
theorem AgU.g {s : AaI} (h : AgU s) : AfH s.Prev s.Lst s.Pins s.Body :=
 ⟨by have:=h.p; omega,by have:=h.l; omega,by have:=h.q; omega,by rw [Afi _ h.d]; have:=h.q; omega,by have:=h.b; omega⟩
theorem AmY (k : Nat) (hk : 1000<k) (l : List Int) (hl : l.length≤1000) (a b c A B C : Int) (L : List Int) (p : Int) (P : List AaD) (hp : Pos p) (hL : L.length≤3) (hP : P.length≤1) (hd : ∀ x ∈ P,x.Digest.size=32) :
 ∃ s q,AaR.J3 k l a b c A B C L p P=some (s,q)∧Pos q∧AgU s:=by
 unfold AaR.J3 AaR.J1
 obtain ⟨M,q,e,hq,hM,h5⟩:=AoA k l p 5 hl hp (by omega) (by omega) (by omega)
 rw [e,Aaq]
 exact ⟨_,_,rfl,hq,rfl,hL,hP,hd,by show (ofI M).size≤5; rw [AgK]; omega⟩
theorem AmX (k : Nat) (hk : 1000<k) (l : List Int) (hl : l.length≤1000) (a b c A B C : Int) : ∀ (m n : Nat) (p : Int) (L : List Int),m<n→Pos p→L.length+m≤3 →
 ∃ s q,AaR.L2 k l a b c A B C n (m : Int) p L=some (s,q)∧Pos q∧AgU s
 | 0,n+1,p,L,hn,hp,hL=>by
  rw [AaR.L2,if_neg (by omega)]
  obtain ⟨o,q,e,hq⟩:=Aqw k l p 3 hl hp
  rw [e,Aaq]
  cases o
  ·rw [if_neg (by simp)]
   exact AmY k hk l hl a b c A B C L q [] hq (by omega) (by simp) (by simp)
  ·rw [if_pos rfl]
   obtain ⟨x1,q1,e1,hq1,_⟩:=AcO k l q 5 hl hq
   obtain ⟨x2,q2,e2,hq2,_⟩:=AcO k l q1 4 hl hq1
   obtain ⟨x3,q3,e3,hq3,h32⟩:=AhP k l q2 hl hq2
   rw [e1,Aaq,e2,Aaq,e3,Aaq]
   exact AmY k hk l hl a b c A B C L q3 _ hq3 (by omega) (by simp) (by simpa using h32)
 | m+1,n+1,p,L,hn,hp,hL=>by
  obtain ⟨x,q,e,hq,_⟩:=Afc k l p [0,5,1099511627776] hl hp (by simp) (by simp)
  rw [AaR.L2,if_pos (by omega),e,Aaq,AaX (by simp; omega),show IntKind.wrap .i64 (((m+1 : Nat) : Int)-1)=(m : Int) by rw [w64 (by omega) (by omega)]; omega]
  exact AmX k hk l hl a b c A B C m n q _ (by omega) hq (by simp; omega)
theorem AkG (k : Nat) (hk : 1000<k) (l : List Int) (hl : l.length≤1000) (p a b : Int) (hp : Pos p) : ∃ s q,AaR k l p a b=some (s,q)∧Pos q∧AgU s:=by
 have fin : ∀ (c A B C q : Int),Pos q→∃ s r,AaR.J1 k a b c A B C [] [] (ByteArray.mk #[]) q=some (s,r)∧Pos r∧AgU s:=fun c A B C q hq=>by
  unfold AaR.J1
  exact ⟨_,_,rfl,hq,rfl,by simp,by simp,by simp,by show (ByteArray.mk #[]).size≤5; decide⟩
 unfold AaR
 obtain ⟨x,q,e,hq,_⟩:=Afc k l p [1,1,1,2,10,31,1,12] hl hp (by simp) (by simp)
 rw [e,Aaq]
 by_cases h1 : x=1
 ·rw [if_pos h1]
  obtain ⟨x1,q1,e1,hq1,_⟩:=AcO k l q 5 hl hq
  obtain ⟨x2,q2,e2,hq2,_⟩:=AcO k l q1 3 hl hq1
  obtain ⟨x3,q3,e3,hq3,_⟩:=Afc k l q2 [50,5,0,200] hl hq2 (by simp) (by simp)
  rw [e1,Aaq,AkH,AaJ,e2,Aaq,e3,Aaq]
  split
  ·exact fin _ _ _ _ _ hq3
  ·exact fin _ _ _ _ _ hq3
 rw [if_neg h1]
 by_cases h2 : x=2
 ·rw [if_pos h2]
  obtain ⟨x1,q1,e1,hq1,_⟩:=AcO k l q 4 hl hq
  rw [e1,Aaq]
  exact fin _ _ _ _ _ hq1
 rw [if_neg h2]
 obtain ⟨x1,q1,e1,hq1,_⟩:=AcO k l q 9 hl hq
 obtain ⟨x2,q2,e2,hq2,_⟩:=Afc k l q1 [0,1099511627776] hl hq1 (by simp) (by simp)
 obtain ⟨x3,q3,e3,hq3,_⟩:=AcO k l q2 3 hl hq2
 obtain ⟨x4,q4,e4,hq4,h4⟩:=AcO k l q3 3 hl hq3
 have h4:=h4 (by omega) (by omega)
 obtain ⟨i,rfl⟩:=Int.eq_ofNat_of_zero_le h4.1
 rw [e1,Aaq,e2,Aaq,e3,Aaq,e4,Aaq]
 exact AmX k hk l hl _ _ _ _ _ _ i k q4 [] (by omega) hq4 (by simp; omega)
theorem Byt.app {a b : List Int} (ha : Byt a) (hb : Byt b) : Byt (a++b):=fun y hy=>by
 rcases List.mem_append.1 hy with h | h
 ·exact ha y h
 ·exact hb y h
theorem Aqq (s : ByteArray) : Byt (bI s):=fun y hy=>by
 unfold bI at hy
 obtain ⟨x,_,rfl⟩:=List.mem_map.1 hy
 have:=x.toNat_lt
 omega
theorem AjC {α : Type} (f : α→List Int) (h : ∀ a,Byt (f a)) (l : List α) : Byt (l.flatMap f):=fun y hy=>by
 obtain ⟨a,_,hy⟩:=List.mem_flatMap.1 hy
 exact h a y hy
theorem AhF (s : ByteArray) : Byt (Agc s):=(Aht _ 8).app (Aqq s)
theorem Anw (s : AaI) (h : AgU s) (hd : s.Seal_Digest.size=32) : Byt (Aly s.Author s.Number s.Prev s.Time s.Kind s.A s.B s.C s.Lst s.Pins s.Body s.Seal_Key s.Seal_Digest).1∧(Aly s.Author s.Number s.Prev s.Time s.Kind s.A s.B s.C s.Lst s.Pins s.Body s.Seal_Key s.Seal_Digest).1.length≤4000:=by
 have h1:=h.p; have h2:=h.l; have h3:=h.q; have h5:=h.b
 unfold Aly
 split
 ·exact ⟨fun y hy=>(by cases hy),by simp⟩
 split
 ·exact ⟨fun y hy=>(by cases hy),by simp⟩
 refine ⟨?_,?_⟩
 ·unfold AeW
  have e:=fun v=>Aht v 8
  exact (((((((((((e _).app (e _)).app (AhF _)).app (AjC _ e _)).app (e _)).app (AjC _ e _)).app (e _)).app (AjC _ (fun p=>((e _).app (e _)).app (AhF _)) _)).app (AhF _)).app (e _)).app (AhF _))
 ·simp only [AeW,List.length_append,Aa3,AhE,AeM,Afi _ h.d,List.length_cons,List.length_nil]
  omega
theorem As4 (a b : Int) : 0≤AaK .xor .u8 a b∧AaK .xor .u8 a b<256:=by
 simp only [AaK,AhQ]
 omega
theorem Aoo (k : Nat) (hk : 3000000<k) (aw : AcX k=some true) (s : AaI) (hs : AgU s) (hd : s.Seal_Digest.size=32) (a1 a2 : Int) (a3 : ByteArray) (a4 a5 a6 a7 a8 : Int) (a9 : List Int) (a10 : List AaD) (a11 : ByteArray) (a12 : Int) (a13 : ByteArray)
 (h : AfH a3 a9 a10 a11) (h13 : a13.size≤100) (E : List Int) (hE : Byt E) (hl : E.length≤5000) : AaL.J2 k s a1 a2 a3 a4 a5 a6 a7 a8 a9 a10 a11 a12 a13 E=some true:=by
 have hc : ∀ (b1 b2 : Int) (b3 : ByteArray) (b4 b5 b6 b7 b8 : Int) (b9 : List Int) (b10 : List AaD) (b11 : ByteArray) (b12 : Int) (b13 : ByteArray),AfH b3 b9 b10 b11→Acj k b1 b2 b3 b4 b5 b6 b7 b8 b9 b10 b11 b12 b13=some ⟨b1,b2,b3,b4,b5,b6,b7,b8,b9,b10,b11,b1,Ami b1 b2 b3 b4 b5 b6 b7 b8 b9 b10 b11⟩:=fun b1 b2 b3 b4 b5 b6 b7 b8 b9 b10 b11 b12 b13 hg=>by
  have h1:=hg.l
  have h2:=hg.q
  unfold Acj Acm
  rw [AaX (by omega),AaX (by omega),AaJ,Afe k hk _ _ _ _ _ _ _ _ _ _ _ _ _ hg,AaJ]
 unfold AaL.J2
 rw [aw,AaJ,if_pos rfl,Ago k hk _ _ _ _ _ _ _ _ _ _ _ _ _ _ _ _ _ _ _ _ _ _ _ _ _ _ hs.g (by omega),AaJ,if_pos rfl,Ago k hk _ _ _ _ _ _ _ _ _ _ _ _ _ _ _ _ _ _ _ _ _ _ _ _ _ _ h h13,AaJ,if_pos rfl,hc _ _ _ _ _ _ _ _ _ _ _ _ _ h,AaJ]
 dsimp only
 rw [Ago k hk a1 a2 a3 a4 a5 a6 a7 a8 a9 a10 a11 a1 _ _ _ _ _ _ _ _ _ _ _ _ _ _ h (show (Ami a1 a2 a3 a4 a5 a6 a7 a8 a9 a10 a11).size≤100 from AlO _),AaJ,if_pos rfl,AgG k hk E hE hl,AaJ]
theorem Ake (k : Nat) (hk : 3000000<k) (aw : AcX k=some true) (v1 v2 : Int) (s : AaI) (hs : AgU s) (hd : s.Seal_Digest.size=32) (a1 a2 : Int) (a3 : ByteArray) (a4 a5 a6 a7 a8 : Int) (a9 : List Int) (a10 : List AaD) (a11 : ByteArray) (a12 : Int) (a13 : ByteArray)
 (h : AfH a3 a9 a10 a11) (h13 : a13.size≤100) : AaL.J1 k v1 v2 s a1 a2 a3 a4 a5 a6 a7 a8 a9 a10 a11 a12 a13=some true:=by
 obtain ⟨hb,hl⟩:=Anw s hs hd
 unfold AaL.J1
 rw [AgX k hk _ _ _ _ _ _ _ _ _ _ _ _ _ hs.g (by omega)]
 generalize Aly s.Author s.Number s.Prev s.Time s.Kind s.A s.B s.C s.Lst s.Pins s.Body s.Seal_Key s.Seal_Digest=E at hb hl
 obtain ⟨E,e⟩:=E
 simp only at hb hl
 rw [Aaq]
 have J:=Aoo k hk aw s hs hd a1 a2 a3 a4 a5 a6 a7 a8 a9 a10 a11 a12 a13 h h13 E hb (by omega)
 by_cases h0 : 0<(E.length : Int)
 case neg=>rw [if_neg h0,J]
 have hm:=AiS v1 E.length (by omega) (by omega)
 obtain ⟨i,hi⟩:=Int.eq_ofNat_of_zero_le hm.1
 rw [if_pos h0,AaX (by omega),AkH,AaJ,hi,AaX (by omega),AcJ (by omega),AaX (by omega),Int.toNat_natCast,AgG k hk (E.set i _) (fun y hy=>by
  rcases List.mem_or_eq_of_mem_set hy with h | rfl
  ·exact hb y h
  ·exact As4 _ _) (by rw [List.length_set]; omega),AaJ,if_neg (by simp),AaJ,AaX (by omega),Int.toNat_natCast,AgG k hk _ (hb.take i) (by simp; omega),AaJ,if_neg (by simp),AaX (by simp; omega),
  AgG k hk _ (hb.app fun y hy=>by
   obtain rfl:=List.mem_singleton.1 hy
   rw [AhQ]; omega) (by simp; omega),AaJ,if_neg (by simp),J]
theorem AmW (k : Nat) (hk : 3000000<k) (aw : AcX k=some true) (v1 v2 : Int) (s : AaI) (hs : AgU s) (hd : s.Seal_Digest.size=32) (o : AaI) (ho : AgU o) (h13 : o.Seal_Digest.size≤100) : ∀ (m n : Nat) (L : List Int),m<n→L.length+m≤100 →
 AaL.L3 k v1 v2 s o n (m : Int) L=some true
 | 0,n+1,L,hn,hL=>by
  rw [AaL.L3,if_neg (by omega)]
  have hg:=ho.g
  exact Ake k hk aw v1 v2 s hs hd _ _ _ _ _ _ _ _ _ _ _ _ _ ⟨hg.p,by omega,hg.q,hg.d,hg.b⟩ h13
 | m+1,n+1,L,hn,hL=>by
  rw [AaL.L3,if_pos (by omega),AaX (by simp; omega),show IntKind.wrap .i64 (((m+1 : Nat) : Int)-1)=(m : Int) by rw [w64 (by omega) (by omega)]; omega]
  exact AmW k hk aw v1 v2 s hs hd o ho h13 m n _ (by omega) (by simp; omega)
theorem AmV (k : Nat) (hk : 3000000<k) (aw : AcX k=some true) (v1 v2 : Int) (l : List Int) (hl : l.length≤1000) (s : AaI) (hs : AgU s) (hd : s.Seal_Digest.size=32) (o : AaI) (ho : AgU o) (h13 : o.Seal_Digest.size≤100) :
 ∀ (m i n : Nat) (p : Int) (P : List AaD),i+m=65→m<n→Pos p→P.length≤1+i→(∀ x ∈ P,x.Digest.size=32)→AaL.L4 k v1 v2 l s o n (i : Int) p P=some true
 | m,i,n+1,p,P,h,hn,hp,hP,h32=>by
  obtain ⟨a,q,e,hq,ha⟩:=AcO k l p 2 hl hp
  have ha:=ha (by omega) (by omega)
  have hg:=ho.g
  rw [AaL.L4,e,Aaq,w64 (by omega) (by omega)]
  by_cases hi : (i : Int)<64+a
  ·rw [if_pos hi]
   obtain ⟨d,r,e2,hr,hd32⟩:=AhP k l q hl hq
   rw [e2,Aaq,AaX (by simp; omega),AeS i (by omega)]
   match m,h,hn with
   | 0,h,hn=>omega
   | m+1,h,hn =>
    exact AmV k hk aw v1 v2 l hl s hs hd o ho h13 m (i+1) n r _ (by omega) (by omega) hr (by simp; omega) (fun x hx=>by
     rcases List.mem_append.1 hx with h | h
     ·exact h32 x h
     ·obtain rfl:=List.mem_singleton.1 h
      exact hd32)
  ·rw [if_neg hi]
   exact Ake k hk aw v1 v2 s hs hd _ _ _ _ _ _ _ _ _ _ _ _ _ ⟨hg.p,hg.l,by omega,by rw [Afi _ h32]; omega,hg.b⟩ h13
theorem Agz (b : ByteArray) (i j : Nat) : (b.extract i j).size≤b.size:=by
 rw [ByteArray.size_extract]; omega
theorem AhD (v0 : List Int) (v1 v2 : Int) (h0 : Fit (.lst false false (v0.map (.int .i64)))) (h1 : Fit (.int .i64 v1)) (h2 : Fit (.int .i64 v2)) : ∃ k,AaL k v0 v1 v2=some true:=by
 obtain ⟨k,hk⟩ : ∃ k,k=10000000:=⟨_,rfl⟩
 refine ⟨k,?_⟩
 have aw : AcX k=some true:=by rw [hk]; exact ApG
 have hk3 : 3000000<k:=by omega
 clear hk
 unfold AaL
 rw [An6,AaJ]
 by_cases hb : (v0.length : Int)≤400
 case neg=>rw [if_pos (by simp [hb]),aw]; rfl
 have hl : v0.length≤1000:=by omega
 rw [if_neg (by simp [hb]),ApL,Aaq]
 obtain ⟨x1,q1,e1,p1,_⟩:=AcO k v0 0 5 hl ⟨by omega,by omega⟩
 obtain ⟨x2,q2,e2,p2,_⟩:=AcO k v0 q1 100 hl p1
 obtain ⟨t,q3,e3,p3,ht⟩:=AkG k (by omega) v0 hl q2 x1 x2 p2
 obtain ⟨c,q4,e4,p4,_⟩:=AcO k v0 q3 14 hl p3
 have hg:=ht.g
 have gl:=hg.l
 have gq:=hg.q
 have s1 : Acj k t.Author t.Number t.Prev t.Time t.Kind t.A t.B t.C t.Lst t.Pins t.Body t.Seal_Key t.Seal_Digest=some ⟨t.Author,t.Number,t.Prev,t.Time,t.Kind,t.A,t.B,t.C,t.Lst,t.Pins,t.Body,t.Author,Ami t.Author t.Number t.Prev t.Time t.Kind t.A t.B t.C t.Lst t.Pins t.Body⟩:=by
  unfold Acj Acm
  rw [AaX (by omega),AaX (by omega),AaJ,Afe k hk3 _ _ _ _ _ _ _ _ _ _ _ _ _ hg,AaJ]
 rw [e1,Aaq,e2,Aaq,e3,Aaq,s1,AaJ]
 generalize hS : (⟨t.Author,t.Number,t.Prev,t.Time,t.Kind,t.A,t.B,t.C,t.Lst,t.Pins,t.Body,t.Author,Ami t.Author t.Number t.Prev t.Time t.Kind t.A t.B t.C t.Lst t.Pins t.Body⟩ : AaI)=S
 have hs : AgU S:=by subst hS; exact ⟨ht.p,ht.l,ht.q,ht.d,ht.b⟩
 have hd : S.Seal_Digest.size=32:=by subst hS; exact Ajb _
 clear hS s1
 have c1 : Acm k S.Author S.Number S.Prev S.Time S.Kind S.A S.B S.C S.Lst S.Pins S.Body S.Seal_Key S.Seal_Digest=some S:=by
  have:=hs.l
  have:=hs.q
  unfold Acm
  rw [AaX (by omega),AaX (by omega)]
 rw [c1,AaJ,e4,Aaq]
 have g:=hs.g
 have F : ∀ (a1 a2 : Int) (a3 : ByteArray) (a4 a5 a6 a7 a8 : Int) (a9 : List Int) (a10 : List AaD) (a11 : ByteArray) (a12 : Int) (a13 : ByteArray),AfH a3 a9 a10 a11→a13.size≤100→AaL.J1 k v1 v2 S a1 a2 a3 a4 a5 a6 a7 a8 a9 a10 a11 a12 a13=some true :=
  fun a1 a2 a3 a4 a5 a6 a7 a8 a9 a10 a11 a12 a13 h h13=>Ake k hk3 aw v1 v2 S hs hd a1 a2 a3 a4 a5 a6 a7 a8 a9 a10 a11 a12 a13 h h13
 have h13 : S.Seal_Digest.size≤100:=by omega
 have hSl:=hs.l
 have hSq:=hs.q
 have hSb:=hs.b
 by_cases z0 : c=0
 ·rw [if_pos z0]; exact F _ _ _ _ _ _ _ _ _ _ _ _ _ g h13
 rw [if_neg z0]
 by_cases z1 : c=1
 ·rw [if_pos z1]
  obtain ⟨x,q,e,_,_⟩:=Afc k v0 q4 [1,199,200,-1] hl p4 (by simp) (by simp)
  rw [e,Aaq]; exact F _ _ _ _ _ _ _ _ _ _ _ _ _ g h13
 rw [if_neg z1]
 by_cases z2 : c=2
 ·rw [if_pos z2]
  obtain ⟨x,q,e,_,h32⟩:=AhP k v0 q4 hl p4
  rw [e,Aaq]; exact F _ _ _ _ _ _ _ _ _ _ _ _ _ ⟨by omega,g.l,g.q,g.d,g.b⟩ h13
 rw [if_neg z2]
 by_cases z3 : c=3
 ·rw [if_pos z3]
  obtain ⟨x,q,e,_,_⟩:=Afc k v0 q4 [v2,2147483648,2147483649] hl p4 (by simp) (by simp)
  rw [e,Aaq]; exact F _ _ _ _ _ _ _ _ _ _ _ _ _ g h13
 rw [if_neg z3]
 by_cases z4 : c=4
 ·rw [if_pos z4,AkH,AaJ]; exact F _ _ _ _ _ _ _ _ _ _ _ _ _ g h13
 rw [if_neg z4]
 by_cases z5 : c=5
 ·rw [if_pos z5]
  obtain ⟨x,q,e,_,_⟩:=Afc k v0 q4 [v2,63,64,S.Author] hl p4 (by simp) (by simp)
  rw [e,Aaq]; exact F _ _ _ _ _ _ _ _ _ _ _ _ _ g h13
 rw [if_neg z5]
 by_cases z6 : c=6
 ·rw [if_pos z6]
  obtain ⟨x,q,e,_,_⟩:=Afc k v0 q4 [0,3,4,v2] hl p4 (by simp) (by simp)
  rw [e,Aaq]; exact F _ _ _ _ _ _ _ _ _ _ _ _ _ g h13
 rw [if_neg z6]
 by_cases z7 : c=7
 ·rw [if_pos z7]
  obtain ⟨x,q,e,_,_⟩:=Afc k v0 q4 [v2,S.Time,IntKind.wrap .i64 (S.Time-1),2147483648,1099511627776] hl p4 (by simp) (by simp)
  rw [e,Aaq]; exact F _ _ _ _ _ _ _ _ _ _ _ _ _ g h13
 rw [if_neg z7]
 by_cases z8 : c=8
 ·rw [if_pos z8]
  obtain ⟨x,q,e,_,hx⟩:=AcO k v0 q4 2 hl p4
  have hx:=hx (by omega) (by omega)
  obtain ⟨i,rfl⟩:=Int.eq_ofNat_of_zero_le hx.1
  rw [e,Aaq,w64 (by omega) (by omega),show (64+(i : Int))=((64+i : Nat) : Int) by omega]
  exact AmW k hk3 aw v1 v2 S hs hd S hs h13 (64+i) k S.Lst (by omega) (by omega)
 rw [if_neg z8]
 by_cases z9 : c=9
 ·rw [if_pos z9,AaX (by simp; omega)]
  exact F _ _ _ _ _ _ _ _ _ _ _ _ _ ⟨g.p,by simp; omega,g.q,g.d,g.b⟩ h13
 rw [if_neg z9]
 by_cases z10 : c=10
 ·rw [if_pos z10]
  exact AmV k hk3 aw v1 v2 v0 hl S hs hd S hs h13 65 0 k q4 S.Pins (by omega) (by omega) p4 (by omega) hs.d
 rw [if_neg z10]
 by_cases z11 : c=11
 ·rw [if_pos z11]
  obtain ⟨x,q,e,hq,_⟩:=AcO k v0 q4 3 hl p4
  obtain ⟨y,r,f,hr,_⟩:=Afc k v0 q [1,0,200,201] hl hq (by simp) (by simp)
  obtain ⟨d,u,e',hu,h32⟩:=AhP k v0 r hl hr
  obtain ⟨w,u',f',_,hw⟩:=AcO k v0 u 2 hl hu
  have hw:=hw (by omega) (by omega)
  have hx:=Agz d w.toNat d.size
  rw [e,Aaq,f,Aaq,e',Aaq,f',Aaq,AaX (by omega),AaX (by simp; omega)]
  refine F _ _ _ _ _ _ _ _ _ _ _ _ _ ⟨g.p,g.l,by simp; omega,?_,g.b⟩ h13
  rw [List.flatMap_append,List.length_append,Afi _ hs.d,List.flatMap_cons,List.flatMap_nil,List.append_nil,Ahf]
  show 56*S.Pins.length+(24+(d.extract w.toNat d.size).size)≤2000000
  omega
 rw [if_neg z11]
 by_cases z12 : c=12
 ·rw [if_pos z12]
  obtain ⟨x,q,e,_,hx⟩:=Afc k v0 q4 [1,4096,4097] hl p4 (by simp) (by simp)
  have hx : 0≤x∧x≤4097:=by simp at hx; omega
  have e5 : (ofI (List.replicate x.toNat (0 : Int))).size=x.toNat:=by rw [AgK,List.length_replicate]
  rw [e,Aaq,AaX (by omega),AaX (by omega)]
  exact F _ _ _ _ _ _ _ _ _ _ _ _ _ ⟨g.p,g.l,g.q,g.d,by rw [ByteArray.size_append]; omega⟩ h13
 rw [if_neg z12,AkH,AaJ]
 obtain ⟨w,u',f',_,hw⟩:=AcO k v0 q4 2 hl p4
 have hw:=hw (by omega) (by omega)
 have hx:=Agz S.Seal_Digest w.toNat S.Seal_Digest.size
 rw [f',Aaq,AaX (by omega)]
 exact F _ _ _ _ _ _ _ _ _ _ _ _ _ g (by omega)
end Go.TF
