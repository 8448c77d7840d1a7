import Derived.Test.YtelffnegemdicaaMdtLay28
set_option linter.unusedVariables false
set_option linter.unusedSimpArgs false
namespace Go.Abs
def Ads (m : List (Int×List Int)) : List (AV×AV):=(m.take 1000).zipIdx.map fun p=>(AV.int .i64 p.1.1,AV.slc (1000+p.2) 0 1 p.1.2.length false)
def fam (m : List (Int×List Int)) : List (Nat×Aah):=(m.take 1000).zipIdx.map fun p=>(1000+p.2,Aah.grow (p.1.2.map (AV.int .i64)))
def fnm (m : List (Int×List Int)) (y : Int) : Nat:=1000+(mgI m y).getD m.length
def AgB (H : Aai) (m : List (Int×List Int)) : Prop:=∀ p ∈ fam m,H p.1=some p.2
def Aew (H : Aai) (m : List (Int×List Int)) (y : Int) : Prop:=∀ j (h : j<m.length),j<1000→1000+j≠fnm m y→H (1000+j)=some (.grow (m[j].2.map (AV.int .i64)))
theorem AeU {m : List (Int×List Int)} {p : Nat×Aah} : p ∈ fam m↔∃ j,∃ h : j<m.length,j<1000∧p=(1000+j,.grow (m[j].2.map (AV.int .i64))):=by
 unfold fam
 rw [List.mem_map]
 constructor
 ·rintro ⟨⟨q,j⟩,hq,rfl⟩
  rw [List.mem_zipIdx_iff_getElem?,List.getElem?_take] at hq
  split at hq
  ·obtain ⟨h,e⟩:=List.getElem?_eq_some_iff.1 hq
   exact ⟨j,h,by assumption,by rw [e]⟩
  ·cases hq
 ·rintro ⟨j,h,hj,rfl⟩
  refine ⟨(m[j],j),?_,rfl⟩
  rw [List.mem_zipIdx_iff_getElem?,List.getElem?_take,if_pos hj,List.getElem?_eq_getElem h]
theorem AfO {H : Aai} {m : List (Int×List Int)} : AgB H m↔∀ j (h : j<m.length),j<1000→H (1000+j)=some (.grow (m[j].2.map (AV.int .i64))):=by
 unfold AgB
 constructor
 ·intro h j hj h1; exact h _ (AeU.2 ⟨j,hj,h1,rfl⟩)
 ·intro h p hp; obtain ⟨j,hj,h1,rfl⟩:=AeU.1 hp; exact h j hj h1
theorem AgB.but {H : Aai} {m : List (Int×List Int)} (h : AgB H m) (y : Int) : Aew H m y:=fun j hj h1 _=>AfO.1 h j hj h1
@[simp↓] theorem AuR {H : Aai} {m : List (Int×List Int)} : (∀ p ∈ fam m,H p.1=some p.2)↔AgB H m:=Iff.rfl
@[simp↓] theorem Apx {H : Aai} {a : Nat×Aah} {l : List (Nat×Aah)} : (∀ p ∈ a::l,H p.1=some p.2)↔H a.1=some a.2∧∀ p ∈ l,H p.1=some p.2:=List.forall_mem_cons
theorem AiB {H H' : Aai} {m : List (Int×List Int)} (e : ∀ j,j<1000→H (1000+j)=H' (1000+j)) : AgB H m↔AgB H' m:=by
 rw [AfO,AfO]
 constructor <;> intro h j hj h1
 ·rw [← e j h1]; exact h j hj h1
 ·rw [e j h1]; exact h j hj h1
theorem AfP {H H' : Aai} {m : List (Int×List Int)} {y : Int} (e : ∀ j,j<1000→j<m.length→1000+j≠fnm m y→H (1000+j)=H' (1000+j)) : Aew H m y↔Aew H' m y:=by
 constructor <;> intro h j hj h1 h2
 ·rw [← e j h1 hj h2]; exact h j hj h1 h2
 ·rw [e j h1 hj h2]; exact h j hj h1 h2
@[simp] theorem Asi {H : Aai} {m : List (Int×List Int)} {k : Nat} {v : Option Aah} (h : (decide (k<1000)||decide (2000≤k))=true) : AgB (upd H k v) m↔AgB H m:=by
 simp only [Bool.or_eq_true,decide_eq_true_eq] at h
 exact AiB fun j hj=>AbW _ _ (by omega)
@[simp] theorem ArZ {m : List (Int×List Int)} {k : Nat} {v : Aah} {l : List (Nat×Aah)} (h : (decide (k<1000)||decide (2000≤k))=true) : AgB (mkH ((k,v)::l)) m↔AgB (mkH l) m:=by
 simp only [Bool.or_eq_true,decide_eq_true_eq] at h
 exact AiB fun j hj=>by rw [Aep,if_neg (by omega)]
@[simp] theorem Asj (H : Aai) : AgB H []↔True:=iff_true_intro fun p hp=>by cases hp
theorem Anc {m : List (Int×List Int)} {j : Nat} (h : j<m.length) (hj : j<1000) : mkH (fam m) (1000+j)=some (.grow (m[j].2.map (AV.int .i64))):=by
 cases e : mkH (fam m) (1000+j) with
 | none=>exact absurd (AeU.2 ⟨j,h,hj,rfl⟩) (AjV e _)
 | some x =>
  obtain ⟨i,hi,h1,q⟩:=AeU.1 (AeK e)
  simp only [Prod.mk.injEq] at q
  have : j=i:=by omega
  subst this; rw [q.2]
@[simp] theorem Amp (m : List (Int×List Int)) : AgB (mkH (fam m)) m↔True:=iff_true_intro (AfO.2 fun j h hj=>Anc h hj)
@[simp] theorem Ara {H : Aai} {m : List (Int×List Int)} {y : Int} {k : Nat} {v : Option Aah} (h : (decide (k<1000)||decide (2000≤k))=true) : Aew (upd H k v) m y↔Aew H m y:=by
 simp only [Bool.or_eq_true,decide_eq_true_eq] at h
 exact AfP fun j hj _ _=>AbW _ _ (by omega)
@[simp] theorem Arb {H : Aai} {m : List (Int×List Int)} {y : Int} {v : Option Aah} : Aew (upd H (fnm m y) v) m y↔Aew H m y:=AfP fun j hj _ h=>AbW _ _ h
@[simp] theorem Aqt {m : List (Int×List Int)} {y : Int} {k : Nat} {v : Aah} {l : List (Nat×Aah)} (h : (decide (k<1000)||decide (2000≤k))=true) : Aew (mkH ((k,v)::l)) m y↔Aew (mkH l) m y:=by
 simp only [Bool.or_eq_true,decide_eq_true_eq] at h
 exact AfP fun j hj _ _=>by rw [Aep,if_neg (by omega)]
@[simp] theorem Aqs (m : List (Int×List Int)) (y : Int) : Aew (mkH (fam m)) m y↔True:=iff_true_intro (((Amp m).2 trivial).but y)
@[simp] theorem Au8 {m : List (Int×List Int)} {y : Int} {k : Nat} (h : decide (k<1000)=true) : (fnm m y=k)↔False:=by
 rw [decide_eq_true_eq] at h; unfold fnm; constructor <;> intro q <;> first | omega | exact q.elim
@[simp] theorem AuO {m : List (Int×List Int)} {y : Int} {k : Nat} (h : decide (k<1000)=true) : (k=fnm m y)↔False:=by
 rw [decide_eq_true_eq] at h; unfold fnm; constructor <;> intro q <;> first | omega | exact q.elim
theorem AmE {m : List (Int×List Int)} {y : Int} (h : m.length<1000) : fnm m y<2000:=by
 unfold fnm
 cases e : mgI m y with
 | none=>simp; omega
 | some j =>
  obtain ⟨h1,_⟩:=List.findIdx?_eq_some_iff_getElem.1 e
  simp; omega
@[simp] theorem Au9 {m : List (Int×List Int)} {y : Int} {k : Nat} (h : m.length<1000) (hk : decide (2000≤k)=true) : (fnm m y=k)↔False:=by
 rw [decide_eq_true_eq] at hk; have:=AmE (y:=y) h; constructor <;> intro q <;> first | omega | exact q.elim
@[simp] theorem AuP {m : List (Int×List Int)} {y : Int} {k : Nat} (h : m.length<1000) (hk : decide (2000≤k)=true) : (k=fnm m y)↔False:=by
 rw [decide_eq_true_eq] at hk; have:=AmE (y:=y) h; constructor <;> intro q <;> first | omega | exact q.elim
@[simp] theorem Atc : Ads [] = []:=rfl
@[simp] theorem AuQ : fam [] = []:=rfl
@[simp↓] theorem Atd (m : List (Int×List Int)) : ((Ads m).all fun p=>(Abo.int .i64).has p.1)=true:=by
 rw [List.all_eq_true]; unfold Ads; intro p hp; obtain ⟨q,_,rfl⟩:=List.mem_map.1 hp; simp
theorem Aga {m : List (Int×List Int)} (h : m.length≤1000) : (Ads m).length=m.length:=by simp [Ads]; omega
theorem famM_get? {m : List (Int×List Int)} (h : m.length≤1000) (j : Nat) : (Ads m)[j]? = m[j]?.map fun p=>(AV.int .i64 p.1,AV.slc (1000+j) 0 1 p.2.length false):=by
 unfold Ads
 rw [List.take_of_length_le h,List.getElem?_map,List.getElem?_zipIdx]
 cases m[j]? <;> simp
theorem Aih {m : List (Int×List Int)} (h : m.length≤1000) (y : Int) : AgT (Ads m) (.int .i64 y)=mgI m y:=by
 unfold AgT mgI
 have e : (fun (p : Int×List Int)=>y==p.1)=(fun (p : AV×AV)=>AjG (.int .i64 y) p.1) ∘ fun (p : Int×List Int)=>(AV.int .i64 p.1,AV.undef):=by
  funext p; simp [AjG]
 have e2 : (Ads m).map Prod.fst=(m.map fun p=>(AV.int .i64 p.1,AV.undef)).map Prod.fst:=by
  refine List.ext_getElem? fun j=>?_
  rw [List.getElem?_map,List.getElem?_map,List.getElem?_map,famM_get? h]
  cases m[j]? <;> rfl
 have e3 : ∀ l : List (AV×AV),l.findIdx? (fun p=>AjG (.int .i64 y) p.1)=(l.map Prod.fst).findIdx? (fun p=>AjG (.int .i64 y) p):=fun l=>by rw [List.findIdx?_map]; rfl
 rw [e3,e2,← e3,List.findIdx?_map,e]
theorem Aii {m : List (Int×List Int)} (h : m.length≤1000) (y : Int) : Af2 (Ads m) (.int .i64 y)=(AcI m y).map fun xs=>AV.slc (fnm m y) 0 1 xs.length false:=by
 unfold Af2 AcI fnm
 rw [Aih h]
 cases e : mgI m y with
 | none=>rfl
 | some j =>
  simp only [Option.bind_some,Option.getD_some,famM_get? h]
  cases m[j]? <;> rfl
theorem Alc {m : List (Int×List Int)} (h : m.length<1000) {y : Int} (e : AcI m y=none) : Af2 (Ads m) (.int .i64 y)=none:=by rw [Aii (by omega),e]; rfl
theorem Alb {m : List (Int×List Int)} (h : m.length<1000) {y : Int} {xs : List Int} (e : AcI m y=some xs) : Af2 (Ads m) (.int .i64 y)=some (AV.slc (fnm m y) 0 1 xs.length false):=by rw [Aii (by omega),e]; rfl
theorem Ao1 {m : List (Int×List Int)} {y : Int} {xs : List Int} (e : AcI m y=some xs) : ∃ j,∃ h : j<m.length,mgI m y=some j∧m[j].2=xs:=by
 unfold AcI at e
 cases q : mgI m y with
 | none=>rw [q] at e; cases e
 | some j =>
  rw [q] at e
  obtain ⟨h1,_⟩:=List.findIdx?_eq_some_iff_getElem.1 q
  rw [Option.bind_some,List.getElem?_eq_getElem h1] at e
  exact ⟨j,h1,rfl,Option.some.inj e⟩
theorem Aqd {m : List (Int×List Int)} (h : m.length<1000) {y : Int} {xs : List Int} (e : AcI m y=some xs) : mkH (fam m) (fnm m y)=some (.grow (xs.map (AV.int .i64))):=by
 obtain ⟨j,hj,e1,rfl⟩:=Ao1 e
 unfold fnm; rw [e1]; exact Anc hj (by omega)
theorem mput_get? (m : List (Int×List Int)) (y : Int) (xs : List Int) (i : Nat) : (AbE m y xs)[i]? = if 1000+i=fnm m y then some (y,xs) else m[i]?:=by
 unfold AbE fnm
 cases e : mgI m y with
 | none =>
  simp only [Option.getD_none]
  by_cases q : i<m.length
  ·rw [List.getElem?_append_left q,if_neg (by omega)]
  ·rw [List.getElem?_append_right (by omega)]
   by_cases q2 : i=m.length
   ·subst q2; rw [if_pos rfl]; simp
   ·rw [if_neg (by omega),List.getElem?_eq_none (by simp; omega),List.getElem?_eq_none (by omega)]
 | some k =>
  obtain ⟨h1,_⟩:=List.findIdx?_eq_some_iff_getElem.1 e
  simp only [Option.getD_some]
  by_cases q : k=i
  ·subst q; rw [if_pos rfl,List.getElem?_set_self h1]
  ·rw [if_neg (by omega),List.getElem?_set_ne q]
theorem Aqb {m : List (Int×List Int)} {y : Int} {xs : List Int} {j : Nat} (h : j<(AbE m y xs).length) : (1000+j=fnm m y∧(AbE m y xs)[j]=(y,xs))∨(1000+j≠fnm m y∧∃ h' : j<m.length,(AbE m y xs)[j]=m[j]):=by
 have:=mput_get? m y xs j
 rw [List.getElem?_eq_getElem h] at this
 by_cases q : 1000+j=fnm m y
 ·rw [if_pos q] at this; exact .inl ⟨q,Option.some.inj this⟩
 ·rw [if_neg q] at this
  obtain ⟨h',e⟩:=List.getElem?_eq_some_iff.1 this.symm
  exact .inr ⟨q,h',e.symm⟩
theorem Aoz {m : List (Int×List Int)} {y : Int} {xs : List Int} (h : m.length<1000) : (AbE m y xs).length≤1000:=by
 unfold AbE; split <;> simp <;> omega
theorem ApG {m : List (Int×List Int)} (h : m.length<1000) (y : Int) (xs : List Int) (K : Nat) : Ack (Ads m) (.int .i64 y) (.slc K 0 1 xs.length false)=(Ads (AbE m y xs)).map fun p=>(p.1,match p.2 with | .slc i a b c d => .slc (if i=fnm m y then K else i) a b c d | x=>x):=by
 have h1:=Aoz (y:=y) (xs:=xs) h
 refine List.ext_getElem? fun j=>?_
 rw [List.getElem?_map,famM_get? h1]
 unfold Ack
 rw [Aih (by omega)]
 rw [mput_get?]
 unfold fnm
 cases e : mgI m y with
 | none =>
  simp only [Option.getD_none]
  by_cases q : j<m.length
  ·rw [List.getElem?_append_left (by rw [Aga (by omega)]; exact q),famM_get? (by omega),if_neg (by omega),List.getElem?_eq_getElem q]
   simp only [Option.map_some]; rw [if_neg (by omega)]
  ·rw [List.getElem?_append_right (by rw [Aga (by omega)]; omega),Aga (by omega)]
   by_cases q2 : j=m.length
   ·subst q2; rw [if_pos rfl]; simp
   ·rw [if_neg (by omega),List.getElem?_eq_none (by simp; omega),List.getElem?_eq_none (by omega)]; rfl
 | some i =>
  obtain ⟨h2,_⟩:=List.findIdx?_eq_some_iff_getElem.1 e
  simp only [Option.getD_some]
  by_cases q : i=j
  ·subst q; rw [if_pos rfl,List.getElem?_set_self (by rw [Aga (by omega)]; exact h2)]; simp
  ·rw [if_neg (by omega),List.getElem?_set_ne q,famM_get? (by omega)]
   cases m[j]? with
   | none=>rfl
   | some p=>simp only [Option.map_some]; rw [if_neg (by omega)]
mutual
theorem Afr {S S' : Nat→Prop} {σ σ' : Nat→Nat} (h1 : ∀ i,S i→S' i) (h2 : ∀ i,S i→σ i=σ' i) : ∀ x : AV,gd S x→gd S' x∧ren σ x=ren σ' x
 | .ptr id off,h=>⟨h1 _ h,by simp only [ren]; rw [h2 _ h]⟩
 | .slc id off es len f,h=>⟨h1 _ h,by simp only [ren]; rw [h2 _ h]⟩
 | .map id,h=>⟨h1 _ h,by simp only [ren]; rw [h2 _ h]⟩
 | .agg cs,h=>by have:=Ag3 h1 h2 cs h; exact ⟨this.1,by simp only [ren]; rw [this.2]⟩
 | .tup cs,h=>by have:=Ag3 h1 h2 cs h; exact ⟨this.1,by simp only [ren]; rw [this.2]⟩
 | .fn f cs,h=>by have:=Ag3 h1 h2 cs h; exact ⟨this.1,by simp only [ren]; rw [this.2]⟩
 | .ifc t x,h=>by have:=Afr h1 h2 x h; exact ⟨this.1,by simp only [ren]; rw [this.2]⟩
 | .nn x,h=>by have:=Afr h1 h2 x h; exact ⟨this.1,by simp only [ren]; rw [this.2]⟩
 | .rm x,h=>by have:=Afr h1 h2 x h; exact ⟨this.1,by simp only [ren]; rw [this.2]⟩
 | .undef,h=>⟨h,rfl⟩
 | .skip,h=>⟨h,rfl⟩
 | .bool _,h=>⟨h,rfl⟩
 | .int _ _,h=>⟨h,rfl⟩
 | .str _,h=>⟨h,rfl⟩
 | .lst _ _ _,h=>⟨h,rfl⟩
 | .cptr _,h=>⟨h,rfl⟩
 | .nilptr,h=>⟨h,rfl⟩
 | .nilfn,h=>⟨h,rfl⟩
 | .nilmap,h=>⟨h,rfl⟩
 | .nilifc,h=>⟨h,rfl⟩
theorem Ag3 {S S' : Nat→Prop} {σ σ' : Nat→Nat} (h1 : ∀ i,S i→S' i) (h2 : ∀ i,S i→σ i=σ' i) : ∀ xs : List AV,gdL S xs→gdL S' xs∧Ad5 σ xs=Ad5 σ' xs
 | [],_=>⟨trivial,rfl⟩
 | x::xs,h=>by
  have a:=Afr h1 h2 x h.1
  have b:=Ag3 h1 h2 xs h.2
  exact ⟨⟨a.1,b.1⟩,by simp only [Ad5]; rw [a.2,b.2]⟩
end
theorem Anl {S S' : Nat→Prop} {σ σ' : Nat→Nat} (h1 : ∀ i,S i→S' i) (h2 : ∀ i,S i→σ i=σ' i) (x : Aah) (h : gdO S x) : gdO S' x∧Ada σ x=Ada σ' x:=by
 cases x with
 | cells cs=>have:=Ag3 h1 h2 cs h; exact ⟨this.1,by simp only [Ada]; rw [this.2]⟩
 | grow cs=>have:=Ag3 h1 h2 cs h; exact ⟨this.1,by simp only [Ada]; rw [this.2]⟩
 | mp es =>
  refine ⟨fun p hp=>⟨(Afr h1 h2 _ (h p hp).1).1,(Afr h1 h2 _ (h p hp).2).1⟩,?_⟩
  simp only [Ada,Aah.mp.injEq]
  exact List.map_congr_left fun p hp=>by rw [(Afr h1 h2 _ (h p hp).1).2,(Afr h1 h2 _ (h p hp).2).2]
 | it _ _=>exact ⟨trivial,rfl⟩
mutual
theorem Ahl : ∀ x : AV,ren id x=x
 | .ptr _ _ | .slc _ _ _ _ _ | .map _ | .undef | .skip | .bool _ | .int _ _ | .str _ | .lst _ _ _ | .cptr _ | .nilptr | .nilfn | .nilmap | .nilifc=>rfl
 | .agg cs=>by simp only [ren]; rw [Agt cs]
 | .tup cs=>by simp only [ren]; rw [Agt cs]
 | .fn f cs=>by simp only [ren]; rw [Agt cs]
 | .ifc t x=>by simp only [ren]; rw [Ahl x]
 | .nn x=>by simp only [ren]; rw [Ahl x]
 | .rm x=>by simp only [ren]; rw [Ahl x]
theorem Agt : ∀ xs : List AV,Ad5 id xs=xs
 | []=>rfl
 | x::xs=>by simp only [Ad5]; rw [Ahl x,Agt xs]
end
theorem AqG (x : Aah) : Ada id x=x:=by
 cases x with
 | cells cs=>simp only [Ada]; rw [Agt]
 | grow cs=>simp only [Ada]; rw [Agt]
 | mp es =>
  simp only [Ada,Aah.mp.injEq]
  conv=>rhs; rw [← List.map_id es]
  exact List.map_congr_left fun p _=>by rw [Ahl,Ahl]; rfl
 | it _ _=>rfl
theorem AgX (ρ τ : List (Nat×Nat)) (i : Nat) : AdB (ρ++τ) i=(AdB ρ i).or (AdB τ i):=by
 unfold AdB; rw [List.find?_append]; cases ρ.find? (fun p=>p.1==i) <;> rfl
theorem AgW {τ : List (Nat×Nat)} {i j : Nat} (h : (i,j) ∈ τ) : ∃ j',AdB τ i=some j'∧(i,j') ∈ τ:=by
 cases e : AdB τ i with
 | none=>exact absurd h (Ake e j)
 | some x=>exact ⟨x,rfl,AdI e⟩
def AiW (m : List (Int×List Int)) (f : Nat→Nat) : List (Nat×Nat):=(fam m).map fun p=>(p.1,f p.1)
theorem AeM {m : List (Int×List Int)} {f : Nat→Nat} {p : Nat×Nat} : p ∈ AiW m f↔∃ j,j<m.length∧j<1000∧p=(1000+j,f (1000+j)):=by
 unfold AiW
 rw [List.mem_map]
 constructor
 ·rintro ⟨q,hq,rfl⟩; obtain ⟨j,h,h1,rfl⟩:=AeU.1 hq; exact ⟨j,h,h1,rfl⟩
 ·rintro ⟨j,h,h1,rfl⟩; exact ⟨_,AeU.2 ⟨j,h,h1,rfl⟩,rfl⟩
theorem Aiv {m : List (Int×List Int)} {f : Nat→Nat} (hf : ∀ i j,i<1000→j<1000→f (1000+i)=f (1000+j)→i=j) : ((AiW m f).map (·.2)).Nodup:=by
 unfold AiW fam
 rw [List.map_map,List.map_map,List.nodup_iff_pairwise_ne,List.pairwise_map,List.pairwise_iff_getElem]
 intro i j hi hj hij e
 simp only [List.length_zipIdx,List.length_take] at hi hj
 simp only [Function.comp_apply,List.getElem_zipIdx,Nat.zero_add] at e
 have:=hf _ _ (by omega) (by omega) e
 omega
@[simp] theorem AuB (σ : Nat→Nat) (k : IntKind) (i : Int) (v : Bool) : Ada σ (.mp (Ack [] (.int k i) (.bool v))) = .mp (Ack [] (.int k i) (.bool v)):=rfl
@[simp] theorem AuE (S : Nat→Prop) (k : IntKind) (i : Int) (v : Bool) : gdO S (.mp (Ack [] (.int k i) (.bool v)))↔True:=iff_true_intro (by simp [gdO,Ack,AgT])
@[simp] theorem AvR (σ : Nat→Nat) : Ada σ (.mp []) = .mp []:=rfl
@[simp] theorem AvS (S : Nat→Prop) : gdO S (.mp [])↔True:=iff_true_intro (by simp [gdO])
theorem Anb (es : List (AV×AV)) (k : IntKind) (i : Int) (v : AV) (h : (es.all fun p=>(Abo.int k).has p.1)=true) : ((Ack es (.int k i) v).all fun p=>(Abo.int k).has p.1)=true:=by
 rw [List.all_eq_true] at h ⊢
 intro p hp
 rcases Anf hp with hp | rfl
 ·exact h p hp
 ·simp
@[simp↓] theorem ArV (k : IntKind) (i : Int) (v : AV) : ((Ack [] (.int k i) v).all fun p=>(Abo.int k).has p.1)=true:=Anb [] k i v rfl
theorem AsX {α : Type} {l : List α} (h : ¬ l = []) : List.isEmpty l=false:=by cases l <;> simp_all
variable {n : Nat} {c0 : Cx} {w0 : World} {s : Nat→AV} {H : Aai} {N : Nat} {T : Act→World→Prop} {P : Program} {Q : Ace} {x : Code}
theorem Can.renF {m0 : Nat} (h0 : Ab7 c0 m0) (m : List (Int×List Int)) (b b' : Nat) (ρ : List (Nat×Nat)) (l : List (Nat×AV)) (o : List (Nat×Aah))
 (hρ1 : (b'::ρ.map (·.2)).Nodup) (hρ2 : ∀ p ∈ (b,b')::ρ,p.1<1000∧(p.2<1000∨2000≤p.2)∧(p.1<m0→p.1=p.2)) (hM : m0≤1000) (hk : o.map (·.1)=ρ.map (·.1))
 (h1 : ∀ p ∈ l,s p.1=Abs.ren (AcF ((b,b')::ρ)) p.2∧gd (fun i=>(AdB ((b,b')::ρ) i).isSome=true) p.2)
 (h2 : ∀ p ∈ o,H (AcF ((b,b')::ρ) p.1)=some (Ada (AcF ((b,b')::ρ)) p.2)∧gdO (fun i=>(AdB ((b,b')::ρ) i).isSome=true) p.2)
 (hm : H b'=some (.mp (Ads m))) (hf : AgB H m)
 (h : Can n c0 w0 (mkS l) (mkH ((b,.mp (Ads m))::(o++fam m))) 2000 T) : Can n c0 w0 s H N T:=by
 have hl : ∀ i,(AdB ((b,b')::ρ) i).isSome=true→AdB ((b,b')::ρ) i=AdB (((b,b')::ρ)++AiW m id) i:=by
  intro i hi; rw [AgX]
  obtain ⟨j,e⟩:=Option.isSome_iff_exists.1 hi
  rw [e]; rfl
 have e1 : ∀ i,(AdB ((b,b')::ρ) i).isSome=true→(AdB (((b,b')::ρ)++AiW m id) i).isSome=true:=fun i hi=>by rw [← hl i hi]; exact hi
 have e2 : ∀ i,(AdB ((b,b')::ρ) i).isSome=true→AcF ((b,b')::ρ) i=AcF (((b,b')::ρ)++AiW m id) i:=fun i hi=>by unfold AcF; rw [← hl i hi]
 have e3 : ∀ j,j<m.length→j<1000→AdB (((b,b')::ρ)++AiW m id) (1000+j)=some (1000+j):=by
  intro j hj h1
  rw [AgX]
  cases q : AdB ((b,b')::ρ) (1000+j) with
  | some z=>have:=(hρ2 _ (AdI q)).1; simp only [] at this; omega
  | none =>
   obtain ⟨z,hz,hz2⟩:=AgW (AeM (f:=id).2 ⟨j,hj,h1,rfl⟩)
   rw [hz]
   obtain ⟨j',_,_,q⟩:=AeM.1 hz2
   simp only [Prod.mk.injEq,id] at q
   simp only [Option.none_or,Option.some.injEq]; omega
 have e4 : ∀ i j,AdB ((b,b')::ρ) i=some j→AcF (((b,b')::ρ)++AiW m id) i=j:=fun i j q=>by unfold AcF; rw [AgX,q]; rfl
 refine Can.ren h0 (((b,b')::ρ)++AiW m id) l ((b,.mp (Ads m))::(o++fam m)) 2000 ?_ ?_ (by omega) ?_ ?_ ?_ h
 ·rw [List.map_append,List.nodup_append]
  refine ⟨by simpa using hρ1,Aiv (fun i j _ _ e=>by simp only [id] at e; omega),fun i hi j hj=>?_⟩
  obtain ⟨p,hp,rfl⟩:=List.mem_map.1 hi
  obtain ⟨q,hq,rfl⟩:=List.mem_map.1 hj
  obtain ⟨k,_,hk,rfl⟩:=AeM.1 hq
  have:=(hρ2 p hp).2.1
  simp only [id]; omega
 ·intro p hp
  rcases List.mem_append.1 hp with hp | hp
  ·have:=hρ2 p hp; exact ⟨by omega,this.2.2⟩
  ·obtain ⟨j,_,hj,rfl⟩:=AeM.1 hp
   exact ⟨by simp only []; omega,fun q=>rfl⟩
 ·rw [List.cons_append,List.map_cons,List.map_cons,List.map_append,List.map_append,hk]
  refine congrArg _ (congrArg _ ?_)
  unfold AiW; rw [List.map_map]; rfl
 ·intro p hp
  obtain ⟨a1,a2⟩:=h1 p hp
  have:=Afr e1 e2 p.2 a2
  exact ⟨by rw [← this.2]; exact a1,this.1⟩
 ·intro p hp
  rw [List.mem_cons,List.mem_append] at hp
  rcases hp with rfl | hp | hp
  ·refine ⟨?_,?_⟩
   ·rw [e4 b b' (by simp [AdB])]
    rw [hm]; simp only [Ada,Option.some.injEq,Aah.mp.injEq]
    conv=>lhs; rw [← List.map_id (Ads m)]
    refine List.map_congr_left fun q hq=>?_
    unfold Ads at hq
    obtain ⟨⟨r,j⟩,hr,rfl⟩:=List.mem_map.1 hq
    rw [List.mem_zipIdx_iff_getElem?,List.getElem?_take] at hr
    split at hr
    ·obtain ⟨hj,_⟩:=List.getElem?_eq_some_iff.1 hr
     simp only [id,Abs.ren]
     rw [show AcF (((b,b')::ρ)++AiW m id) (1000+j)=1000+j by unfold AcF; rw [e3 j hj (by assumption)]; rfl]
    ·cases hr
   ·intro q hq
    unfold Ads at hq
    obtain ⟨⟨r,j⟩,hr,rfl⟩:=List.mem_map.1 hq
    rw [List.mem_zipIdx_iff_getElem?,List.getElem?_take] at hr
    split at hr
    ·obtain ⟨hj,_⟩:=List.getElem?_eq_some_iff.1 hr
     refine ⟨trivial,?_⟩
     show (AdB _ (1000+j)).isSome=true
     rw [e3 j hj (by assumption)]; rfl
    ·cases hr
  ·obtain ⟨a1,a2⟩:=h2 p hp
   have:=Anl e1 e2 p.2 a2
   have hp1 : (AdB ((b,b')::ρ) p.1).isSome=true:=by
    have : p.1 ∈ ρ.map (·.1):=by rw [← hk]; exact List.mem_map.2 ⟨p,hp,rfl⟩
    obtain ⟨q,hq,e⟩:=List.mem_map.1 this
    obtain ⟨z,hz,_⟩:=AgW (τ:=(b,b')::ρ) (i:=p.1) (j:=q.2) (by rw [← e]; exact List.mem_cons_of_mem _ hq)
    rw [hz]; rfl
   exact ⟨by rw [← this.2,← e2 _ hp1]; exact a1,this.1⟩
  ·obtain ⟨j,hj,h1,rfl⟩:=AeU.1 hp
   refine ⟨?_,?_⟩
   ·simp only []
    rw [show AcF (((b,b')::ρ)++AiW m id) (1000+j)=1000+j by unfold AcF; rw [e3 j hj h1]; rfl,AfO.1 hf j hj h1]
    simp only [Ada]; rw [AgM _ _ (fun _=>rfl)]
   ·exact (AeS _ _).2 fun y hy=>by obtain ⟨z,_,rfl⟩:=List.mem_map.1 hy; trivial
theorem AW.rnmF {m0 : Nat} (h0 : Ab7 c0 m0) (m : List (Int×List Int)) (b b' : Nat) (ρ : List (Nat×Nat)) (l : List (Nat×AV)) (o : List (Nat×Aah))
 (hρ1 : (b'::ρ.map (·.2)).Nodup) (hρ2 : ∀ p ∈ (b,b')::ρ,p.1<1000∧(p.2<1000∨2000≤p.2)∧(p.1<m0→p.1=p.2)) (hM : m0≤1000) (hk : o.map (·.1)=ρ.map (·.1))
 (h1 : ∀ p ∈ l,s p.1=Abs.ren (AcF ((b,b')::ρ)) p.2∧gd (fun i=>(AdB ((b,b')::ρ) i).isSome=true) p.2)
 (h2 : ∀ p ∈ o,H (AcF ((b,b')::ρ) p.1)=some (Ada (AcF ((b,b')::ρ)) p.2)∧gdO (fun i=>(AdB ((b,b')::ρ) i).isSome=true) p.2)
 (hm : H b'=some (.mp (Ads m))) (hf : AgB H m)
 (h : AW P n c0 w0 x Q (mkS l) (mkH ((b,.mp (Ads m))::(o++fam m))) 2000) : AW P n c0 w0 x Q s H N:=Can.renF h0 m b b' ρ l o hρ1 hρ2 hM hk h1 h2 hm hf h
theorem Can.famPut {m0 : Nat} (h0 : Ab7 c0 m0) (m : List (Int×List Int)) (b K : Nat) (y : Int) (xs : List Int) (l : List (Nat×AV)) (o : List (Nat×Aah))
 (hm0 : m0≤1000) (hK : 2000≤K) (hn : (b::o.map (·.1)).Nodup) (hlo : ∀ i ∈ b::o.map (·.1),i<1000) (hlen : m.length<1000)
 (h1 : ∀ p ∈ l,s p.1=p.2∧gd (fun i=>i ∈ b::o.map (·.1)) p.2)
 (h2 : ∀ p ∈ o,H p.1=some p.2∧gdO (fun i=>i ∈ b::o.map (·.1)) p.2)
 (hb : H b=some (.mp (Ack (Ads m) (.int .i64 y) (.slc K 0 1 xs.length false)))) (hKo : H K=some (.grow (xs.map (AV.int .i64)))) (hf : Aew H m y)
 (h : Can n c0 w0 (mkS l) (mkH ((b,.mp (Ads (AbE m y xs)))::(o++fam (AbE m y xs)))) 2000 T) : Can n c0 w0 s H N T:=by
 obtain ⟨f,hfd⟩ : ∃ f : Nat→Nat,f=fun i=>if i=fnm m y then K else i:=⟨_,rfl⟩
 have hlt:=AmE (y:=y) hlen
 obtain ⟨ρ,hρ⟩ : ∃ ρ : List (Nat×Nat),ρ=(b::o.map (·.1)).map fun i=>(i,i):=⟨_,rfl⟩
 have hρm : ∀ i j,(i,j) ∈ ρ↔i ∈ b::o.map (·.1)∧j=i:=by
  intro i j; rw [hρ,List.mem_map]
  constructor
  ·rintro ⟨k,hk,e⟩; cases e; exact ⟨hk,rfl⟩
  ·rintro ⟨hk,e⟩; exact ⟨i,hk,by rw [e]⟩
 have hla : ∀ i,i ∈ b::o.map (·.1)→AdB (ρ++AiW (AbE m y xs) f) i=some i:=by
  intro i hi
  obtain ⟨z,hz,hz2⟩:=AgW ((hρm i i).2 ⟨hi,rfl⟩)
  rw [AgX,hz,((hρm i z).1 hz2).2]; rfl
 have hfa : ∀ j,j<(AbE m y xs).length→j<1000→AdB (ρ++AiW (AbE m y xs) f) (1000+j)=some (f (1000+j)):=by
  intro j hj h1
  rw [AgX]
  cases q : AdB ρ (1000+j) with
  | some z=>have:=hlo _ ((hρm _ _).1 (AdI q)).1; omega
  | none =>
   obtain ⟨z,hz,hz2⟩:=AgW (AeM (f:=f).2 ⟨j,hj,h1,rfl⟩)
   rw [hz]
   obtain ⟨j',_,_,q⟩:=AeM.1 hz2
   simp only [Prod.mk.injEq] at q
   obtain ⟨q1,q2⟩:=q
   have : j=j':=by omega
   subst this; rw [q2]; rfl
 have hlaD : ∀ i,i ∈ b::o.map (·.1)→AcF (ρ++AiW (AbE m y xs) f) i=i:=fun i hi=>by unfold AcF; rw [hla i hi]; rfl
 have hfaD : ∀ j,j<(AbE m y xs).length→j<1000→AcF (ρ++AiW (AbE m y xs) f) (1000+j)=f (1000+j):=fun j hj h1=>by unfold AcF; rw [hfa j hj h1]; rfl
 have s1 : ∀ i,i ∈ b::o.map (·.1)→(AdB (ρ++AiW (AbE m y xs) f) i).isSome=true:=fun i hi=>by rw [hla i hi]; rfl
 have s2 : ∀ i,i ∈ b::o.map (·.1)→id i=AcF (ρ++AiW (AbE m y xs) f) i:=fun i hi=>by rw [hlaD i hi]; rfl
 have hfi : ∀ i j,i<1000→j<1000→f (1000+i)=f (1000+j)→i=j:=by
  intro i j hi hj e
  rw [hfd] at e; simp only [] at e
  split at e <;> split at e <;> omega
 refine Can.ren h0 (ρ++AiW (AbE m y xs) f) l ((b,.mp (Ads (AbE m y xs)))::(o++fam (AbE m y xs))) 2000 ?_ ?_ (by omega) ?_ ?_ ?_ h
 ·rw [List.map_append,List.nodup_append]
  refine ⟨by rw [hρ,List.map_map]; exact (List.map_id (b::o.map (·.1))).symm ▸ hn,Aiv hfi,fun i hi j hj=>?_⟩
  obtain ⟨p,hp,rfl⟩:=List.mem_map.1 hi
  obtain ⟨q,hq,rfl⟩:=List.mem_map.1 hj
  obtain ⟨k,_,hk,rfl⟩:=AeM.1 hq
  obtain ⟨p1,p2⟩:=p
  have:=(hρm p1 p2).1 hp
  have h3:=hlo _ this.1
  rw [hfd]; simp only [this.2]
  split <;> omega
 ·intro p hp
  rcases List.mem_append.1 hp with hp | hp
  ·obtain ⟨p1,p2⟩:=p
   have:=(hρm p1 p2).1 hp
   have h3:=hlo _ this.1
   exact ⟨by simp only []; omega,fun _=>this.2.symm⟩
  ·obtain ⟨j,_,hj,rfl⟩:=AeM.1 hp
   exact ⟨by simp only []; omega,fun q=>by simp only [] at q; omega⟩
 ·rw [hρ,List.map_cons,List.map_cons,List.cons_append,List.map_cons,List.map_append,List.map_append,List.map_map]
  refine congrArg _ ?_
  unfold AiW; rw [List.map_map,List.map_map]; rfl
 ·intro p hp
  obtain ⟨a1,a2⟩:=h1 p hp
  have:=Afr s1 s2 p.2 a2
  exact ⟨by rw [← this.2,a1,Ahl],this.1⟩
 ·intro p hp
  rw [List.mem_cons,List.mem_append] at hp
  rcases hp with rfl | hp | hp
  ·refine ⟨?_,?_⟩
   ·rw [hlaD b (by simp),hb,ApG hlen y xs K]
    simp only [Ada,Option.some.injEq,Aah.mp.injEq]
    refine List.map_congr_left fun q hq=>?_
    unfold Ads at hq
    obtain ⟨⟨r,j⟩,hr,rfl⟩:=List.mem_map.1 hq
    rw [List.mem_zipIdx_iff_getElem?,List.getElem?_take] at hr
    split at hr
    ·obtain ⟨hj,_⟩:=List.getElem?_eq_some_iff.1 hr
     simp only [Abs.ren]
     rw [hfaD j hj (by assumption),hfd]
    ·cases hr
   ·intro q hq
    unfold Ads at hq
    obtain ⟨⟨r,j⟩,hr,rfl⟩:=List.mem_map.1 hq
    rw [List.mem_zipIdx_iff_getElem?,List.getElem?_take] at hr
    split at hr
    ·obtain ⟨hj,_⟩:=List.getElem?_eq_some_iff.1 hr
     refine ⟨trivial,?_⟩
     show (AdB _ (1000+j)).isSome=true
     rw [hfa j hj (by assumption)]; rfl
    ·cases hr
  ·obtain ⟨a1,a2⟩:=h2 p hp
   have:=Anl s1 s2 p.2 a2
   have hp1 : p.1 ∈ b::o.map (·.1):=List.mem_cons_of_mem _ (List.mem_map.2 ⟨p,hp,rfl⟩)
   refine ⟨?_,this.1⟩
   rw [hlaD _ hp1,a1,← this.2,AqG]
  ·obtain ⟨j,hj,h1,rfl⟩:=AeU.1 hp
   refine ⟨?_,(AeS _ _).2 fun y hy=>by obtain ⟨z,_,rfl⟩:=List.mem_map.1 hy; trivial⟩
   simp only []
   rw [hfaD j hj h1,hfd]
   simp only [Ada]; rw [AgM _ _ (fun _=>rfl)]
   rcases Aqb hj with ⟨a,e⟩ | ⟨a,h',e⟩
   ·rw [if_pos a,hKo,e]
   ·rw [if_neg a,hf j h' h1 a,e]
theorem AW.famPut {m0 : Nat} (h0 : Ab7 c0 m0) (m : List (Int×List Int)) (b K : Nat) (y : Int) (xs : List Int) (l : List (Nat×AV)) (o : List (Nat×Aah))
 (hm0 : m0≤1000) (hK : 2000≤K) (hn : (b::o.map (·.1)).Nodup) (hlo : ∀ i ∈ b::o.map (·.1),i<1000) (hlen : m.length<1000)
 (h1 : ∀ p ∈ l,s p.1=p.2∧gd (fun i=>i ∈ b::o.map (·.1)) p.2)
 (h2 : ∀ p ∈ o,H p.1=some p.2∧gdO (fun i=>i ∈ b::o.map (·.1)) p.2)
 (hb : H b=some (.mp (Ack (Ads m) (.int .i64 y) (.slc K 0 1 xs.length false)))) (hKo : H K=some (.grow (xs.map (AV.int .i64)))) (hf : Aew H m y)
 (h : AW P n c0 w0 x Q (mkS l) (mkH ((b,.mp (Ads (AbE m y xs)))::(o++fam (AbE m y xs)))) 2000) : AW P n c0 w0 x Q s H N:=Can.famPut h0 m b K y xs l o hm0 hK hn hlo hlen h1 h2 hb hKo hf h
theorem Can.frzMp1 (id b : Nat) {cs xs : List AV} {len : Nat} {pre post : List (AV×AV)} {k : AV} (ho : H id=some (.grow cs)) (hb : H b=some (.mp (pre++(k,.slc id 0 1 len false)::post))) (hne : b≠id) (hel : okEls 1 xs) (hlen : xs.length=len) (hcs : AaO xs=cs)
 (h : Can n c0 w0 s (upd (upd H id none) b (some (.mp (pre++(k,.lst false false xs)::post)))) N T) : Can n c0 w0 s H N T:=by
 intro a w ⟨c,hr,hd,g,hu⟩
 obtain ⟨c',L,hh,h1,g',hu',hi,hslc⟩:=Ako ho rfl hr hu
 refine h a w ⟨c',⟨?_,hr.size,fun t ht=>(hr.slot t ht).mono L _ _⟩,hd,g.trans g',hu'⟩
 have hbs : upd H id none b=some (.mp (pre++(k,.slc id 0 1 len false)::post)):=by rw [AbW _ _ hne]; exact hb
 refine h1.reobj b _ (fun o ho' he=>by rw [hbs] at ho'; cases ho'; cases he) (by rw [hbs]; rfl) (fun o bb base sz ho' hl hor=>?_)
 rw [hi b hne] at hl
 obtain ⟨o1,q1,q2⟩:=hr.hr.obj b bb base sz hl
 rw [hb] at q1; cases q1
 obtain ⟨ents,clock,r1,r2,r3⟩:=q2
 refine ⟨ents,clock,by rw [hh]; exact r1,by rw [r2]; simp,fun i a1 a2=>?_⟩
 have a3 : i<(pre++(k,AV.slc id 0 1 len false)::post).length:=by simpa using a2
 have:=r3 i a1 a3
 by_cases e1 : i<pre.length
 ·rw [List.getElem_append_left e1] at this ⊢
  exact ⟨this.1.mono L,this.2.mono L⟩
 ·rw [List.getElem_append_right (by omega)] at this ⊢
  by_cases e2 : i-pre.length=0
  ·simp only [e2,List.getElem_cons_zero] at this ⊢
   refine ⟨this.1.mono L,hslc 0 1 len false false false xs _ (fun h=>h) hel hlen ?_ rfl this.2⟩
   rw [List.drop_zero,List.take_of_length_le]
   ·exact hcs
   ·rw [← hcs,AeT hel.1]; omega
  ·obtain ⟨i',hi'⟩ : ∃ i',i-pre.length=i'+1:=⟨i-pre.length-1,by omega⟩
   simp only [hi',List.getElem_cons_succ] at this ⊢
   exact ⟨this.1.mono L,this.2.mono L⟩
theorem Can.frzM (m : List (Int×List Int)) (b : Nat) (l : List (Nat×AV)) (o : List (Nat×Aah)) (hb : b<1000) (hlo : ∀ p ∈ o,p.1<1000∧p.1≠b∧mkH o p.1=some p.2) (hl : ∀ p ∈ l,mkS l p.1=p.2) (hm : m.length≤1000)
 (h : Can n c0 w0 (mkS l) (mkH ((b,.mp (mpA (AV.int .i64) (sl (AV.int .i64)) m))::o)) N T) : Can n c0 w0 (mkS l) (mkH ((b,.mp (Ads m))::(o++fam m))) N T:=by
 have hM : ∀ j,j≤m.length→Can n c0 w0 (mkS l) (mkH ((b,.mp (mpA (AV.int .i64) (sl (AV.int .i64)) (m.take j)++(Ads m).drop j))::(o++(fam m).drop j))) N T:=by
  intro j hj
  obtain ⟨d,hd⟩ : ∃ d,j+d=m.length:=⟨m.length-j,by omega⟩
  clear hj
  induction d generalizing j with
  | zero =>
   have e1 : (Ads m).drop j = []:=List.drop_of_length_le (by rw [Aga hm]; omega)
   have e2 : (fam m).drop j = []:=List.drop_of_length_le (by simp [fam]; omega)
   rw [e1,e2,List.take_of_length_le (by omega),List.append_nil,List.append_nil]; exact h
  | succ d ih =>
   have hj : j<m.length:=by omega
   have g1:=famM_get? hm j
   rw [List.getElem?_eq_getElem hj] at g1
   have e1 : (Ads m).drop j=(AV.int .i64 m[j].1,AV.slc (1000+j) 0 1 m[j].2.length false)::(Ads m).drop (j+1):=by
    obtain ⟨q,e⟩:=List.getElem?_eq_some_iff.1 g1
    rw [List.drop_eq_getElem_cons q,e]
   have e2 : (fam m).drop j=(1000+j,Aah.grow (m[j].2.map (AV.int .i64)))::(fam m).drop (j+1):=by
    have q : j<(fam m).length:=by simp [fam]; omega
    rw [List.drop_eq_getElem_cons q]; congr 1
    simp [fam]
   have hon : ∀ p ∈ o,p.1<1000∧p.1≠b:=fun p hp=>⟨(hlo p hp).1,(hlo p hp).2.1⟩
   have hno : mkH o (1000+j)=none:=by
    cases q : mkH o (1000+j) with
    | none=>rfl
    | some z=>have:=(hon _ (AeK q)).1; simp only [] at this; omega
   have happ : ∀ (r : List (Nat×Aah)) i,mkH (o++r) i=(mkH o i).or (mkH r i):=by
    intro r i; unfold mkH; rw [List.find?_append]; cases o.find? (fun p=>p.1==i) <;> rfl
   refine Can.frzMp1 (1000+j) b (cs:=m[j].2.map (AV.int .i64)) (xs:=m[j].2.map (AV.int .i64)) (len:=m[j].2.length) (pre:=mpA (AV.int .i64) (sl (AV.int .i64)) (m.take j)) (post:=(Ads m).drop (j+1)) (k:=AV.int .i64 m[j].1) ?_ ?_ (by omega) (by simp) (by simp) (by simp) ?_
   ·rw [Aep,if_neg (by omega),happ,hno,e2,Option.none_or,Aep,if_pos rfl]
   ·rw [Aep,if_pos rfl,e1]
   ·refine Can.weak l _ N hl ?_ (Nat.le_refl _) (ih (j+1) (by omega))
    intro p hp
    rw [List.mem_cons,List.mem_append] at hp
    rcases hp with rfl | hp | hp
    ·simp only [AbZ,Option.some.injEq,Aah.mp.injEq]
     unfold mpA
     rw [List.take_succ_eq_append_getElem hj,List.map_append,List.append_assoc]; rfl
    ·have:=hon p hp
     rw [AbW _ _ this.2,AbW _ _ (by omega),Aep,if_neg (fun e=>this.2 e.symm),happ,(hlo p hp).2.2]; rfl
    ·obtain ⟨i,hi,rfl⟩:=List.mem_iff_getElem.1 hp
     have hlen : i<m.length-(j+1):=by simp [fam] at hi; omega
     have hnm : ((fam m).drop (j+1))[i].1=1000+(j+1+i):=by simp [fam]
     have hmem : ((fam m).drop (j+1))[i] ∈ fam m:=List.mem_of_mem_drop (List.getElem_mem hi)
     rw [AbW _ _ (by omega),AbW _ _ (by omega),Aep,if_neg (by omega),happ]
     have : mkH o ((fam m).drop (j+1))[i].1=none:=by
      cases q : mkH o ((fam m).drop (j+1))[i].1 with
      | none=>rfl
      | some z=>have:=(hon _ (AeK q)).1; simp only [] at this; omega
     rw [this,Option.none_or]
     cases q : mkH ((fam m).drop j) ((fam m).drop (j+1))[i].1 with
     | none=>rw [e2] at q; exact absurd (List.mem_cons_of_mem _ hp) (AjV q _)
     | some z =>
      have q1:=List.mem_of_mem_drop (AeK q)
      obtain ⟨u,u1,u2,u3⟩:=AeU.1 q1
      obtain ⟨v,v1,v2,v3⟩:=AeU.1 hmem
      rw [v3] at u3 ⊢
      simp only [Prod.mk.injEq] at u3
      have : u=v:=by omega
      subst this
      rw [u3.2]
 have:=hM 0 (Nat.zero_le _)
 simpa using this
theorem AW.frzM (m : List (Int×List Int)) (b : Nat) (l : List (Nat×AV)) (o : List (Nat×Aah)) (hb : b<1000) (hlo : ∀ p ∈ o,p.1<1000∧p.1≠b∧mkH o p.1=some p.2) (hl : ∀ p ∈ l,mkS l p.1=p.2) (hm : m.length≤1000)
 (h : AW P n c0 w0 x Q (mkS l) (mkH ((b,.mp (mpA (AV.int .i64) (sl (AV.int .i64)) m))::o)) N) : AW P n c0 w0 x Q (mkS l) (mkH ((b,.mp (Ads m))::(o++fam m))) N:=Can.frzM m b l o hb hlo hl hm h
def AtM (ops : List Oper) (ls : List Nat) (i : Nat) : Bool := !ls.contains i&&((ops[i]?).map fun o=>o.after.toList.all fun e => !Region.binds .any e||ls.contains e.on).getD false
def ArF (P : Program) (mu : List Nat) (ops : List Oper) (K : (Nat→AV)→Aai→Nat→Prop) : Nat→List Nat→(Nat→AV)→Aai→Nat→Prop
 | 0,_,s,H,N=>K s H N
 | f+1,ls,s,H,N=>∀ i o,ops[i]? = some o→AtM ops ls i=true→bop P mu o.dst s H N (fun x H' N' _ _=>ArF P mu ops K f (i::ls) (Ab6 s o.dst x) H' N') o.op
def AbX (P : Program) (mu : List Nat) (ops : List Oper) (K : (Nat→AV)→Aai→Nat→Prop) (f : Nat) (ls : List Nat) (s : Nat→AV) (H : Aai) (N : Nat) : List Nat→Prop
 | []=>True
 | i::L=>(match ops[i]? with | some o=>bop P mu o.dst s H N (fun x H' N' _ _=>ArF P mu ops K f (i::ls) (Ab6 s o.dst x) H' N') o.op | none=>False)∧AbX P mu ops K f ls s H N L
theorem Ak6 {P : Program} {mu : List Nat} {ops : List Oper} {K : (Nat→AV)→Aai→Nat→Prop} {f : Nat} {ls : List Nat} {s : Nat→AV} {H : Aai} {N : Nat} : ∀ {L : List Nat},AbX P mu ops K f ls s H N L→∀ i ∈ L,∀ o,ops[i]? = some o→bop P mu o.dst s H N (fun x H' N' _ _=>ArF P mu ops K f (i::ls) (Ab6 s o.dst x) H' N') o.op
 | [],_,i,hi,_,_=>by cases hi
 | j::L,h,i,hi,o,ho=>by
  rcases List.mem_cons.1 hi with rfl | hi
  ·have:=h.1; rw [ho] at this; exact this
  ·exact Ak6 h.2 i hi o ho
theorem Aa3 {P : Program} {mu : List Nat} {ops : List Oper} {K : (Nat→AV)→Aai→Nat→Prop} {f : Nat} {ls : List Nat} {s : Nat→AV} {H : Aai} {N : Nat} (L : List Nat) (hL : ((List.range ops.length).all fun i => !AtM ops ls i||L.contains i)=true) (h : AbX P mu ops K f ls s H N L) : ArF P mu ops K (f+1) ls s H N:=by
 intro i o ho hr
 refine Ak6 h i ?_ o ho
 have:=List.all_eq_true.1 hL i (by rw [List.mem_range]; exact (List.getElem?_eq_some_iff.1 ho).1)
 rw [hr] at this; simpa using this
theorem AlH : ∀ {l m : List Nat},l.Nodup→(∀ x ∈ l,x ∈ m)→l.length≤m.length
 | [],m,_,_=>Nat.zero_le _
 | a::l,m,hn,h=>by
  rw [List.nodup_cons] at hn
  have ha:=h a (by simp)
  have:=AlH (l:=l) (m:=m.erase a) hn.2 fun x hx=>(List.mem_erase_of_ne (fun e=>hn.1 (by rw [← e]; exact hx))).2 (h x (by simp [hx]))
  rw [List.length_erase_of_mem ha] at this
  have hp:=List.length_pos_of_mem ha
  simp only [List.length_cons]; omega
theorem ApC {ls : List Nat} {n : Nat} (hnd : ls.Nodup) (hlt : ∀ i ∈ ls,i<n) (hlen : n≤ls.length) : ∀ i,i<n→i ∈ ls:=by
 intro i hi
 apply Classical.byContradiction
 intro q
 have:=AlH (l:=i::ls) (m:=List.range n) (List.nodup_cons.2 ⟨q,hnd⟩) fun x hx=>by
  rcases List.mem_cons.1 hx with rfl | hx
  ·exact List.mem_range.2 hi
  ·exact List.mem_range.2 (hlt x hx)
 simp at this; omega
theorem Apz {P : Program} {n : Nat} {c0 : Cx} {w0 : World} {Q : Ace} {mu : List Nat} {ops : List Oper} (h1 : Ahi n ops=true) (h2 : Adm ops=true) (hg : ops.all (fun o=>o.guard.isNone)=true) (h4 : ops.all Aal=true) :
 ∀ (f : Nat) (ls : List Nat) (listed : Array Bool) (s : Nat→AV) (H : Aai) (N : Nat) (a : Act) (w : World),listed.size=ops.length→(∀ i,i<ops.length→(Aaw listed i=true↔i ∈ ls))→ls.length+f=ops.length→ls.Nodup→(∀ i ∈ ls,i<ops.length) →
  ArF P mu ops (fun s H N=>Q .normal s H N) f ls s H N→St n c0 w0 s H N a w→wpAny P .any ops.toArray (Q.real n c0 w0) f listed a w:=by
 intro f
 induction f with
 | zero =>
  intro ls listed s H N a w hsz hl hlen hnd hlt h hst
  have hall : ∀ i,i<ops.length→Aaw listed i=true:=fun i hi=>by
   rw [hl i hi]
   exact ApC hnd hlt (by omega) i hi
  refine ⟨?_,?_⟩
  ·rw [List.eq_nil_iff_forall_not_mem]
   intro i hi
   simp only [Region.ready,List.mem_filter,List.mem_range,List.size_toArray,Bool.and_eq_true] at hi
   have:=hall i hi.1
   simp only [Aaw] at this
   simp [this] at hi
  ·exact ⟨s,H,N,h,hst⟩
 | succ f ih =>
  intro ls listed s H N a w hsz hl hlen hnd hlt h hst
  refine ⟨fun hnil=>?_,fun i hi=>?_⟩
  ·exfalso
   have hex : ∃ i,i<ops.length∧Aaw listed i=false∧∀ k,k<i→Aaw listed k=true:=by
    apply AiH
    apply Classical.byContradiction
    intro q
    have hfull:=AhY (Aaw listed) ops.length (by have:=AiI (Aaw listed) ops.length; omega)
    have hp:=AlH (l:=List.range ops.length) (m:=ls) List.nodup_range fun j hj=>(hl j (List.mem_range.1 hj)).1 (hfull j (List.mem_range.1 hj))
    simp at hp; omega
   obtain ⟨i,q1,q2,q3⟩:=hex
   have hmem : i ∈ Region.ready .any ops.toArray listed:=by
    simp only [Region.ready,List.mem_filter,List.mem_range,List.size_toArray,Bool.and_eq_true,q1,true_and]
    simp only [Aaw] at q2
    refine ⟨by simp [q2],?_⟩
    have ho : ops.toArray[i]? = some ops[i]:=by simp [q1]
    simp only [ho,Option.map_some,Option.getD_some]
    refine Array.all_eq_true_iff_forall_mem.2 fun e he=>?_
    have hback:=List.all_eq_true.1 h2 i (by simpa using q1)
    have ho' : ops[i]? = some ops[i]:=by simp [q1]
    simp only [ho'] at hback
    have hback:=Array.all_eq_true_iff_forall_mem.1 hback e he
    cases hbd : Region.binds .any e with
    | false=>simp
    | true =>
     simp only [hbd,Bool.not_true,Bool.false_or,decide_eq_true_eq] at hback ⊢
     have:=q3 e.on hback
     simp only [Aaw] at this
     have hlt : e.on<listed.size:=by omega
     simp only [Array.getD,hlt] at this ⊢
     simpa using this
   rw [hnil] at hmem; simp at hmem
  ·simp only [Region.ready,List.mem_filter,List.mem_range,List.size_toArray,Bool.and_eq_true] at hi
   obtain ⟨hil,hnl,hedge⟩:=hi
   have hnl' : Aaw listed i=false:=by simpa [Aaw] using hnl
   have ho : ops[i]? = some ops[i]:=by simp [hil]
   have ho' : ops.toArray[i]? = some ops[i]:=by simp [hil]
   have hni : i ∉ ls:=fun q=>by rw [(hl i hil).2 q] at hnl'; cases hnl'
   simp only [ho',Option.map_some,Option.getD_some] at hedge
   have hr : AtM ops ls i=true:=by
    unfold AtM
    rw [ho,Option.map_some,Option.getD_some,Bool.and_eq_true]
    refine ⟨by simpa using hni,List.all_eq_true.2 fun e he=>?_⟩
    have:=Array.all_eq_true_iff_forall_mem.1 hedge e (by simpa using he)
    have hback:=List.all_eq_true.1 h2 i (by simpa using hil)
    simp only [ho] at hback
    have hback:=Array.all_eq_true_iff_forall_mem.1 hback e (by simpa using he)
    cases hbd : Region.binds .any e with
    | false=>rfl
    | true =>
     simp only [hbd,Bool.not_true,Bool.false_or,decide_eq_true_eq] at hback this ⊢
     have hlt' : e.on<ops.length:=by omega
     have : Aaw listed e.on=true:=by
      have hlt : e.on<listed.size:=by omega
      simp only [Aaw,Array.getD,hlt] at this ⊢
      simpa using this
     have:=(hl e.on hlt').1 this
     simpa using this
   obtain ⟨x,H',N',T,W,hout,hk⟩:=AiJ (o:=ops[i]) (List.all_eq_true.1 h4 _ (List.getElem_mem hil)) (h i ops[i] ho hr)
   have hgi : ops[i].guard=none:=by
    have:=List.all_eq_true.1 hg _ (List.getElem_mem hil); simpa using this
   obtain ⟨c,hrel,hd,g,hu⟩:=hst
   have hso:=Agp h1 ops[i] (List.getElem_mem hil)
   unfold wpOp
   rw [ho']
   simp only []
   rw [show Region.wanted ops[i] (yielded ops.toArray a.tmps)=true by unfold Region.wanted; rw [hgi],if_pos rfl]
   refine .inl (hout.op n c s H a w hrel (fun t ht=>⟨rfl,hso.uses t ht⟩) (fun _ _=>rfl) (fun id hw ht=>hu id ((hout.wn id hw).2 ht)) _ _ ?_)
   intro c' v w' hr' hx g' hun
   have e : (fun id=>if id ∈ W then H' id else H id)=H':=by
    funext id
    by_cases hid : id ∈ W
    ·simp [hid]
    ·simp only [hid,if_false]; exact (hout.rest id hid).symm
   rw [e] at hr'
   refine ih (i::ls) (listed.setIfInBounds i true) (Ab6 s ops[i].dst x) H' N' _ _ (by simpa using hsz) ?_ (by simp; omega) (List.nodup_cons.2 ⟨hni,hnd⟩) ?_ hk ?_
   ·intro j hj
    rw [Adh (by omega)]
    by_cases e : j=i
    ·subst e; simp
    ·simp only [e,if_false,List.mem_cons,false_or]; exact hl j hj
   ·intro j hj
    rcases List.mem_cons.1 hj with rfl | hj
    ·exact hil
    ·exact hlt j hj
   ·refine ⟨c',hrel.put hr' g'.le (fun t ht=>hso.dst t ht) hx,?_,g.trans g',fun id hid=>?_⟩
    ·have : (a.put ops[i].dst v).defers=a.defers:=by cases ops[i].dst <;> rfl
     rw [this]; exact hd
    ·exact hun id (hu id (by have:=hout.n; omega)) (fun hw=>by have:=(hout.wn id hw).1; omega)
theorem AW.anyR {P : Program} {n : Nat} {c0 : Cx} {w0 : World} {Q : Ace} {s : Nat→AV} {H : Aai} {N id : Nat} {ops : List Oper} (hm : P.follows .mixedOrders=true) (mu : List Nat) (hok : (Ahi n ops&&Adm ops&&ops.all (fun o=>o.guard.isNone)&&ops.all Aal)=true)
 (h : ∀ K : (Nat→AV)→Aai→Nat→Prop,(∀ s' H' N',Q .normal s' H' N'→K s' H' N')→ArF P mu ops K ops.length [] s H N) : AW P n c0 w0 (.region id ops.toArray true) Q s H N:=by
 simp only [Bool.and_eq_true] at hok
 obtain ⟨⟨⟨h1,h2⟩,h3⟩,h4⟩:=hok
 intro a w hst
 refine wp_region_any hm ?_
 simp only [List.size_toArray]
 refine Apz h1 h2 h3 h4 ops.length [] _ s H N a _ (by simp) (fun i hi=>?_) (by simp) List.nodup_nil (fun i hi=>by cases hi) (h _ fun _ _ _ h=>h) (hst.draw (w' := { w with drawn:=w.drawn+1 }) rfl rfl rfl rfl)
 simp [Aaw,Array.getD,hi]
def Aq1 {α : Type} [DecidableEq α] (x y : Option α) : Option α:=if x=y then x else none
theorem An1 {α : Type} [DecidableEq α] {x y : Option α} {r : α} (h : Aq1 x y=some r) : x=some r∧y=some r:=by
 unfold Aq1 at h; split at h
 ·rename_i e; exact ⟨h,e ▸ h⟩
 ·cases h
end Go.Abs
