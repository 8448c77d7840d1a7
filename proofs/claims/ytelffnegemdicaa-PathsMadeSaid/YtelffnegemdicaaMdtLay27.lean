import Derived.Test.YtelffnegemdicaaMdtLay22
set_option linter.unusedVariables false
set_option linter.unusedSimpArgs false
namespace Go.Abs
open Go.RowKit (Below)
theorem AaD {l : List AV} {i : Nat} {x : Int} (h : Aes l=true) : Aes (l.set i (.int .u8 x))=true:=by
 rw [AoO] at h ⊢
 intro y hy
 rcases List.mem_or_eq_of_mem_set hy with h1 | h1
 ·exact h y h1
 ·exact ⟨x,h1⟩
def AtH (b : ByteArray) (i : Nat) (x : Int) : ByteArray:=⟨(b.data.toList.set i (UInt8.ofNat x.toNat)).toArray⟩
theorem AaG (l : List AV) (i : Nat) (x : Int) : sOf (l.set i (.int .u8 x))=AtH (sOf l) i x:=by simp [sOf,AtH,AtD,List.map_set]
theorem AaH (l : List Int) (i : Nat) (x : Int) : ofI (l.set i x)=AtH (ofI l) i x:=by simp [ofI,AtH,List.map_set]
theorem Ajh {α : Type} {F : α→AV} {S : Nat→Prop} (h : ∀ x,gdL S (F x).cells) (l : List α) : gdL S (AaO (l.map F)):=by
 refine (AeS _ _).2 fun y hy=>?_
 simp only [AaO,List.mem_flatMap,List.mem_map] at hy
 obtain ⟨z,⟨x,_,rfl⟩,hz⟩:=hy
 exact (AeS _ _).1 (h x) y hz
theorem Ahm {α : Type} {F : α→AV} {σ : Nat→Nat} (h : ∀ x,Ad5 σ (F x).cells=(F x).cells) (l : List α) : Ad5 σ (AaO (l.map F))=AaO (l.map F):=by
 induction l with
 | nil=>rfl
 | cons x l ih =>
  rw [List.map_cons,Ad6,Agu,List.map_append,← Agu,← Agu,h,ih]
theorem Af7 {α : Type} {F : α→AV} (h : ∀ x,Ac7 (F x).cells=true) (l : List α) : Ac7 (AaO (l.map F))=true:=by
 rw [Aio,List.all_eq_true]
 intro y hy
 simp only [AaO,List.mem_flatMap,List.mem_map] at hy
 obtain ⟨z,⟨x,_,rfl⟩,hz⟩:=hy
 have:=h x
 rw [Aio,List.all_eq_true] at this
 exact this y hz
theorem Aub {b : ByteArray} {n : Nat} {v : Int} (h : (bI b)[n]? = some v) : (((b.data.toList.getD n 0).toNat : Nat) : Int)=v:=by
 unfold bI at h
 rw [List.getElem?_map] at h
 rw [List.getD_eq_getElem?_getD]
 cases hh : b.data.toList[n]? with
 | none=>rw [hh] at h; cases h
 | some x=>rw [hh] at h; simpa using h
@[simp↓] theorem AtV {β : Type} (k : IntKind) (g : β→AV) (l : List (Int×β)) : ((mpA (.int k) g l).all fun p=>(Abo.int k).has p.1)=true:=Aqc k g l
theorem Anf {es : List (AV×AV)} {k v : AV} {p : AV×AV} (h : p ∈ Ack es k v) : p ∈ es∨p=(k,v):=by
 unfold Ack at h
 split at h
 ·exact List.mem_or_eq_of_mem_set h
 ·simpa using h
@[simp] theorem AsK (σ : Nat→Nat) (k k2 : IntKind) (l : List (Int×Int)) : Ada σ (.mp (mpA (AV.int k) (AV.int k2) l)) = .mp (mpA (AV.int k) (AV.int k2) l):=AhP σ _ _ l (fun _=>by simp) (fun _=>by simp)
@[simp] theorem AsN (S : Nat→Prop) (k k2 : IntKind) (l : List (Int×Int)) : gdO S (.mp (mpA (AV.int k) (AV.int k2) l))↔True:=Ajf S _ _ l (fun _=>by simp) (fun _=>by simp)
@[simp] theorem AuC (σ : Nat→Nat) (k k2 : IntKind) (l : List (Int×Int)) (i v : Int) : Ada σ (.mp (Ack (mpA (AV.int k) (AV.int k2) l) (AV.int k i) (AV.int k2 v))) = .mp (Ack (mpA (AV.int k) (AV.int k2) l) (AV.int k i) (AV.int k2 v)):=by
 have h:=AsK σ k k2 (AbE l i v)
 rw [Agw] at h; exact h
@[simp] theorem AuF (S : Nat→Prop) (k k2 : IntKind) (l : List (Int×Int)) (i v : Int) : gdO S (.mp (Ack (mpA (AV.int k) (AV.int k2) l) (AV.int k i) (AV.int k2 v)))↔True:=by
 have h:=AsN S k k2 (AbE l i v)
 rw [Agw] at h; exact h
@[simp] theorem AsL (σ : Nat→Nat) (k : IntKind) (l : List (Int×Bool)) : Ada σ (.mp (mpA (AV.int k) AV.bool l)) = .mp (mpA (AV.int k) AV.bool l):=AhP σ _ _ l (fun _=>by simp) (fun _=>by simp)
@[simp] theorem AsO (S : Nat→Prop) (k : IntKind) (l : List (Int×Bool)) : gdO S (.mp (mpA (AV.int k) AV.bool l))↔True:=Ajf S _ _ l (fun _=>by simp) (fun _=>by simp)
@[simp] theorem AuD (σ : Nat→Nat) (k : IntKind) (l : List (Int×Bool)) (i : Int) (v : Bool) : Ada σ (.mp (Ack (mpA (AV.int k) AV.bool l) (AV.int k i) (AV.bool v))) = .mp (Ack (mpA (AV.int k) AV.bool l) (AV.int k i) (AV.bool v)):=by
 have h:=AsL σ k (AbE l i v)
 rw [Agw] at h; exact h
@[simp] theorem AuG (S : Nat→Prop) (k : IntKind) (l : List (Int×Bool)) (i : Int) (v : Bool) : gdO S (.mp (Ack (mpA (AV.int k) AV.bool l) (AV.int k i) (AV.bool v)))↔True:=by
 have h:=AsO S k (AbE l i v)
 rw [Agw] at h; exact h
@[simp] theorem AuA (σ : Nat→Nat) (k k2 : IntKind) (l : List (Int×(List Int))) : Ada σ (.mp (mpA (AV.int k) (sl (AV.int k2)) l)) = .mp (mpA (AV.int k) (sl (AV.int k2)) l):=AhP σ _ _ l (fun _=>by simp) (fun _=>by simp)
@[simp] theorem AuH (S : Nat→Prop) (k k2 : IntKind) (l : List (Int×(List Int))) : gdO S (.mp (mpA (AV.int k) (sl (AV.int k2)) l))↔True:=Ajf S _ _ l (fun _=>by simp) (fun _=>by simp)
theorem AjS {α : Type} {F : α→AV} (h : ∀ x,(F x).cells.all AV.one=true) (l : List α) : (AaO (l.map F)).all AV.one=true:=by
 rw [List.all_eq_true]
 intro y hy
 simp only [AaO,List.mem_flatMap,List.mem_map] at hy
 obtain ⟨z,⟨x,_,rfl⟩,hz⟩:=hy
 exact List.all_eq_true.1 (h x) y hz
theorem FlL.app {a b c d : List AV} : FlL a b→FlL c d→FlL (a++c) (b++d)
 | .nil,h=>h
 | .cons h t,h2 => .cons h (FlL.app t h2)
theorem FlO.rep {α : Type} {F : α→AV} {x : AV} {z : α} (n : Nat) (h : FlL x.cells (F z).cells) : FlO (.cells (AaO (List.replicate n x))) (.cells (AaO (List.map F (List.replicate n z)))):=by
 refine FlO.mk ?_
 induction n with
 | zero=>exact .nil
 | succ n ih =>
  rw [List.replicate_succ,List.replicate_succ,List.map_cons,Ad6,Ad6]
  exact h.app ih
def Ale {α β : Type} [BEq α] (l : List (α×β)) (k : α) : List (α×β) :=
 match mgI l k with
 | some j=>l.eraseIdx j
 | none=>l
theorem Akd {α β : Type} (f : α→β) : ∀ (l : List α) (j : Nat),(l.map f).eraseIdx j=(l.eraseIdx j).map f
 | [],_=>rfl
 | a::l,0=>rfl
 | a::l,j+1=>by simp [List.eraseIdx,Akd f l j]
@[simp] theorem AsP {β : Type} (k k' : IntKind) (g : β→AV) (l : List (Int×β)) (i : Int) : AjU (mpA (.int k) g l) (.int k' i)=mpA (.int k) g (Ale l i):=by
 unfold AjU Ale
 rw [Ah1]
 cases mgI l i with
 | none=>rfl
 | some j=>exact Akd _ l j
theorem Aog {α : Type} {F : α→AV} {es : Nat} (hF : ∀ x,(F x).cells.length=es) (L : List α) (z : α) {off len : Nat} (h : off+len≤L.length) :
 setR (AaO (L.map F)) (off*es) (AaO (List.replicate len (F z)))=AaO ((L.take off++List.replicate len z++L.drop (off+len)).map F):=by
 have hr : (AaO (List.replicate len (F z))).length=len*es:=by
  have:=Acq hF (List.replicate len z)
  rw [List.map_replicate,List.length_replicate] at this; exact this
 have hm : off*es+len*es≤L.length*es:=by rw [← Nat.add_mul]; exact Nat.mul_le_mul_right _ h
 have hd : ∀ n,n≤L.length→(AaO (L.map F)).drop (n*es)=AaO ((L.drop n).map F)∧(AaO (L.map F)).take (n*es)=AaO ((L.take n).map F):=by
  intro n hn
  have e : AaO (L.map F)=AaO ((L.take n).map F)++AaO ((L.drop n).map F):=by rw [← Aeh,← List.map_append,List.take_append_drop]
  have hl : (AaO ((L.take n).map F)).length=n*es:=by rw [Acq hF,List.length_take,Nat.min_eq_left hn]
  rw [e]
  exact ⟨by rw [← hl,List.drop_left],by rw [← hl,List.take_left]⟩
 rw [Afx _ _ _ (by rw [hr,Acq hF]; exact hm),hr,← Nat.add_mul,(hd (off+len) h).1,(hd off (by omega)).2,List.map_append,List.map_append,Aeh,Aeh,List.map_replicate]
theorem Al2 {α : Type} {F : α→AV} {es : Nat} (hF : ∀ x,(F x).cells.length=es) (L : List α) (z : α) {off : Nat} (h : off≤L.length) :
 setR (AaO (L.map F)) (off*es) (AaO (List.replicate (L.length-off) (F z)))=AaO ((L.take off++List.replicate (L.length-off) z).map F):=by
 rw [Aog hF L z (len:=L.length-off) (by omega),List.drop_eq_nil_of_le (by omega),List.append_nil]
theorem Akq {α : Type} {F : α→AV} {es : Nat} (hF : ∀ x,(F x).cells.length=es) (L : List α) {off len : Nat} (h : off+len≤L.length) :
 AaO (((L.drop off).take len).map F)=((AaO (L.map F)).drop (off*es)).take (len*es):=by
 have hl : (AaO ((L.take off).map F)).length=off*es:=by rw [Acq hF,List.length_take,Nat.min_eq_left (by omega)]
 have e : AaO (L.map F)=AaO ((L.take off).map F)++AaO ((L.drop off).map F):=by rw [← Aeh,← List.map_append,List.take_append_drop]
 rw [e,← hl,List.drop_left]
 have hl2 : (AaO (((L.drop off).take len).map F)).length=len*es:=by rw [Acq hF,List.length_take,List.length_drop,Nat.min_eq_left (by omega)]
 have e2 : AaO ((L.drop off).map F)=AaO (((L.drop off).take len).map F)++AaO (((L.drop off).drop len).map F):=by rw [← Aeh,← List.map_append,List.take_append_drop]
 rw [e2,← hl2,List.take_left]
theorem Aiq {α : Type} {F : α→AV} {es : Nat} (hF : ∀ x,(F x).cells.length=es) (L : List α) {len : Nat} (h : len≤L.length) :
 AaO ((L.take len).map F)=((AaO (L.map F)).drop (0*es)).take (len*es):=by
 have:=Akq hF L (off:=0) (len:=len) (by omega)
 simpa using this
theorem Amn {α : Type} {F : α→AV} {es : Nat} (hF : ∀ x,(F x).cells.length=es) (L : List α) {off : Nat} (h : off≤L.length) :
 AaO ((L.drop off).map F)=((AaO (L.map F)).drop (off*es)).take ((L.length-off)*es):=by
 have:=Akq hF L (off:=off) (len:=L.length-off) (by omega)
 rwa [List.take_of_length_le (by rw [List.length_drop]; exact Nat.le_refl _)] at this
@[simp] theorem Aqk (S : Nat→Prop) (n : Nat) (k k' k'' : IntKind) (x y : Int) (l : List Int) : gdL S ((l.map (AV.int k)++[AV.int k' y]).set n (AV.int k'' x))↔True:=iff_true_intro (Ajg (by simp) (by simp))
theorem Acz {α : Type} {l : List α} (h : 0<l.length) : l≠[]:=by intro e; subst e; simp at h
theorem Ah9 {α : Type} {F : α→AV} (h : ∀ x,(F x).cells.length=1) (l : List α) : True:=trivial
end Go.Abs
