import Derived.Test.YthiodjlppahmkaaGreatExtLay22
set_option linter.unusedVariables false
set_option linter.unusedSimpArgs false
namespace Go.Abs
open Go.RowKit (Below)
theorem AhN {l : List AV} {i : Nat} {x : Int} (h : AeP l=true) : AeP (l.set i (.int .u8 x))=true:=by
 rw [Aq2] at h ⊢
 intro y hy
 rcases List.mem_or_eq_of_mem_set hy with h1 | h1
 ·exact h y h1
 ·exact ⟨x,h1⟩
def AwO (b : ByteArray) (i : Nat) (x : Int) : ByteArray:=⟨(b.data.toList.set i (UInt8.ofNat x.toNat)).toArray⟩
theorem Aka (l : List AV) (i : Nat) (x : Int) : sOf (l.set i (.int .u8 x))=AwO (sOf l) i x:=by simp [sOf,AwO,Auv,List.map_set]
theorem Ako (l : List Int) (i : Nat) (x : Int) : ofI (l.set i x)=AwO (ofI l) i x:=by simp [ofI,AwO,List.map_set]
theorem AiF {α : Type} {F : α→AV} {S : Nat→Prop} (h : ∀ x,gdL S (F x).cells) (l : List α) : gdL S (AaI (l.map F)):=by
 refine (Aeq _ _).2 fun y hy=>?_
 simp only [AaI,List.mem_flatMap,List.mem_map] at hy
 obtain ⟨z,⟨x,_,rfl⟩,hz⟩:=hy
 exact (Aeq _ _).1 (h x) y hz
theorem Agy {α : Type} {F : α→AV} {σ : Nat→Nat} (h : ∀ x,AdP σ (F x).cells=(F x).cells) (l : List α) : AdP σ (AaI (l.map F))=AaI (l.map F):=by
 induction l with
 | nil=>rfl
 | cons x l ih =>
  rw [List.map_cons,AeD,Age,List.map_append,← Age,← Age,h,ih]
theorem Agh {α : Type} {F : α→AV} (h : ∀ x,Ac7 (F x).cells=true) (l : List α) : Ac7 (AaI (l.map F))=true:=by
 rw [Ajx,List.all_eq_true]
 intro y hy
 simp only [AaI,List.mem_flatMap,List.mem_map] at hy
 obtain ⟨z,⟨x,_,rfl⟩,hz⟩:=hy
 have:=h x
 rw [Ajx,List.all_eq_true] at this
 exact this y hz
theorem Axv {b : ByteArray} {n : Nat} {v : Int} (h : (bI b)[n]? = some v) : (((b.data.toList.getD n 0).toNat : Nat) : Int)=v:=by
 unfold bI at h
 rw [List.getElem?_map] at h
 rw [List.getD_eq_getElem?_getD]
 cases hh : b.data.toList[n]? with
 | none=>rw [hh] at h; cases h
 | some x=>rw [hh] at h; simpa using h
@[simp↓] theorem Awc {β : Type} (k : IntKind) (g : β→AV) (l : List (Int×β)) : ((mpA (.int k) g l).all fun p=>(Abe.int k).has p.1)=true:=AtR k g l
@[simp] theorem AvS (σ : Nat→Nat) (k k2 : IntKind) (l : List (Int×Int)) : AeR σ (.mp (mpA (AV.int k) (AV.int k2) l)) = .mp (mpA (AV.int k) (AV.int k2) l):=Ano σ _ _ l (fun _=>by simp) (fun _=>by simp)
@[simp] theorem AvU (S : Nat→Prop) (k k2 : IntKind) (l : List (Int×Int)) : gdO S (.mp (mpA (AV.int k) (AV.int k2) l))↔True:=Ap7 S _ _ l (fun _=>by simp) (fun _=>by simp)
@[simp] theorem AxU (σ : Nat→Nat) (k k2 : IntKind) (l : List (Int×Int)) (i v : Int) : AeR σ (.mp (Aeo (mpA (AV.int k) (AV.int k2) l) (AV.int k i) (AV.int k2 v))) = .mp (Aeo (mpA (AV.int k) (AV.int k2) l) (AV.int k i) (AV.int k2 v)):=by
 have h:=AvS σ k k2 (Agm l i v)
 rw [Akr] at h; exact h
@[simp] theorem AxV (S : Nat→Prop) (k k2 : IntKind) (l : List (Int×Int)) (i v : Int) : gdO S (.mp (Aeo (mpA (AV.int k) (AV.int k2) l) (AV.int k i) (AV.int k2 v)))↔True:=by
 have h:=AvU S k k2 (Agm l i v)
 rw [Akr] at h; exact h
theorem Ah9 {α : Type} {F : α→AV} (h : ∀ x,(F x).cells.all AV.one=true) (l : List α) : (AaI (l.map F)).all AV.one=true:=by
 rw [List.all_eq_true]
 intro y hy
 simp only [AaI,List.mem_flatMap,List.mem_map] at hy
 obtain ⟨z,⟨x,_,rfl⟩,hz⟩:=hy
 exact List.all_eq_true.1 (h x) y hz
theorem FlL.app {a b c d : List AV} : FlL a b→FlL c d→FlL (a++c) (b++d)
 | .nil,h=>h
 | .cons h t,h2 => .cons h (FlL.app t h2)
theorem FlO.rep {α : Type} {F : α→AV} {x : AV} {z : α} (n : Nat) (h : FlL x.cells (F z).cells) : FlO (.cells (AaI (List.replicate n x))) (.cells (AaI (List.map F (List.replicate n z)))):=by
 refine FlO.mk ?_
 induction n with
 | zero=>exact .nil
 | succ n ih =>
  rw [List.replicate_succ,List.replicate_succ,List.map_cons,AeD,AeD]
  exact h.app ih
def AnD {α β : Type} [BEq α] (l : List (α×β)) (k : α) : List (α×β) :=
 match mgI l k with
 | some j=>l.eraseIdx j
 | none=>l
theorem Al4 {α β : Type} (f : α→β) : ∀ (l : List α) (j : Nat),(l.map f).eraseIdx j=(l.eraseIdx j).map f
 | [],_=>rfl
 | a::l,0=>rfl
 | a::l,j+1=>by simp [List.eraseIdx,Al4 f l j]
@[simp] theorem AvV {β : Type} (k k' : IntKind) (g : β→AV) (l : List (Int×β)) (i : Int) : Akq (mpA (.int k) g l) (.int k' i)=mpA (.int k) g (AnD l i):=by
 unfold Akq AnD
 rw [Aiq]
 cases mgI l i with
 | none=>rfl
 | some j=>exact Al4 _ l j
theorem ArO {α : Type} {F : α→AV} {es : Nat} (hF : ∀ x,(F x).cells.length=es) (L : List α) (z : α) {off len : Nat} (h : off+len≤L.length) :
 setR (AaI (L.map F)) (off*es) (AaI (List.replicate len (F z)))=AaI ((L.take off++List.replicate len z++L.drop (off+len)).map F):=by
 have hr : (AaI (List.replicate len (F z))).length=len*es:=by
  have:=AcK hF (List.replicate len z)
  rw [List.map_replicate,List.length_replicate] at this; exact this
 have hm : off*es+len*es≤L.length*es:=by rw [← Nat.add_mul]; exact Nat.mul_le_mul_right _ h
 have hd : ∀ n,n≤L.length→(AaI (L.map F)).drop (n*es)=AaI ((L.drop n).map F)∧(AaI (L.map F)).take (n*es)=AaI ((L.take n).map F):=by
  intro n hn
  have e : AaI (L.map F)=AaI ((L.take n).map F)++AaI ((L.drop n).map F):=by rw [← AdK,← List.map_append,List.take_append_drop]
  have hl : (AaI ((L.take n).map F)).length=n*es:=by rw [AcK hF,List.length_take,Nat.min_eq_left hn]
  rw [e]
  exact ⟨by rw [← hl,List.drop_left],by rw [← hl,List.take_left]⟩
 rw [AfC _ _ _ (by rw [hr,AcK hF]; exact hm),hr,← Nat.add_mul,(hd (off+len) h).1,(hd off (by omega)).2,List.map_append,List.map_append,AdK,AdK,List.map_replicate]
theorem Anj {α : Type} {F : α→AV} {es : Nat} (hF : ∀ x,(F x).cells.length=es) (L : List α) (z : α) {off : Nat} (h : off≤L.length) :
 setR (AaI (L.map F)) (off*es) (AaI (List.replicate (L.length-off) (F z)))=AaI ((L.take off++List.replicate (L.length-off) z).map F):=by
 rw [ArO hF L z (len:=L.length-off) (by omega),List.drop_eq_nil_of_le (by omega),List.append_nil]
theorem AmH {α : Type} {F : α→AV} {es : Nat} (hF : ∀ x,(F x).cells.length=es) (L : List α) {off len : Nat} (h : off+len≤L.length) :
 AaI (((L.drop off).take len).map F)=((AaI (L.map F)).drop (off*es)).take (len*es):=by
 have hl : (AaI ((L.take off).map F)).length=off*es:=by rw [AcK hF,List.length_take,Nat.min_eq_left (by omega)]
 have e : AaI (L.map F)=AaI ((L.take off).map F)++AaI ((L.drop off).map F):=by rw [← AdK,← List.map_append,List.take_append_drop]
 rw [e,← hl,List.drop_left]
 have hl2 : (AaI (((L.drop off).take len).map F)).length=len*es:=by rw [AcK hF,List.length_take,List.length_drop,Nat.min_eq_left (by omega)]
 have e2 : AaI ((L.drop off).map F)=AaI (((L.drop off).take len).map F)++AaI (((L.drop off).drop len).map F):=by rw [← AdK,← List.map_append,List.take_append_drop]
 rw [e2,← hl2,List.take_left]
theorem Ajz {α : Type} {F : α→AV} {es : Nat} (hF : ∀ x,(F x).cells.length=es) (L : List α) {len : Nat} (h : len≤L.length) :
 AaI ((L.take len).map F)=((AaI (L.map F)).drop (0*es)).take (len*es):=by
 have:=AmH hF L (off:=0) (len:=len) (by omega)
 simpa using this
theorem Aoy {α : Type} {F : α→AV} {es : Nat} (hF : ∀ x,(F x).cells.length=es) (L : List α) {off : Nat} (h : off≤L.length) :
 AaI ((L.drop off).map F)=((AaI (L.map F)).drop (off*es)).take ((L.length-off)*es):=by
 have:=AmH hF L (off:=off) (len:=L.length-off) (by omega)
 rwa [List.take_of_length_le (by rw [List.length_drop]; exact Nat.le_refl _)] at this
theorem Ank {α : Type} {F : α→AV} {es : Nat} (hF : ∀ x,(F x).cells.length=es) (L Y : List α) {off : Nat} (h : off+Y.length≤L.length) :
 setR (AaI (L.map F)) (off*es) (AaI (Y.map F))=AaI ((L.take off++Y++L.drop (off+Y.length)).map F):=by
 have hr : (AaI (Y.map F)).length=Y.length*es:=AcK hF Y
 have hm : off*es+Y.length*es≤L.length*es:=by rw [← Nat.add_mul]; exact Nat.mul_le_mul_right _ h
 have hd : ∀ n,n≤L.length→(AaI (L.map F)).drop (n*es)=AaI ((L.drop n).map F)∧(AaI (L.map F)).take (n*es)=AaI ((L.take n).map F):=by
  intro n hn
  have e : AaI (L.map F)=AaI ((L.take n).map F)++AaI ((L.drop n).map F):=by rw [← AdK,← List.map_append,List.take_append_drop]
  have hl : (AaI ((L.take n).map F)).length=n*es:=by rw [AcK hF,List.length_take,Nat.min_eq_left hn]
  rw [e]
  exact ⟨by rw [← hl,List.drop_left],by rw [← hl,List.take_left]⟩
 rw [AfC _ _ _ (by rw [hr,AcK hF]; exact hm),hr,← Nat.add_mul,(hd (off+Y.length) h).1,(hd off (by omega)).2,List.map_append,List.map_append,AdK,AdK]
theorem Aci {α : Type} {l : List α} (h : 0<l.length) : l≠[]:=by intro e; subst e; simp at h
theorem Ai5 {α : Type} {F : α→AV} (h : ∀ x,(F x).cells.length=1) (l : List α) : True:=trivial
end Go.Abs
