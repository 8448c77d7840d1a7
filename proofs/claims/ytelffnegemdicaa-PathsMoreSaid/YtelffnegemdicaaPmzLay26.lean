import Derived.Test.YtelffnegemdicaaPmzLay22
set_option linter.unusedVariables false
set_option linter.unusedSimpArgs false
namespace Go.Abs
open Go.RowKit (Below)
theorem AaR {l : List AV} {i : Nat} {x : Int} (h : AeC l=true) : AeC (l.set i (.int .u8 x))=true:=by
 rw [AmE] at h ⊢
 intro y hy
 rcases List.mem_or_eq_of_mem_set hy with h1 | h1
 ·exact h y h1
 ·exact ⟨x,h1⟩
def Apu (b : ByteArray) (i : Nat) (x : Int) : ByteArray:=⟨(b.data.toList.set i (UInt8.ofNat x.toNat)).toArray⟩
theorem Aaj (l : List AV) (i : Nat) (x : Int) : sOf (l.set i (.int .u8 x))=Apu (sOf l) i x:=by simp [sOf,Apu,Apq,List.map_set]
theorem Aak (l : List Int) (i : Nat) (x : Int) : ofI (l.set i x)=Apu (ofI l) i x:=by simp [ofI,Apu,List.map_set]
theorem AiA {α : Type} {F : α→AV} {S : Nat→Prop} (h : ∀ x,gdL S (F x).cells) (l : List α) : gdL S (AaK (l.map F)):=by
 refine (Adq _ _).2 fun y hy=>?_
 simp only [AaK,List.mem_flatMap,List.mem_map] at hy
 obtain ⟨z,⟨x,_,rfl⟩,hz⟩:=hy
 exact (Adq _ _).1 (h x) y hz
theorem Agi {α : Type} {F : α→AV} {σ : Nat→Nat} (h : ∀ x,Adg σ (F x).cells=(F x).cells) (l : List α) : Adg σ (AaK (l.map F))=AaK (l.map F):=by
 induction l with
 | nil=>rfl
 | cons x l ih =>
  rw [List.map_cons,AdS,Af2,List.map_append,← Af2,← Af2,h,ih]
theorem AfG {α : Type} {F : α→AV} (h : ∀ x,Aci (F x).cells=true) (l : List α) : Aci (AaK (l.map F))=true:=by
 rw [AhP,List.all_eq_true]
 intro y hy
 simp only [AaK,List.mem_flatMap,List.mem_map] at hy
 obtain ⟨z,⟨x,_,rfl⟩,hz⟩:=hy
 have:=h x
 rw [AhP,List.all_eq_true] at this
 exact this y hz
theorem ArB {b : ByteArray} {n : Nat} {v : Int} (h : (bI b)[n]? = some v) : (((b.data.toList.getD n 0).toNat : Nat) : Int)=v:=by
 unfold bI at h
 rw [List.getElem?_map] at h
 rw [List.getD_eq_getElem?_getD]
 cases hh : b.data.toList[n]? with
 | none=>rw [hh] at h; cases h
 | some x=>rw [hh] at h; simpa using h
@[simp↓] theorem Ap7 {β : Type} (k : IntKind) (g : β→AV) (l : List (Int×β)) : ((mpA (.int k) g l).all fun p=>(AbY.int k).has p.1)=true:=Ano k g l
theorem Alb {es : List (AV×AV)} {k v : AV} {p : AV×AV} (h : p ∈ AcP es k v) : p ∈ es∨p=(k,v):=by
 unfold AcP at h
 split at h
 ·exact List.mem_or_eq_of_mem_set h
 ·simpa using h
@[simp] theorem ApA (σ : Nat→Nat) (k : IntKind) (k2 : IntKind) (l : List (Int×Int)) : AdH σ (.mp (mpA (AV.int k) (AV.int k2) l)) = .mp (mpA (AV.int k) (AV.int k2) l):=AgO σ _ _ l (fun _=>by simp) (fun _=>by simp)
@[simp] theorem ApD (S : Nat→Prop) (k : IntKind) (k2 : IntKind) (l : List (Int×Int)) : gdO S (.mp (mpA (AV.int k) (AV.int k2) l))↔True:=Ah9 S _ _ l (fun _=>by simp) (fun _=>by simp)
@[simp] theorem Aqm (σ : Nat→Nat) (k : IntKind) (k2 : IntKind) (l : List (Int×Int)) (i : Int) (v : Int) : AdH σ (.mp (AcP (mpA (AV.int k) (AV.int k2) l) (AV.int k i) (AV.int k2 v))) = .mp (AcP (mpA (AV.int k) (AV.int k2) l) (AV.int k i) (AV.int k2 v)):=by
 have h:=ApA σ k k2 (AbF l i v)
 rw [Af4] at h; exact h
@[simp] theorem Aqp (S : Nat→Prop) (k : IntKind) (k2 : IntKind) (l : List (Int×Int)) (i : Int) (v : Int) : gdO S (.mp (AcP (mpA (AV.int k) (AV.int k2) l) (AV.int k i) (AV.int k2 v)))↔True:=by
 have h:=ApD S k k2 (AbF l i v)
 rw [Af4] at h; exact h
@[simp] theorem ApB (σ : Nat→Nat) (k : IntKind) (l : List (Int×Bool)) : AdH σ (.mp (mpA (AV.int k) AV.bool l)) = .mp (mpA (AV.int k) AV.bool l):=AgO σ _ _ l (fun _=>by simp) (fun _=>by simp)
@[simp] theorem ApE (S : Nat→Prop) (k : IntKind) (l : List (Int×Bool)) : gdO S (.mp (mpA (AV.int k) AV.bool l))↔True:=Ah9 S _ _ l (fun _=>by simp) (fun _=>by simp)
@[simp] theorem Aqn (σ : Nat→Nat) (k : IntKind) (l : List (Int×Bool)) (i : Int) (v : Bool) : AdH σ (.mp (AcP (mpA (AV.int k) AV.bool l) (AV.int k i) (AV.bool v))) = .mp (AcP (mpA (AV.int k) AV.bool l) (AV.int k i) (AV.bool v)):=by
 have h:=ApB σ k (AbF l i v)
 rw [Af4] at h; exact h
@[simp] theorem Aqq (S : Nat→Prop) (k : IntKind) (l : List (Int×Bool)) (i : Int) (v : Bool) : gdO S (.mp (AcP (mpA (AV.int k) AV.bool l) (AV.int k i) (AV.bool v)))↔True:=by
 have h:=ApE S k (AbF l i v)
 rw [Af4] at h; exact h
@[simp] theorem Aqk (σ : Nat→Nat) (k : IntKind) (k2 : IntKind) (l : List (Int×(List Int))) : AdH σ (.mp (mpA (AV.int k) (sl (AV.int k2)) l)) = .mp (mpA (AV.int k) (sl (AV.int k2)) l):=AgO σ _ _ l (fun _=>by simp) (fun _=>by simp)
@[simp] theorem Aqr (S : Nat→Prop) (k : IntKind) (k2 : IntKind) (l : List (Int×(List Int))) : gdO S (.mp (mpA (AV.int k) (sl (AV.int k2)) l))↔True:=Ah9 S _ _ l (fun _=>by simp) (fun _=>by simp)
theorem Ahy {α : Type} {F : α→AV} (h : ∀ x,(F x).cells.all AV.one=true) (l : List α) : (AaK (l.map F)).all AV.one=true:=by
 rw [List.all_eq_true]
 intro y hy
 simp only [AaK,List.mem_flatMap,List.mem_map] at hy
 obtain ⟨z,⟨x,_,rfl⟩,hz⟩:=hy
 exact List.all_eq_true.1 (h x) y hz
theorem FlL.app {a b c d : List AV} : FlL a b→FlL c d→FlL (a++c) (b++d)
 | .nil,h=>h
 | .cons h t,h2 => .cons h (FlL.app t h2)
theorem FlO.rep {α : Type} {F : α→AV} {x : AV} {z : α} (n : Nat) (h : FlL x.cells (F z).cells) : FlO (.cells (AaK (List.replicate n x))) (.cells (AaK (List.map F (List.replicate n z)))):=by
 refine FlO.mk ?_
 induction n with
 | zero=>exact .nil
 | succ n ih =>
  rw [List.replicate_succ,List.replicate_succ,List.map_cons,AdS,AdS]
  exact h.app ih
def ApI {α β : Type} [BEq α] (l : List (α×β)) (k : α) : List (α×β) :=
 match mgI l k with
 | some j=>l.eraseIdx j
 | none=>l
theorem Aip {α β : Type} (f : α→β) : ∀ (l : List α) (j : Nat),(l.map f).eraseIdx j=(l.eraseIdx j).map f
 | [],_=>rfl
 | a::l,0=>rfl
 | a::l,j+1=>by simp [List.eraseIdx,Aip f l j]
@[simp] theorem ApF {β : Type} (k k' : IntKind) (g : β→AV) (l : List (Int×β)) (i : Int) : Ah0 (mpA (.int k) g l) (.int k' i)=mpA (.int k) g (ApI l i):=by
 unfold Ah0 ApI
 rw [Ago]
 cases mgI l i with
 | none=>rfl
 | some j=>exact Aip _ l j
theorem AmQ {α : Type} {F : α→AV} {es : Nat} (hF : ∀ x,(F x).cells.length=es) (L : List α) (z : α) {off len : Nat} (h : off+len≤L.length) :
 setR (AaK (L.map F)) (off*es) (AaK (List.replicate len (F z)))=AaK ((L.take off++List.replicate len z++L.drop (off+len)).map F):=by
 have hr : (AaK (List.replicate len (F z))).length=len*es:=by
  have:=AcR hF (List.replicate len z)
  rw [List.map_replicate,List.length_replicate] at this; exact this
 have hm : off*es+len*es≤L.length*es:=by rw [← Nat.add_mul]; exact Nat.mul_le_mul_right _ h
 have hd : ∀ n,n≤L.length→(AaK (L.map F)).drop (n*es)=AaK ((L.drop n).map F)∧(AaK (L.map F)).take (n*es)=AaK ((L.take n).map F):=by
  intro n hn
  have e : AaK (L.map F)=AaK ((L.take n).map F)++AaK ((L.drop n).map F):=by rw [← Adz,← List.map_append,List.take_append_drop]
  have hl : (AaK ((L.take n).map F)).length=n*es:=by rw [AcR hF,List.length_take,Nat.min_eq_left hn]
  rw [e]
  exact ⟨by rw [← hl,List.drop_left],by rw [← hl,List.take_left]⟩
 rw [AfA _ _ _ (by rw [hr,AcR hF]; exact hm),hr,← Nat.add_mul,(hd (off+len) h).1,(hd off (by omega)).2,List.map_append,List.map_append,Adz,Adz,List.map_replicate]
theorem Aj4 {α : Type} {F : α→AV} {es : Nat} (hF : ∀ x,(F x).cells.length=es) (L : List α) (z : α) {off : Nat} (h : off≤L.length) :
 setR (AaK (L.map F)) (off*es) (AaK (List.replicate (L.length-off) (F z)))=AaK ((L.take off++List.replicate (L.length-off) z).map F):=by
 rw [AmQ hF L z (len:=L.length-off) (by omega),List.drop_eq_nil_of_le (by omega),List.append_nil]
theorem Aix {α : Type} {F : α→AV} {es : Nat} (hF : ∀ x,(F x).cells.length=es) (L : List α) {off len : Nat} (h : off+len≤L.length) :
 AaK (((L.drop off).take len).map F)=((AaK (L.map F)).drop (off*es)).take (len*es):=by
 have hl : (AaK ((L.take off).map F)).length=off*es:=by rw [AcR hF,List.length_take,Nat.min_eq_left (by omega)]
 have e : AaK (L.map F)=AaK ((L.take off).map F)++AaK ((L.drop off).map F):=by rw [← Adz,← List.map_append,List.take_append_drop]
 rw [e,← hl,List.drop_left]
 have hl2 : (AaK (((L.drop off).take len).map F)).length=len*es:=by rw [AcR hF,List.length_take,List.length_drop,Nat.min_eq_left (by omega)]
 have e2 : AaK ((L.drop off).map F)=AaK (((L.drop off).take len).map F)++AaK (((L.drop off).drop len).map F):=by rw [← Adz,← List.map_append,List.take_append_drop]
 rw [e2,← hl2,List.take_left]
theorem AhR {α : Type} {F : α→AV} {es : Nat} (hF : ∀ x,(F x).cells.length=es) (L : List α) {len : Nat} (h : len≤L.length) :
 AaK ((L.take len).map F)=((AaK (L.map F)).drop (0*es)).take (len*es):=by
 have:=Aix hF L (off:=0) (len:=len) (by omega)
 simpa using this
theorem Akr {α : Type} {F : α→AV} {es : Nat} (hF : ∀ x,(F x).cells.length=es) (L : List α) {off : Nat} (h : off≤L.length) :
 AaK ((L.drop off).map F)=((AaK (L.map F)).drop (off*es)).take ((L.length-off)*es):=by
 have:=Aix hF L (off:=off) (len:=L.length-off) (by omega)
 rwa [List.take_of_length_le (by rw [List.length_drop]; exact Nat.le_refl _)] at this
theorem Acr {α : Type} {l : List α} (h : 0<l.length) : l≠[]:=by intro e; subst e; simp at h
theorem Ags {α : Type} {F : α→AV} (h : ∀ x,(F x).cells.length=1) (l : List α) : True:=trivial
end Go.Abs
