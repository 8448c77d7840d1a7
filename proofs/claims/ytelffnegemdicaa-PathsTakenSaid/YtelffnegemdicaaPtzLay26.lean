import Derived.Test.YtelffnegemdicaaPtzLay22
set_option linter.unusedVariables false
set_option linter.unusedSimpArgs false
namespace Go.Abs
open Go.RowKit (Below)
theorem AaK {l : List AV} {i : Nat} {x : Int} (h : AeQ l=true) : AeQ (l.set i (.int .u8 x))=true:=by
 rw [Am0] at h ⊢
 intro y hy
 rcases List.mem_or_eq_of_mem_set hy with h1 | h1
 ·exact h y h1
 ·exact ⟨x,h1⟩
def ArM (b : ByteArray) (i : Nat) (x : Int) : ByteArray:=⟨(b.data.toList.set i (UInt8.ofNat x.toNat)).toArray⟩
theorem AaR (l : List AV) (i : Nat) (x : Int) : sOf (l.set i (.int .u8 x))=ArM (sOf l) i x:=by simp [sOf,ArM,ArI,List.map_set]
theorem AaS (l : List Int) (i : Nat) (x : Int) : ofI (l.set i x)=ArM (ofI l) i x:=by simp [ofI,ArM,List.map_set]
theorem Aid {α : Type} {F : α→AV} {S : Nat→Prop} (h : ∀ x,gdL S (F x).cells) (l : List α) : gdL S (AaJ (l.map F)):=by
 refine (Ad2 _ _).2 fun y hy=>?_
 simp only [AaJ,List.mem_flatMap,List.mem_map] at hy
 obtain ⟨z,⟨x,_,rfl⟩,hz⟩:=hy
 exact (Ad2 _ _).1 (h x) y hz
theorem Agw {α : Type} {F : α→AV} {σ : Nat→Nat} (h : ∀ x,Adl σ (F x).cells=(F x).cells) (l : List α) : Adl σ (AaJ (l.map F))=AaJ (l.map F):=by
 induction l with
 | nil=>rfl
 | cons x l ih =>
  rw [List.map_cons,Adg,AgF,List.map_append,← AgF,← AgF,h,ih]
theorem AfU {α : Type} {F : α→AV} (h : ∀ x,Acq (F x).cells=true) (l : List α) : Acq (AaJ (l.map F))=true:=by
 rw [Aho,List.all_eq_true]
 intro y hy
 simp only [AaJ,List.mem_flatMap,List.mem_map] at hy
 obtain ⟨z,⟨x,_,rfl⟩,hz⟩:=hy
 have:=h x
 rw [Aho,List.all_eq_true] at this
 exact this y hz
theorem Asi {b : ByteArray} {n : Nat} {v : Int} (h : (bI b)[n]? = some v) : (((b.data.toList.getD n 0).toNat : Nat) : Int)=v:=by
 unfold bI at h
 rw [List.getElem?_map] at h
 rw [List.getD_eq_getElem?_getD]
 cases hh : b.data.toList[n]? with
 | none=>rw [hh] at h; cases h
 | some x=>rw [hh] at h; simpa using h
@[simp↓] theorem Ara {β : Type} (k : IntKind) (g : β→AV) (l : List (Int×β)) : ((mpA (.int k) g l).all fun p=>(Abj.int k).has p.1)=true:=Ao1 k g l
theorem AmP {es : List (AV×AV)} {k v : AV} {p : AV×AV} (h : p ∈ AcW es k v) : p ∈ es∨p=(k,v):=by
 unfold AcW at h
 split at h
 ·exact List.mem_or_eq_of_mem_set h
 ·simpa using h
@[simp] theorem Aqd (σ : Nat→Nat) (k : IntKind) (k2 : IntKind) (l : List (Int×Int)) : AdX σ (.mp (mpA (AV.int k) (AV.int k2) l)) = .mp (mpA (AV.int k) (AV.int k2) l):=Aga σ _ _ l (fun _=>by simp) (fun _=>by simp)
@[simp] theorem Aqg (S : Nat→Prop) (k : IntKind) (k2 : IntKind) (l : List (Int×Int)) : gdO S (.mp (mpA (AV.int k) (AV.int k2) l))↔True:=Aic S _ _ l (fun _=>by simp) (fun _=>by simp)
@[simp] theorem AsH (σ : Nat→Nat) (k : IntKind) (k2 : IntKind) (l : List (Int×Int)) (i : Int) (v : Int) : AdX σ (.mp (AcW (mpA (AV.int k) (AV.int k2) l) (AV.int k i) (AV.int k2 v))) = .mp (AcW (mpA (AV.int k) (AV.int k2) l) (AV.int k i) (AV.int k2 v)):=by
 have h:=Aqd σ k k2 (AbC l i v)
 rw [AgH] at h; exact h
@[simp] theorem AsK (S : Nat→Prop) (k : IntKind) (k2 : IntKind) (l : List (Int×Int)) (i : Int) (v : Int) : gdO S (.mp (AcW (mpA (AV.int k) (AV.int k2) l) (AV.int k i) (AV.int k2 v)))↔True:=by
 have h:=Aqg S k k2 (AbC l i v)
 rw [AgH] at h; exact h
@[simp] theorem Aqe (σ : Nat→Nat) (k : IntKind) (l : List (Int×Bool)) : AdX σ (.mp (mpA (AV.int k) AV.bool l)) = .mp (mpA (AV.int k) AV.bool l):=Aga σ _ _ l (fun _=>by simp) (fun _=>by simp)
@[simp] theorem Aqh (S : Nat→Prop) (k : IntKind) (l : List (Int×Bool)) : gdO S (.mp (mpA (AV.int k) AV.bool l))↔True:=Aic S _ _ l (fun _=>by simp) (fun _=>by simp)
@[simp] theorem AsI (σ : Nat→Nat) (k : IntKind) (l : List (Int×Bool)) (i : Int) (v : Bool) : AdX σ (.mp (AcW (mpA (AV.int k) AV.bool l) (AV.int k i) (AV.bool v))) = .mp (AcW (mpA (AV.int k) AV.bool l) (AV.int k i) (AV.bool v)):=by
 have h:=Aqe σ k (AbC l i v)
 rw [AgH] at h; exact h
@[simp] theorem AsL (S : Nat→Prop) (k : IntKind) (l : List (Int×Bool)) (i : Int) (v : Bool) : gdO S (.mp (AcW (mpA (AV.int k) AV.bool l) (AV.int k i) (AV.bool v)))↔True:=by
 have h:=Aqh S k (AbC l i v)
 rw [AgH] at h; exact h
@[simp] theorem AsF (σ : Nat→Nat) (k : IntKind) (k2 : IntKind) (l : List (Int×(List Int))) : AdX σ (.mp (mpA (AV.int k) (sl (AV.int k2)) l)) = .mp (mpA (AV.int k) (sl (AV.int k2)) l):=Aga σ _ _ l (fun _=>by simp) (fun _=>by simp)
@[simp] theorem AsM (S : Nat→Prop) (k : IntKind) (k2 : IntKind) (l : List (Int×(List Int))) : gdO S (.mp (mpA (AV.int k) (sl (AV.int k2)) l))↔True:=Aic S _ _ l (fun _=>by simp) (fun _=>by simp)
theorem AiN {α : Type} {F : α→AV} (h : ∀ x,(F x).cells.all AV.one=true) (l : List α) : (AaJ (l.map F)).all AV.one=true:=by
 rw [List.all_eq_true]
 intro y hy
 simp only [AaJ,List.mem_flatMap,List.mem_map] at hy
 obtain ⟨z,⟨x,_,rfl⟩,hz⟩:=hy
 exact List.all_eq_true.1 (h x) y hz
theorem FlL.app {a b c d : List AV} : FlL a b→FlL c d→FlL (a++c) (b++d)
 | .nil,h=>h
 | .cons h t,h2 => .cons h (FlL.app t h2)
theorem FlO.rep {α : Type} {F : α→AV} {x : AV} {z : α} (n : Nat) (h : FlL x.cells (F z).cells) : FlO (.cells (AaJ (List.replicate n x))) (.cells (AaJ (List.map F (List.replicate n z)))):=by
 refine FlO.mk ?_
 induction n with
 | zero=>exact .nil
 | succ n ih =>
  rw [List.replicate_succ,List.replicate_succ,List.map_cons,Adg,Adg]
  exact h.app ih
def Akr {α β : Type} [BEq α] (l : List (α×β)) (k : α) : List (α×β) :=
 match mgI l k with
 | some j=>l.eraseIdx j
 | none=>l
theorem AjL {α β : Type} (f : α→β) : ∀ (l : List α) (j : Nat),(l.map f).eraseIdx j=(l.eraseIdx j).map f
 | [],_=>rfl
 | a::l,0=>rfl
 | a::l,j+1=>by simp [List.eraseIdx,AjL f l j]
@[simp] theorem Aqi {β : Type} (k k' : IntKind) (g : β→AV) (l : List (Int×β)) (i : Int) : AiS (mpA (.int k) g l) (.int k' i)=mpA (.int k) g (Akr l i):=by
 unfold AiS Akr
 rw [Ag4]
 cases mgI l i with
 | none=>rfl
 | some j=>exact AjL _ l j
theorem AnE {α : Type} {F : α→AV} {es : Nat} (hF : ∀ x,(F x).cells.length=es) (L : List α) (z : α) {off len : Nat} (h : off+len≤L.length) :
 setR (AaJ (L.map F)) (off*es) (AaJ (List.replicate len (F z)))=AaJ ((L.take off++List.replicate len z++L.drop (off+len)).map F):=by
 have hr : (AaJ (List.replicate len (F z))).length=len*es:=by
  have:=AcQ hF (List.replicate len z)
  rw [List.map_replicate,List.length_replicate] at this; exact this
 have hm : off*es+len*es≤L.length*es:=by rw [← Nat.add_mul]; exact Nat.mul_le_mul_right _ h
 have hd : ∀ n,n≤L.length→(AaJ (L.map F)).drop (n*es)=AaJ ((L.drop n).map F)∧(AaJ (L.map F)).take (n*es)=AaJ ((L.take n).map F):=by
  intro n hn
  have e : AaJ (L.map F)=AaJ ((L.take n).map F)++AaJ ((L.drop n).map F):=by rw [← AeD,← List.map_append,List.take_append_drop]
  have hl : (AaJ ((L.take n).map F)).length=n*es:=by rw [AcQ hF,List.length_take,Nat.min_eq_left hn]
  rw [e]
  exact ⟨by rw [← hl,List.drop_left],by rw [← hl,List.take_left]⟩
 rw [AfP _ _ _ (by rw [hr,AcQ hF]; exact hm),hr,← Nat.add_mul,(hd (off+len) h).1,(hd off (by omega)).2,List.map_append,List.map_append,AeD,AeD,List.map_replicate]
theorem Akh {α : Type} {F : α→AV} {es : Nat} (hF : ∀ x,(F x).cells.length=es) (L : List α) (z : α) {off : Nat} (h : off≤L.length) :
 setR (AaJ (L.map F)) (off*es) (AaJ (List.replicate (L.length-off) (F z)))=AaJ ((L.take off++List.replicate (L.length-off) z).map F):=by
 rw [AnE hF L z (len:=L.length-off) (by omega),List.drop_eq_nil_of_le (by omega),List.append_nil]
theorem AjW {α : Type} {F : α→AV} {es : Nat} (hF : ∀ x,(F x).cells.length=es) (L : List α) {off len : Nat} (h : off+len≤L.length) :
 AaJ (((L.drop off).take len).map F)=((AaJ (L.map F)).drop (off*es)).take (len*es):=by
 have hl : (AaJ ((L.take off).map F)).length=off*es:=by rw [AcQ hF,List.length_take,Nat.min_eq_left (by omega)]
 have e : AaJ (L.map F)=AaJ ((L.take off).map F)++AaJ ((L.drop off).map F):=by rw [← AeD,← List.map_append,List.take_append_drop]
 rw [e,← hl,List.drop_left]
 have hl2 : (AaJ (((L.drop off).take len).map F)).length=len*es:=by rw [AcQ hF,List.length_take,List.length_drop,Nat.min_eq_left (by omega)]
 have e2 : AaJ ((L.drop off).map F)=AaJ (((L.drop off).take len).map F)++AaJ (((L.drop off).drop len).map F):=by rw [← AeD,← List.map_append,List.take_append_drop]
 rw [e2,← hl2,List.take_left]
theorem Ahq {α : Type} {F : α→AV} {es : Nat} (hF : ∀ x,(F x).cells.length=es) (L : List α) {len : Nat} (h : len≤L.length) :
 AaJ ((L.take len).map F)=((AaJ (L.map F)).drop (0*es)).take (len*es):=by
 have:=AjW hF L (off:=0) (len:=len) (by omega)
 simpa using this
theorem Ala {α : Type} {F : α→AV} {es : Nat} (hF : ∀ x,(F x).cells.length=es) (L : List α) {off : Nat} (h : off≤L.length) :
 AaJ ((L.drop off).map F)=((AaJ (L.map F)).drop (off*es)).take ((L.length-off)*es):=by
 have:=AjW hF L (off:=off) (len:=L.length-off) (by omega)
 rwa [List.take_of_length_le (by rw [List.length_drop]; exact Nat.le_refl _)] at this
theorem Ac0 {α : Type} {l : List α} (h : 0<l.length) : l≠[]:=by intro e; subst e; simp at h
theorem AhA {α : Type} {F : α→AV} (h : ∀ x,(F x).cells.length=1) (l : List α) : True:=trivial
end Go.Abs
