import Derived.Test.YtelffnegemdicaaPczLay22
set_option linter.unusedVariables false
set_option linter.unusedSimpArgs false
namespace Go.Abs
open Go.RowKit (Below)
theorem AaC {l : List AV} {i : Nat} {x : Int} (h : AeR l=true) : AeR (l.set i (.int .u8 x))=true:=by
 rw [AmM] at h ⊢
 intro y hy
 rcases List.mem_or_eq_of_mem_set hy with h1 | h1
 ·exact h y h1
 ·exact ⟨x,h1⟩
def Aqo (b : ByteArray) (i : Nat) (x : Int) : ByteArray:=⟨(b.data.toList.set i (UInt8.ofNat x.toNat)).toArray⟩
theorem AaE (l : List AV) (i : Nat) (x : Int) : sOf (l.set i (.int .u8 x))=Aqo (sOf l) i x:=by simp [sOf,Aqo,Aqk,List.map_set]
theorem AaF (l : List Int) (i : Nat) (x : Int) : ofI (l.set i x)=Aqo (ofI l) i x:=by simp [ofI,Aqo,List.map_set]
theorem Aii {α : Type} {F : α→AV} {S : Nat→Prop} (h : ∀ x,gdL S (F x).cells) (l : List α) : gdL S (AaM (l.map F)):=by
 refine (Ad5 _ _).2 fun y hy=>?_
 simp only [AaM,List.mem_flatMap,List.mem_map] at hy
 obtain ⟨z,⟨x,_,rfl⟩,hz⟩:=hy
 exact (Ad5 _ _).1 (h x) y hz
theorem Ag8 {α : Type} {F : α→AV} {σ : Nat→Nat} (h : ∀ x,Adl σ (F x).cells=(F x).cells) (l : List α) : Adl σ (AaM (l.map F))=AaM (l.map F):=by
 induction l with
 | nil=>rfl
 | cons x l ih =>
  rw [List.map_cons,Adm,AgR,List.map_append,← AgR,← AgR,h,ih]
theorem Afk {α : Type} {F : α→AV} (h : ∀ x,Acw (F x).cells=true) (l : List α) : Acw (AaM (l.map F))=true:=by
 rw [Ahv,List.all_eq_true]
 intro y hy
 simp only [AaM,List.mem_flatMap,List.mem_map] at hy
 obtain ⟨z,⟨x,_,rfl⟩,hz⟩:=hy
 have:=h x
 rw [Ahv,List.all_eq_true] at this
 exact this y hz
theorem AsF {b : ByteArray} {n : Nat} {v : Int} (h : (bI b)[n]? = some v) : (((b.data.toList.getD n 0).toNat : Nat) : Int)=v:=by
 unfold bI at h
 rw [List.getElem?_map] at h
 rw [List.getD_eq_getElem?_getD]
 cases hh : b.data.toList[n]? with
 | none=>rw [hh] at h; cases h
 | some x=>rw [hh] at h; simpa using h
@[simp↓] theorem Aq2 {β : Type} (k : IntKind) (g : β→AV) (l : List (Int×β)) : ((mpA (.int k) g l).all fun p=>(Abk.int k).has p.1)=true:=AoT k g l
theorem Alt {es : List (AV×AV)} {k v : AV} {p : AV×AV} (h : p ∈ AcZ es k v) : p ∈ es∨p=(k,v):=by
 unfold AcZ at h
 split at h
 ·exact List.mem_or_eq_of_mem_set h
 ·simpa using h
@[simp] theorem Apx (σ : Nat→Nat) (k : IntKind) (k2 : IntKind) (l : List (Int×Int)) : AdY σ (.mp (mpA (AV.int k) (AV.int k2) l)) = .mp (mpA (AV.int k) (AV.int k2) l):=Agm σ _ _ l (fun _=>by simp) (fun _=>by simp)
@[simp] theorem Ap0 (S : Nat→Prop) (k : IntKind) (k2 : IntKind) (l : List (Int×Int)) : gdO S (.mp (mpA (AV.int k) (AV.int k2) l))↔True:=Aig S _ _ l (fun _=>by simp) (fun _=>by simp)
@[simp] theorem Arq (σ : Nat→Nat) (k : IntKind) (k2 : IntKind) (l : List (Int×Int)) (i : Int) (v : Int) : AdY σ (.mp (AcZ (mpA (AV.int k) (AV.int k2) l) (AV.int k i) (AV.int k2 v))) = .mp (AcZ (mpA (AV.int k) (AV.int k2) l) (AV.int k i) (AV.int k2 v)):=by
 have h:=Apx σ k k2 (AbE l i v)
 rw [AgT] at h; exact h
@[simp] theorem Art (S : Nat→Prop) (k : IntKind) (k2 : IntKind) (l : List (Int×Int)) (i : Int) (v : Int) : gdO S (.mp (AcZ (mpA (AV.int k) (AV.int k2) l) (AV.int k i) (AV.int k2 v)))↔True:=by
 have h:=Ap0 S k k2 (AbE l i v)
 rw [AgT] at h; exact h
@[simp] theorem Apy (σ : Nat→Nat) (k : IntKind) (l : List (Int×Bool)) : AdY σ (.mp (mpA (AV.int k) AV.bool l)) = .mp (mpA (AV.int k) AV.bool l):=Agm σ _ _ l (fun _=>by simp) (fun _=>by simp)
@[simp] theorem Ap1 (S : Nat→Prop) (k : IntKind) (l : List (Int×Bool)) : gdO S (.mp (mpA (AV.int k) AV.bool l))↔True:=Aig S _ _ l (fun _=>by simp) (fun _=>by simp)
@[simp] theorem Arr (σ : Nat→Nat) (k : IntKind) (l : List (Int×Bool)) (i : Int) (v : Bool) : AdY σ (.mp (AcZ (mpA (AV.int k) AV.bool l) (AV.int k i) (AV.bool v))) = .mp (AcZ (mpA (AV.int k) AV.bool l) (AV.int k i) (AV.bool v)):=by
 have h:=Apy σ k (AbE l i v)
 rw [AgT] at h; exact h
@[simp] theorem Aru (S : Nat→Prop) (k : IntKind) (l : List (Int×Bool)) (i : Int) (v : Bool) : gdO S (.mp (AcZ (mpA (AV.int k) AV.bool l) (AV.int k i) (AV.bool v)))↔True:=by
 have h:=Ap1 S k (AbE l i v)
 rw [AgT] at h; exact h
@[simp] theorem Aro (σ : Nat→Nat) (k : IntKind) (k2 : IntKind) (l : List (Int×(List Int))) : AdY σ (.mp (mpA (AV.int k) (sl (AV.int k2)) l)) = .mp (mpA (AV.int k) (sl (AV.int k2)) l):=Agm σ _ _ l (fun _=>by simp) (fun _=>by simp)
@[simp] theorem Arv (S : Nat→Prop) (k : IntKind) (k2 : IntKind) (l : List (Int×(List Int))) : gdO S (.mp (mpA (AV.int k) (sl (AV.int k2)) l))↔True:=Aig S _ _ l (fun _=>by simp) (fun _=>by simp)
theorem AiU {α : Type} {F : α→AV} (h : ∀ x,(F x).cells.all AV.one=true) (l : List α) : (AaM (l.map F)).all AV.one=true:=by
 rw [List.all_eq_true]
 intro y hy
 simp only [AaM,List.mem_flatMap,List.mem_map] at hy
 obtain ⟨z,⟨x,_,rfl⟩,hz⟩:=hy
 exact List.all_eq_true.1 (h x) y hz
theorem FlL.app {a b c d : List AV} : FlL a b→FlL c d→FlL (a++c) (b++d)
 | .nil,h=>h
 | .cons h t,h2 => .cons h (FlL.app t h2)
theorem FlO.rep {α : Type} {F : α→AV} {x : AV} {z : α} (n : Nat) (h : FlL x.cells (F z).cells) : FlO (.cells (AaM (List.replicate n x))) (.cells (AaM (List.map F (List.replicate n z)))):=by
 refine FlO.mk ?_
 induction n with
 | zero=>exact .nil
 | succ n ih =>
  rw [List.replicate_succ,List.replicate_succ,List.map_cons,Adm,Adm]
  exact h.app ih
def Aki {α β : Type} [BEq α] (l : List (α×β)) (k : α) : List (α×β) :=
 match mgI l k with
 | some j=>l.eraseIdx j
 | none=>l
theorem AjN {α β : Type} (f : α→β) : ∀ (l : List α) (j : Nat),(l.map f).eraseIdx j=(l.eraseIdx j).map f
 | [],_=>rfl
 | a::l,0=>rfl
 | a::l,j+1=>by simp [List.eraseIdx,AjN f l j]
@[simp] theorem Ap2 {β : Type} (k k' : IntKind) (g : β→AV) (l : List (Int×β)) (i : Int) : AiX (mpA (.int k) g l) (.int k' i)=mpA (.int k) g (Aki l i):=by
 unfold AiX Aki
 rw [AhF]
 cases mgI l i with
 | none=>rfl
 | some j=>exact AjN _ l j
theorem Ama {α : Type} {F : α→AV} {es : Nat} (hF : ∀ x,(F x).cells.length=es) (L : List α) (z : α) {off len : Nat} (h : off+len≤L.length) :
 setR (AaM (L.map F)) (off*es) (AaM (List.replicate len (F z)))=AaM ((L.take off++List.replicate len z++L.drop (off+len)).map F):=by
 have hr : (AaM (List.replicate len (F z))).length=len*es:=by
  have:=Ace hF (List.replicate len z)
  rw [List.map_replicate,List.length_replicate] at this; exact this
 have hm : off*es+len*es≤L.length*es:=by rw [← Nat.add_mul]; exact Nat.mul_le_mul_right _ h
 have hd : ∀ n,n≤L.length→(AaM (L.map F)).drop (n*es)=AaM ((L.drop n).map F)∧(AaM (L.map F)).take (n*es)=AaM ((L.take n).map F):=by
  intro n hn
  have e : AaM (L.map F)=AaM ((L.take n).map F)++AaM ((L.drop n).map F):=by rw [← AeH,← List.map_append,List.take_append_drop]
  have hl : (AaM ((L.take n).map F)).length=n*es:=by rw [Ace hF,List.length_take,Nat.min_eq_left hn]
  rw [e]
  exact ⟨by rw [← hl,List.drop_left],by rw [← hl,List.take_left]⟩
 rw [Afc _ _ _ (by rw [hr,Ace hF]; exact hm),hr,← Nat.add_mul,(hd (off+len) h).1,(hd off (by omega)).2,List.map_append,List.map_append,AeH,AeH,List.map_replicate]
theorem AkW {α : Type} {F : α→AV} {es : Nat} (hF : ∀ x,(F x).cells.length=es) (L : List α) (z : α) {off : Nat} (h : off≤L.length) :
 setR (AaM (L.map F)) (off*es) (AaM (List.replicate (L.length-off) (F z)))=AaM ((L.take off++List.replicate (L.length-off) z).map F):=by
 rw [Ama hF L z (len:=L.length-off) (by omega),List.drop_eq_nil_of_le (by omega),List.append_nil]
theorem AjX {α : Type} {F : α→AV} {es : Nat} (hF : ∀ x,(F x).cells.length=es) (L : List α) {off len : Nat} (h : off+len≤L.length) :
 AaM (((L.drop off).take len).map F)=((AaM (L.map F)).drop (off*es)).take (len*es):=by
 have hl : (AaM ((L.take off).map F)).length=off*es:=by rw [Ace hF,List.length_take,Nat.min_eq_left (by omega)]
 have e : AaM (L.map F)=AaM ((L.take off).map F)++AaM ((L.drop off).map F):=by rw [← AeH,← List.map_append,List.take_append_drop]
 rw [e,← hl,List.drop_left]
 have hl2 : (AaM (((L.drop off).take len).map F)).length=len*es:=by rw [Ace hF,List.length_take,List.length_drop,Nat.min_eq_left (by omega)]
 have e2 : AaM ((L.drop off).map F)=AaM (((L.drop off).take len).map F)++AaM (((L.drop off).drop len).map F):=by rw [← AeH,← List.map_append,List.take_append_drop]
 rw [e2,← hl2,List.take_left]
theorem Ahx {α : Type} {F : α→AV} {es : Nat} (hF : ∀ x,(F x).cells.length=es) (L : List α) {len : Nat} (h : len≤L.length) :
 AaM ((L.take len).map F)=((AaM (L.map F)).drop (0*es)).take (len*es):=by
 have:=AjX hF L (off:=0) (len:=len) (by omega)
 simpa using this
theorem AlL {α : Type} {F : α→AV} {es : Nat} (hF : ∀ x,(F x).cells.length=es) (L : List α) {off : Nat} (h : off≤L.length) :
 AaM ((L.drop off).map F)=((AaM (L.map F)).drop (off*es)).take ((L.length-off)*es):=by
 have:=AjX hF L (off:=off) (len:=L.length-off) (by omega)
 rwa [List.take_of_length_le (by rw [List.length_drop]; exact Nat.le_refl _)] at this
@[simp] theorem Aob (S : Nat→Prop) (n : Nat) (k k' k'' : IntKind) (x y : Int) (l : List Int) : gdL S ((l.map (AV.int k)++[AV.int k' y]).set n (AV.int k'' x))↔True:=iff_true_intro (Aih (by simp) (by simp))
theorem Ac6 {α : Type} {l : List α} (h : 0<l.length) : l≠[]:=by intro e; subst e; simp at h
theorem AhL {α : Type} {F : α→AV} (h : ∀ x,(F x).cells.length=1) (l : List α) : True:=trivial
end Go.Abs
