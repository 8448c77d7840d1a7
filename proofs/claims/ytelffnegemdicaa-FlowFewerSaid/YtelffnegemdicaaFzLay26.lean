import Derived.Test.YtelffnegemdicaaFzLay22
set_option linter.unusedVariables false
set_option linter.unusedSimpArgs false
namespace Go.Abs
open Go.RowKit (Below)
theorem AaD {l : List AV} {i : Nat} {x : Int} (h : AeF l=true) : AeF (l.set i (.int .u8 x))=true:=by
 rw [Amd] at h ⊢
 intro y hy
 rcases List.mem_or_eq_of_mem_set hy with h1 | h1
 ·exact h y h1
 ·exact ⟨x,h1⟩
def AqV (b : ByteArray) (i : Nat) (x : Int) : ByteArray:=⟨(b.data.toList.set i (UInt8.ofNat x.toNat)).toArray⟩
theorem AaG (l : List AV) (i : Nat) (x : Int) : sOf (l.set i (.int .u8 x))=AqV (sOf l) i x:=by simp [sOf,AqV,AqR,List.map_set]
theorem AaH (l : List Int) (i : Nat) (x : Int) : ofI (l.set i x)=AqV (ofI l) i x:=by simp [ofI,AqV,List.map_set]
theorem AiI {α : Type} {F : α→AV} {S : Nat→Prop} (h : ∀ x,gdL S (F x).cells) (l : List α) : gdL S (AaL (l.map F)):=by
 refine (Adq _ _).2 fun y hy=>?_
 simp only [AaL,List.mem_flatMap,List.mem_map] at hy
 obtain ⟨z,⟨x,_,rfl⟩,hz⟩:=hy
 exact (Adq _ _).1 (h x) y hz
theorem Agi {α : Type} {F : α→AV} {σ : Nat→Nat} (h : ∀ x,Adg σ (F x).cells=(F x).cells) (l : List α) : Adg σ (AaL (l.map F))=AaL (l.map F):=by
 induction l with
 | nil=>rfl
 | cons x l ih =>
  rw [List.map_cons,AdQ,AfM,List.map_append,← AfM,← AfM,h,ih]
theorem AfN {α : Type} {F : α→AV} (h : ∀ x,Ach (F x).cells=true) (l : List α) : Ach (AaL (l.map F))=true:=by
 rw [AhV,List.all_eq_true]
 intro y hy
 simp only [AaL,List.mem_flatMap,List.mem_map] at hy
 obtain ⟨z,⟨x,_,rfl⟩,hz⟩:=hy
 have:=h x
 rw [AhV,List.all_eq_true] at this
 exact this y hz
theorem Arb {b : ByteArray} {n : Nat} {v : Int} (h : (bI b)[n]? = some v) : (((b.data.toList.getD n 0).toNat : Nat) : Int)=v:=by
 unfold bI at h
 rw [List.getElem?_map] at h
 rw [List.getD_eq_getElem?_getD]
 cases hh : b.data.toList[n]? with
 | none=>rw [hh] at h; cases h
 | some x=>rw [hh] at h; simpa using h
@[simp↓] theorem Aqh {β : Type} (k : IntKind) (g : β→AV) (l : List (Int×β)) : ((mpA (.int k) g l).all fun p=>(Abj.int k).has p.1)=true:=AoM k g l
@[simp] theorem Apj (σ : Nat→Nat) (k : IntKind) (k2 : IntKind) (l : List (Int×Int)) : AfT σ (.mp (mpA (AV.int k) (AV.int k2) l)) = .mp (mpA (AV.int k) (AV.int k2) l):=AkU σ _ _ l (fun _=>by simp) (fun _=>by simp)
@[simp] theorem Apl (S : Nat→Prop) (k : IntKind) (k2 : IntKind) (l : List (Int×Int)) : gdO S (.mp (mpA (AV.int k) (AV.int k2) l))↔True:=Al8 S _ _ l (fun _=>by simp) (fun _=>by simp)
@[simp] theorem ArJ (σ : Nat→Nat) (k : IntKind) (k2 : IntKind) (l : List (Int×Int)) (i : Int) (v : Int) : AfT σ (.mp (Ady (mpA (AV.int k) (AV.int k2) l) (AV.int k i) (AV.int k2 v))) = .mp (Ady (mpA (AV.int k) (AV.int k2) l) (AV.int k i) (AV.int k2 v)):=by
 have h:=Apj σ k k2 (AgC l i v)
 rw [Ah9] at h; exact h
@[simp] theorem ArK (S : Nat→Prop) (k : IntKind) (k2 : IntKind) (l : List (Int×Int)) (i : Int) (v : Int) : gdO S (.mp (Ady (mpA (AV.int k) (AV.int k2) l) (AV.int k i) (AV.int k2 v)))↔True:=by
 have h:=Apl S k k2 (AgC l i v)
 rw [Ah9] at h; exact h
theorem Ah7 {α : Type} {F : α→AV} (h : ∀ x,(F x).cells.all AV.one=true) (l : List α) : (AaL (l.map F)).all AV.one=true:=by
 rw [List.all_eq_true]
 intro y hy
 simp only [AaL,List.mem_flatMap,List.mem_map] at hy
 obtain ⟨z,⟨x,_,rfl⟩,hz⟩:=hy
 exact List.all_eq_true.1 (h x) y hz
theorem FlL.app {a b c d : List AV} : FlL a b→FlL c d→FlL (a++c) (b++d)
 | .nil,h=>h
 | .cons h t,h2 => .cons h (FlL.app t h2)
theorem FlO.rep {α : Type} {F : α→AV} {x : AV} {z : α} (n : Nat) (h : FlL x.cells (F z).cells) : FlO (.cells (AaL (List.replicate n x))) (.cells (AaL (List.map F (List.replicate n z)))):=by
 refine FlO.mk ?_
 induction n with
 | zero=>exact .nil
 | succ n ih =>
  rw [List.replicate_succ,List.replicate_succ,List.map_cons,AdQ,AdQ]
  exact h.app ih
def Apr {α β : Type} [BEq α] (l : List (α×β)) (k : α) : List (α×β) :=
 match mgI l k with
 | some j=>l.eraseIdx j
 | none=>l
theorem Ai5 {α β : Type} (f : α→β) : ∀ (l : List α) (j : Nat),(l.map f).eraseIdx j=(l.eraseIdx j).map f
 | [],_=>rfl
 | a::l,0=>rfl
 | a::l,j+1=>by simp [List.eraseIdx,Ai5 f l j]
@[simp] theorem Apm {β : Type} (k k' : IntKind) (g : β→AV) (l : List (Int×β)) (i : Int) : Ah8 (mpA (.int k) g l) (.int k' i)=mpA (.int k) g (Apr l i):=by
 unfold Ah8 Apr
 rw [Ago]
 cases mgI l i with
 | none=>rfl
 | some j=>exact Ai5 _ l j
theorem Ams {α : Type} {F : α→AV} {es : Nat} (hF : ∀ x,(F x).cells.length=es) (L : List α) (z : α) {off len : Nat} (h : off+len≤L.length) :
 setR (AaL (L.map F)) (off*es) (AaL (List.replicate len (F z)))=AaL ((L.take off++List.replicate len z++L.drop (off+len)).map F):=by
 have hr : (AaL (List.replicate len (F z))).length=len*es:=by
  have:=Ab5 hF (List.replicate len z)
  rw [List.map_replicate,List.length_replicate] at this; exact this
 have hm : off*es+len*es≤L.length*es:=by rw [← Nat.add_mul]; exact Nat.mul_le_mul_right _ h
 have hd : ∀ n,n≤L.length→(AaL (L.map F)).drop (n*es)=AaL ((L.drop n).map F)∧(AaL (L.map F)).take (n*es)=AaL ((L.take n).map F):=by
  intro n hn
  have e : AaL (L.map F)=AaL ((L.take n).map F)++AaL ((L.drop n).map F):=by rw [← Acx,← List.map_append,List.take_append_drop]
  have hl : (AaL ((L.take n).map F)).length=n*es:=by rw [Ab5 hF,List.length_take,Nat.min_eq_left hn]
  rw [e]
  exact ⟨by rw [← hl,List.drop_left],by rw [← hl,List.take_left]⟩
 rw [AeY _ _ _ (by rw [hr,Ab5 hF]; exact hm),hr,← Nat.add_mul,(hd (off+len) h).1,(hd off (by omega)).2,List.map_append,List.map_append,Acx,Acx,List.map_replicate]
theorem AkP {α : Type} {F : α→AV} {es : Nat} (hF : ∀ x,(F x).cells.length=es) (L : List α) (z : α) {off : Nat} (h : off≤L.length) :
 setR (AaL (L.map F)) (off*es) (AaL (List.replicate (L.length-off) (F z)))=AaL ((L.take off++List.replicate (L.length-off) z).map F):=by
 rw [Ams hF L z (len:=L.length-off) (by omega),List.drop_eq_nil_of_le (by omega),List.append_nil]
theorem AjE {α : Type} {F : α→AV} {es : Nat} (hF : ∀ x,(F x).cells.length=es) (L : List α) {off len : Nat} (h : off+len≤L.length) :
 AaL (((L.drop off).take len).map F)=((AaL (L.map F)).drop (off*es)).take (len*es):=by
 have hl : (AaL ((L.take off).map F)).length=off*es:=by rw [Ab5 hF,List.length_take,Nat.min_eq_left (by omega)]
 have e : AaL (L.map F)=AaL ((L.take off).map F)++AaL ((L.drop off).map F):=by rw [← Acx,← List.map_append,List.take_append_drop]
 rw [e,← hl,List.drop_left]
 have hl2 : (AaL (((L.drop off).take len).map F)).length=len*es:=by rw [Ab5 hF,List.length_take,List.length_drop,Nat.min_eq_left (by omega)]
 have e2 : AaL ((L.drop off).map F)=AaL (((L.drop off).take len).map F)++AaL (((L.drop off).drop len).map F):=by rw [← Acx,← List.map_append,List.take_append_drop]
 rw [e2,← hl2,List.take_left]
theorem AhX {α : Type} {F : α→AV} {es : Nat} (hF : ∀ x,(F x).cells.length=es) (L : List α) {len : Nat} (h : len≤L.length) :
 AaL ((L.take len).map F)=((AaL (L.map F)).drop (0*es)).take (len*es):=by
 have:=AjE hF L (off:=0) (len:=len) (by omega)
 simpa using this
theorem AlF {α : Type} {F : α→AV} {es : Nat} (hF : ∀ x,(F x).cells.length=es) (L : List α) {off : Nat} (h : off≤L.length) :
 AaL ((L.drop off).map F)=((AaL (L.map F)).drop (off*es)).take ((L.length-off)*es):=by
 have:=AjE hF L (off:=off) (len:=L.length-off) (by omega)
 rwa [List.take_of_length_le (by rw [List.length_drop]; exact Nat.le_refl _)] at this
theorem AkQ {α : Type} {F : α→AV} {es : Nat} (hF : ∀ x,(F x).cells.length=es) (L Y : List α) {off : Nat} (h : off+Y.length≤L.length) :
 setR (AaL (L.map F)) (off*es) (AaL (Y.map F))=AaL ((L.take off++Y++L.drop (off+Y.length)).map F):=by
 have hr : (AaL (Y.map F)).length=Y.length*es:=Ab5 hF Y
 have hm : off*es+Y.length*es≤L.length*es:=by rw [← Nat.add_mul]; exact Nat.mul_le_mul_right _ h
 have hd : ∀ n,n≤L.length→(AaL (L.map F)).drop (n*es)=AaL ((L.drop n).map F)∧(AaL (L.map F)).take (n*es)=AaL ((L.take n).map F):=by
  intro n hn
  have e : AaL (L.map F)=AaL ((L.take n).map F)++AaL ((L.drop n).map F):=by rw [← Acx,← List.map_append,List.take_append_drop]
  have hl : (AaL ((L.take n).map F)).length=n*es:=by rw [Ab5 hF,List.length_take,Nat.min_eq_left hn]
  rw [e]
  exact ⟨by rw [← hl,List.drop_left],by rw [← hl,List.take_left]⟩
 rw [AeY _ _ _ (by rw [hr,Ab5 hF]; exact hm),hr,← Nat.add_mul,(hd (off+Y.length) h).1,(hd off (by omega)).2,List.map_append,List.map_append,Acx,Acx]
theorem AcR {α : Type} {l : List α} (h : 0<l.length) : l≠[]:=by intro e; subst e; simp at h
theorem Agw {α : Type} {F : α→AV} (h : ∀ x,(F x).cells.length=1) (l : List α) : True:=trivial
end Go.Abs
