import Derived.Test.YtomgdcnbceiggaaSmtLay22
set_option linter.unusedVariables false
set_option linter.unusedSimpArgs false
namespace Go.Abs
open Go.RowKit (Below)
theorem AaA {l : List AV} {i : Nat} {x : Int} (h : AeO l=true) : AeO (l.set i (.int .u8 x))=true:=by
 rw [AnC] at h ⊢
 intro y hy
 rcases List.mem_or_eq_of_mem_set hy with h1 | h1
 ·exact h y h1
 ·exact ⟨x,h1⟩
def Aq7 (b : ByteArray) (i : Nat) (x : Int) : ByteArray:=⟨(b.data.toList.set i (UInt8.ofNat x.toNat)).toArray⟩
theorem AaB (l : List AV) (i : Nat) (x : Int) : sOf (l.set i (.int .u8 x))=Aq7 (sOf l) i x:=by simp [sOf,Aq7,ApT,List.map_set]
theorem AaC (l : List Int) (i : Nat) (x : Int) : ofI (l.set i x)=Aq7 (ofI l) i x:=by simp [ofI,Aq7,List.map_set]
theorem AlF {α : Type} {F : α→AV} {S : Nat→Prop} (h : ∀ x,gdL S (F x).cells) (l : List α) : gdL S (AaM (l.map F)):=by
 refine (Amd _ _).2 fun y hy=>?_
 simp only [AaM,List.mem_flatMap,List.mem_map] at hy
 obtain ⟨z,⟨x,_,rfl⟩,hz⟩:=hy
 exact (Amd _ _).1 (h x) y hz
theorem Aje {α : Type} {F : α→AV} {σ : Nat→Nat} (h : ∀ x,Afv σ (F x).cells=(F x).cells) (l : List α) : Afv σ (AaM (l.map F))=AaM (l.map F):=by
 induction l with
 | nil=>rfl
 | cons x l ih =>
  rw [List.map_cons,Aet,AkQ,List.map_append,← AkQ,← AkQ,h,ih]
theorem Akh {α : Type} {F : α→AV} (h : ∀ x,Adx (F x).cells=true) (l : List α) : Adx (AaM (l.map F))=true:=by
 rw [AiU,List.all_eq_true]
 intro y hy
 simp only [AaM,List.mem_flatMap,List.mem_map] at hy
 obtain ⟨z,⟨x,_,rfl⟩,hz⟩:=hy
 have:=h x
 rw [AiU,List.all_eq_true] at this
 exact this y hz
theorem AlA {α : Type} {F : α→AV} (h : ∀ x,(F x).cells.all AV.one=true) (l : List α) : (AaM (l.map F)).all AV.one=true:=by
 rw [List.all_eq_true]
 intro y hy
 simp only [AaM,List.mem_flatMap,List.mem_map] at hy
 obtain ⟨z,⟨x,_,rfl⟩,hz⟩:=hy
 exact List.all_eq_true.1 (h x) y hz
theorem FlL.app {a b c d : List AV} : FlL a b→FlL c d→FlL (a++c) (b++d)
 | .nil,h=>h
 | .cons h t,h2 => .cons h (FlL.app t h2)
theorem FlO.rep {α : Type} {F : α→AV} {x : AV} {z : α} (n : Nat) (h : FlL x.cells (F z).cells) : FlO (.cells (AaM (List.replicate n x))) (.cells (AaM (List.map F (List.replicate n z)))):=by
 refine FlO.mk ?_
 induction n with
 | zero=>exact .nil
 | succ n ih =>
  rw [List.replicate_succ,List.replicate_succ,List.map_cons,Aet,Aet]
  exact h.app ih
def Atn {α β : Type} [BEq α] (l : List (α×β)) (k : α) : List (α×β) :=
 match mgI l k with
 | some j=>l.eraseIdx j
 | none=>l
theorem Amf {α : Type} {F : α→AV} {es : Nat} (hF : ∀ x,(F x).cells.length=es) (L : List α) {off len : Nat} (h : off+len≤L.length) :
 AaM (((L.drop off).take len).map F)=((AaM (L.map F)).drop (off*es)).take (len*es):=by
 have hl : (AaM ((L.take off).map F)).length=off*es:=by rw [Afn hF,List.length_take,Nat.min_eq_left (by omega)]
 have e : AaM (L.map F)=AaM ((L.take off).map F)++AaM ((L.drop off).map F):=by rw [← Aj5,← List.map_append,List.take_append_drop]
 rw [e,← hl,List.drop_left]
 have hl2 : (AaM (((L.drop off).take len).map F)).length=len*es:=by rw [Afn hF,List.length_take,List.length_drop,Nat.min_eq_left (by omega)]
 have e2 : AaM ((L.drop off).map F)=AaM (((L.drop off).take len).map F)++AaM (((L.drop off).drop len).map F):=by rw [← Aj5,← List.map_append,List.take_append_drop]
 rw [e2,← hl2,List.take_left]
theorem AiW {α : Type} {F : α→AV} {es : Nat} (hF : ∀ x,(F x).cells.length=es) (L : List α) {len : Nat} (h : len≤L.length) :
 AaM ((L.take len).map F)=((AaM (L.map F)).drop (0*es)).take (len*es):=by
 have:=Amf hF L (off:=0) (len:=len) (by omega)
 simpa using this
theorem Aj4 {α : Type} {F : α→AV} (h : ∀ x,(F x).cells.length=1) (l : List α) : True:=trivial
end Go.Abs
