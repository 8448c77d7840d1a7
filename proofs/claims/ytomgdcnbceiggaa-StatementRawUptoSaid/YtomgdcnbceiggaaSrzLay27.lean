import Derived.Test.YtomgdcnbceiggaaSrzLay22
set_option linter.unusedVariables false
set_option linter.unusedSimpArgs false
namespace Go.Abs
open Go.RowKit (Below)
theorem AaD {l : List AV} {i : Nat} {x : Int} (h : Ad6 l=true) : Ad6 (l.set i (.int .u8 x))=true:=by
 rw [AmT] at h ⊢
 intro y hy
 rcases List.mem_or_eq_of_mem_set hy with h1 | h1
 ·exact h y h1
 ·exact ⟨x,h1⟩
def AqM (b : ByteArray) (i : Nat) (x : Int) : ByteArray:=⟨(b.data.toList.set i (UInt8.ofNat x.toNat)).toArray⟩
theorem AaJ (l : List AV) (i : Nat) (x : Int) : sOf (l.set i (.int .u8 x))=AqM (sOf l) i x:=by simp [sOf,AqM,ApB,List.map_set]
theorem AaK (l : List Int) (i : Nat) (x : Int) : ofI (l.set i x)=AqM (ofI l) i x:=by simp [ofI,AqM,List.map_set]
theorem Akd {α : Type} {F : α→AV} {S : Nat→Prop} (h : ∀ x,gdL S (F x).cells) (l : List α) : gdL S (AaW (l.map F)):=by
 refine (Alz _ _).2 fun y hy=>?_
 simp only [AaW,List.mem_flatMap,List.mem_map] at hy
 obtain ⟨z,⟨x,_,rfl⟩,hz⟩:=hy
 exact (Alz _ _).1 (h x) y hz
theorem Aix {α : Type} {F : α→AV} {σ : Nat→Nat} (h : ∀ x,AfW σ (F x).cells=(F x).cells) (l : List α) : AfW σ (AaW (l.map F))=AaW (l.map F):=by
 induction l with
 | nil=>rfl
 | cons x l ih =>
  rw [List.map_cons,AfM,Ajh,List.map_append,← Ajh,← Ajh,h,ih]
theorem AkW {α : Type} {F : α→AV} (h : ∀ x,(F x).cells.all AV.one=true) (l : List α) : (AaW (l.map F)).all AV.one=true:=by
 rw [List.all_eq_true]
 intro y hy
 simp only [AaW,List.mem_flatMap,List.mem_map] at hy
 obtain ⟨z,⟨x,_,rfl⟩,hz⟩:=hy
 exact List.all_eq_true.1 (h x) y hz
theorem FlL.app {a b c d : List AV} : FlL a b→FlL c d→FlL (a++c) (b++d)
 | .nil,h=>h
 | .cons h t,h2 => .cons h (FlL.app t h2)
theorem FlO.rep {α : Type} {F : α→AV} {x : AV} {z : α} (n : Nat) (h : FlL x.cells (F z).cells) : FlO (.cells (AaW (List.replicate n x))) (.cells (AaW (List.map F (List.replicate n z)))):=by
 refine FlO.mk ?_
 induction n with
 | zero=>exact .nil
 | succ n ih =>
  rw [List.replicate_succ,List.replicate_succ,List.map_cons,AfM,AfM]
  exact h.app ih
def As3 {α β : Type} [BEq α] (l : List (α×β)) (k : α) : List (α×β) :=
 match mgI l k with
 | some j=>l.eraseIdx j
 | none=>l
end Go.Abs
