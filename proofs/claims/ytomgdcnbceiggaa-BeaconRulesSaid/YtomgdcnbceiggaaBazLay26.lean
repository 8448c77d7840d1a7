import Derived.Test.YtomgdcnbceiggaaBazLay22
set_option linter.unusedVariables false
set_option linter.unusedSimpArgs false
namespace Go.Abs
open Go.RowKit (Below)
theorem AaA {l : List AV} {i : Nat} {x : Int} (h : Ac4 l=true) : Ac4 (l.set i (.int .u8 x))=true:=by
 rw [Akd] at h ⊢
 intro y hy
 rcases List.mem_or_eq_of_mem_set hy with h1 | h1
 ·exact h y h1
 ·exact ⟨x,h1⟩
def Ao9 (b : ByteArray) (i : Nat) (x : Int) : ByteArray:=⟨(b.data.toList.set i (UInt8.ofNat x.toNat)).toArray⟩
theorem AaC (l : List AV) (i : Nat) (x : Int) : sOf (l.set i (.int .u8 x))=Ao9 (sOf l) i x:=by simp [sOf,Ao9,AnH,List.map_set]
theorem AaD (l : List Int) (i : Nat) (x : Int) : ofI (l.set i x)=Ao9 (ofI l) i x:=by simp [ofI,Ao9,List.map_set]
theorem AqN {b : ByteArray} {n : Nat} {v : Int} (h : (bI b)[n]? = some v) : (((b.data.toList.getD n 0).toNat : Nat) : Int)=v:=by
 unfold bI at h
 rw [List.getElem?_map] at h
 rw [List.getD_eq_getElem?_getD]
 cases hh : b.data.toList[n]? with
 | none=>rw [hh] at h; cases h
 | some x=>rw [hh] at h; simpa using h
theorem FlL.app {a b c d : List AV} : FlL a b→FlL c d→FlL (a++c) (b++d)
 | .nil,h=>h
 | .cons h t,h2 => .cons h (FlL.app t h2)
theorem FlO.rep {α : Type} {F : α→AV} {x : AV} {z : α} (n : Nat) (h : FlL x.cells (F z).cells) : FlO (.cells (Aag (List.replicate n x))) (.cells (Aag (List.map F (List.replicate n z)))):=by
 refine FlO.mk ?_
 induction n with
 | zero=>exact .nil
 | succ n ih =>
  rw [List.replicate_succ,List.replicate_succ,List.map_cons,AgQ,AgQ]
  exact h.app ih
def AsE {α β : Type} [BEq α] (l : List (α×β)) (k : α) : List (α×β) :=
 match mgI l k with
 | some j=>l.eraseIdx j
 | none=>l
end Go.Abs
