import Derived.Test.YthiodjlppahmkaaGreatExtLay22
set_option linter.unusedVariables false
set_option linter.unusedSimpArgs false
namespace Go.Abs
open Go.RowKit (Below)
theorem Aur {k : IntKind} {n : Int} (h : (Lit.int k n).wf=true) : InR k n:=by
 simp only [Lit.wf,Bool.and_eq_true,decide_eq_true_eq] at h
 exact h
abbrev Aq1 (w : World) : Cx:=⟨fun b=>b<w.heap.size,fun _ => .unused,w.heap⟩
theorem At7 {w : World} {x : Addr} {v : Value} (h : w.cell? x=some v) : x.spot=none∧x.block<w.heap.size∧Aa6 w.heap x.block x.off=some v:=by
 unfold World.cell? at h
 split at h
 ·rename_i c T fr hb
  split at h
  ·cases h
  ·rename_i hs
   refine ⟨by simpa using hs,(Array.getElem?_eq_some_iff.1 hb).1,?_⟩
   simp [Aa6,hb,h]
 ·cases h
theorem AcX.all (w : World) : AcX (Aq1 w) (fun i=>([] : List AaZ)[i]?) w where
 heap:=rfl
 obj:=fun id b x y h=>by cases h
 emp:=fun id h=>by cases h
 non:=fun id _ _=>by simp
 inj:=fun i j b x y x' y' h=>by cases h
 sep:=fun i b x y h=>by cases h
 zlt:=fun b h=>h
 fin:=⟨0,fun i _=>rfl⟩
theorem Aeu.below {w w' : World} {c' : Cx} (g : Aeu (Aq1 w) w c' w') : Below w.heap.size w w' where
 os:=g.os
 tape:=g.tape
 output:=g.output
 size:=g.size
 block:=fun b hb=>g.keep b hb (fun id x y h=>by cases h)
theorem Aab.use {P : Program} {f : FuncId} {args : List AV} {b : Bool} (h : Aab P f args [] (.bool b) []) (w : World) (vs : Array Value) (hr : AaD (Aq1 w) args vs.toList) :
 Calls P f vs w fun e w'=>e = .returned (.bool b)∧Below w.heap.size w w' :=
 (h.call (Aq1 w) w vs (AcX.all w) (fun i _=>rfl) hr).mono fun e w' ⟨v,c',H',h1,h2,h3,h4,h5⟩=>by
  simp only [Rep] at h4
  subst h4
  exact ⟨h1,h5.below⟩
end Go.Abs
