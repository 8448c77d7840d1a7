import Derived.Test.YthiodjlppahmkaaGreatExtLay22
set_option linter.unusedVariables false
set_option linter.unusedSimpArgs false
namespace Go.Abs
mutual
def Fit : AV→Prop
 | .int k n=>InR k n
 | .str s=>s.size≤maxLen
 | .lst _ _ xs=>xs.length≤maxLen∧Aw0 xs
 | .agg xs=>Aw0 xs
 | _=>True
def Aw0 : List AV→Prop
 | []=>True
 | x::xs=>Fit x∧Aw0 xs
end
mutual
theorem Rep.fit {c : Cx} : ∀ {x : AV} {v : Value},Rep c x v→Fit x
 | .int k n,v,h=>by simp only [Rep] at h; exact h.2
 | .str s,v,h=>by simp only [Rep] at h; exact h.2
 | .lst nl fl xs,v,h=>by
  simp only [Rep] at h
  rcases h with ⟨rfl,_⟩ | ⟨_,a,b,off,cap,es,vs,_,h1,h2,_,_,_,h3⟩
  ·exact ⟨Nat.zero_le _,trivial⟩
  ·exact ⟨by have:=h3.length; omega,AaD.fit h3⟩
 | .agg xs,v,h=>by
  simp only [Rep] at h
  obtain ⟨vs,_,h1⟩:=h
  exact AaD.fit (xs:=xs) h1
 | .undef,_,_ | .skip,_,_ | .bool _,_,_ | .cptr _,_,_ | .ptr _ _,_,_ | .nilptr,_,_ | .slc _ _ _ _ _,_,_ | .tup _,_,_ | .fn _ _,_,_ | .nilfn,_,_ | .map _,_,_ | .nilmap,_,_ | .ifc _ _,_,_ | .nilifc,_,_ | .nn _,_,_ | .rm _,_,_=>by simp [Fit]
theorem AaD.fit {c : Cx} : ∀ {xs : List AV} {vs : List Value},AaD c xs vs→Aw0 xs
 | [],_,_=>trivial
 | x::xs,vs,h=>by
  simp only [AaD] at h
  obtain ⟨v,rest,_,h1,h2⟩:=h
  exact ⟨h1.fit,AaD.fit h2⟩
end
theorem InR.i64 {n : Int} (h : InR .i64 n) : -9223372036854775808≤n∧n≤9223372036854775807:=by
 simpa [InR,IntKind.min,IntKind.max,IntKind.bits,IntKind.signed] using h
theorem InR.u8 {n : Int} (h : InR .u8 n) : 0≤n∧n≤255:=by
 simpa [InR,IntKind.min,IntKind.max,IntKind.bits,IntKind.signed] using h
end Go.Abs
