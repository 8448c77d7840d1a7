import Derived.Test.YtomgdcnbceiggaaSrzLay22
set_option linter.unusedVariables false
set_option linter.unusedSimpArgs false
namespace Go.Abs
mutual
def Fit : AV→Prop
 | .int k n=>InR k n
 | .str s=>s.size≤maxLen
 | .lst _ _ xs=>xs.length≤maxLen∧Aoh xs
 | .agg xs=>Aoh xs
 | _=>True
def Aoh : List AV→Prop
 | []=>True
 | x::xs=>Fit x∧Aoh xs
end
mutual
theorem Rep.fit {c : Cx} : ∀ {x : AV} {v : Value},Rep c x v→Fit x
 | .int k n,v,h=>by simp only [Rep] at h; exact h.2
 | .str s,v,h=>by simp only [Rep] at h; exact h.2
 | .lst nl fl xs,v,h=>by
  simp only [Rep] at h
  rcases h with ⟨rfl,_⟩ | ⟨_,a,b,off,cap,es,vs,_,h1,h2,_,_,_,h3⟩
  ·exact ⟨Nat.zero_le _,trivial⟩
  ·exact ⟨by have:=h3.length; omega,AaB.fit h3⟩
 | .agg xs,v,h=>by
  simp only [Rep] at h
  obtain ⟨vs,_,h1⟩:=h
  exact AaB.fit (xs:=xs) h1
 | .undef,_,_ | .skip,_,_ | .bool _,_,_ | .cptr _,_,_ | .ptr _ _,_,_ | .nilptr,_,_ | .slc _ _ _ _ _,_,_ | .tup _,_,_ | .fn _ _,_,_ | .nilfn,_,_ | .map _,_,_ | .nilmap,_,_ | .ifc _ _,_,_ | .nilifc,_,_ | .nn _,_,_=>by simp [Fit]
theorem AaB.fit {c : Cx} : ∀ {xs : List AV} {vs : List Value},AaB c xs vs→Aoh xs
 | [],_,_=>trivial
 | x::xs,vs,h=>by
  simp only [AaB] at h
  obtain ⟨v,rest,_,h1,h2⟩:=h
  exact ⟨h1.fit,AaB.fit h2⟩
end
theorem Akg {α : Type} {f : α→AV} : ∀ {l : List α},Aoh (l.map f)↔∀ x ∈ l,Fit (f x)
 | []=>by simp [Aoh]
 | a::l=>by simp [Aoh,Akg (l:=l)]
theorem Fit.ints {k : IntKind} {nl fl : Bool} {l : List Int} (h : Fit (.lst nl fl (l.map (AV.int k)))) : l.length≤maxLen∧∀ x ∈ l,InR k x:=by
 simp only [Fit,List.length_map] at h
 exact ⟨h.1,fun x hx=>by have:=Akg.1 h.2 x hx; simpa [Fit] using this⟩
theorem InR.i64 {n : Int} (h : InR .i64 n) : -9223372036854775808≤n∧n≤9223372036854775807:=by
 simpa [InR,IntKind.min,IntKind.max,IntKind.bits,IntKind.signed] using h
theorem InR.u8 {n : Int} (h : InR .u8 n) : 0≤n∧n≤255:=by
 simpa [InR,IntKind.min,IntKind.max,IntKind.bits,IntKind.signed] using h
end Go.Abs
