import Derived.Test.YtelffnegemdicaaMdtLay25
set_option linter.unusedVariables false
set_option linter.unusedSimpArgs false
namespace Go.Abs
theorem Aov {α : Type} {P : Program} {t e : TypeId} {n : Nat} {f : α→AV} (ht : P.underlying t=some (.array n e)) (hc : P.cellsOf e=1) (hct : P.cellsOf t=n) (he : Aet P e 1 f) (h1 : ∀ a,(f a).one=true) : Aet P t n (fun l : {l : List α // l.length=n} => AV.agg (l.1.map f)):=by
 intro H enc w fuel cs x hx
 obtain ⟨xs,m,_,_,hl,hxl,hel⟩:=DataW.trod_array ht hx
 rw [hct] at hl
 refine ⟨hl,?_⟩
 have build : ∀ k,k≤n→∃ zs : List α,zs.length=k∧AaF (AmN w) (zs.map f) (cs.take k):=by
  intro k
  induction k with
  | zero=>intro _; exact ⟨[],rfl,by simp [AaF]⟩
  | succ k ih =>
   intro hk
   obtain ⟨zs,z1,z2⟩:=ih (by omega)
   have h2:=hel k (by omega)
   rw [hc,Nat.mul_one,List.getElem?_eq_getElem (by omega)] at h2
   obtain ⟨_,z,h4⟩:=he enc w m _ _ h2
   obtain ⟨u,h5,h6,_⟩:=h4.one (h1 z)
   refine ⟨zs++[z],by simp [z1],?_⟩
   have e : cs.take (k+1)=cs.take k++[u]:=by rw [← h5]; exact List.take_add
   rw [e,List.map_append]
   exact z2.append (by simp [AaF,h6])
 obtain ⟨zs,z1,z2⟩:=build n (Nat.le_refl _)
 rw [List.take_of_length_le (by omega)] at z2
 exact ⟨⟨zs,z1⟩,.inr ⟨_,rfl⟩,by simpa [AV.cells] using z2⟩
theorem Aet.aggA {α : Type} {P : Program} {t u : TypeId} {n m : Nat} {e : α→AV} (h : Aet P t n e) (ht : P.underlying t=some (.array m u)) (hg : ∀ a,∃ ys,e a = .agg ys) {H : Type} {enc : TypeId×Value→H} {w w0 : World} {r : Reach} {base : Nat} {v : Value} {d : DataW H} {ps : List MemPlace}
 (hv : Value.okWide P w0 r base t v) (hx : DataW.Trod enc P w 0 (fun _=>true) true t v d ps) : ∃ a,Rep (AmN w) (e a) v:=by
 obtain ⟨cs,rfl⟩ : ∃ cs,v = .agg cs:=by
  simp only [Value.okWide,ht] at hv
  obtain ⟨cs,h1,_⟩:=hv
  exact ⟨cs,h1⟩
 obtain ⟨fuel,hx⟩:=hx
 obtain ⟨_,a,ha⟩:=h enc w fuel _ _ hx
 have:=ha.agg (hg a)
 exact ⟨a,by simpa [Value.cells] using this⟩
end Go.Abs
