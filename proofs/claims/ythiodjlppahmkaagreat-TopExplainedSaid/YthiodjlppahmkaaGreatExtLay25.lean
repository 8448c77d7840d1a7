import Derived.Test.YthiodjlppahmkaaGreatExtLay23
import Derived.Test.YthiodjlppahmkaaGreatExtLay24
import Derived.ChangeArms
import Derived.OpenShut
import Derived.WideShapes
set_option linter.unusedVariables false
set_option linter.unusedSimpArgs false
namespace Go.Abs
open Go.RowKit (Below)
def AuH (c : Cx) (x : AV) (cs : List Value) : Prop:=(x.one=true∨∃ ys,x = .agg ys)∧AaD c x.cells cs
theorem AuH.agg {c : Cx} {x : AV} {cs : List Value} (h : AuH c x cs) (ha : ∃ ys,x = .agg ys) : Rep c x (.agg cs.toArray):=by
 obtain ⟨ys,rfl⟩:=ha
 simp only [Rep]
 exact ⟨_,rfl,h.2⟩
theorem AV.cells_one {x : AV} (h : x.one=true) : x.cells = [x]:=by cases x <;> simp_all [AV.one,AV.cells]
theorem AuH.one {c : Cx} {x : AV} {cs : List Value} (h : AuH c x cs) (ha : x.one=true) : ∃ u,cs = [u]∧Rep c x u∧u.cells = #[u]:=by
 obtain ⟨_,h2⟩:=h
 rw [AV.cells_one ha] at h2
 simp only [AaD] at h2
 obtain ⟨v,rest,rfl,h3,rfl⟩:=h2
 exact ⟨v,rfl,h3,Ac8 (h3.oneCell ha)⟩
theorem AuH.value {c : Cx} {x : AV} {cs : List Value} (h : AuH c x cs) : ∃ v : Value,v.cells.toList=cs∧Rep c x v:=by
 rcases h.1 with h1 | h1
 ·obtain ⟨u,rfl,h2,h3⟩:=h.one h1
  exact ⟨u,by rw [h3],h2⟩
 ·exact ⟨.agg cs.toArray,rfl,h.agg h1⟩
def Ahm {α : Type} (P : Program) (t : TypeId) (n : Nat) (e : α→AV) : Prop :=
 ∀ {H : Type} (enc : TypeId×Value→H) (w : World) (fuel : Nat) (cs : List Value) (x : DataW H×List MemPlace),DataW.trod enc P w 0 (fun _=>true) true fuel t cs=some x→cs.length=n∧∃ a,AuH (Aq1 w) (e a) cs
theorem AvL {P : Program} {t : TypeId} {k : IntKind} (ht : P.underlying t=some (.int k)) : Ahm P t 1 (fun n : Int=>AV.int k n):=by
 intro H enc w fuel cs x h
 obtain ⟨n,rfl,_,hw⟩:=DataW.trod_int ht h
 exact ⟨rfl,n,.inl rfl,by simp [AV.cells,AaD,Rep,Aur hw]⟩
theorem An2 {α β : Type} {f : α→Option β} : ∀ {l : List α} {r : List β},l.mapM f=some r→r.length=l.length∧∀ i (h : i<l.length) (h' : i<r.length),f l[i]=some r[i]
 | [],r,h=>by simp at h; subst h; exact ⟨rfl,fun i h=>by simp at h⟩
 | a::l,r,h=>by
  simp only [List.mapM_cons,Option.bind_eq_bind,Option.bind_eq_some_iff,Option.pure_def,Option.some.injEq] at h
  obtain ⟨b,h1,bs,h2,rfl⟩:=h
  obtain ⟨h3,h4⟩:=An2 h2
  refine ⟨by simp [h3],fun i hi hi'=>?_⟩
  cases i with
  | zero=>exact h1
  | succ i=>exact h4 i (by simpa using hi) (by simpa using hi')
theorem cells?_at {w : World} {a : Addr} {n : Nat} {cs : List Value} (h : w.cells? 0 a n=some cs) : cs.length=n∧∀ i (hi : i<n),(a.add i).spot=none∧a.block<w.heap.size∧∃ v,cs[i]? = some v∧Aa6 w.heap a.block (a.off+i)=some v:=by
 unfold World.cells? at h
 rw [if_pos (Nat.zero_le _)] at h
 obtain ⟨h1,h2⟩:=An2 h
 simp at h1
 refine ⟨h1,fun i hi=>?_⟩
 have:=h2 i (by simpa using hi) (by omega)
 simp only [List.getElem_range] at this
 obtain ⟨h6,h7,h8⟩:=At7 this
 have eb : (a.add i).block=a.block:=by unfold Addr.add; split <;> rfl
 have eo : (a.add i).off=a.off+i:=by unfold Addr.add; split <;> simp_all
 rw [eb] at h7 h8
 rw [eo] at h8
 exact ⟨h6,h7,_,by simp [h1,hi],h8⟩
theorem Ard {α : Type} {P : Program} {t e : TypeId} {n : Nat} {f : α→AV} (ht : P.underlying t=some (.slice e)) (hc : P.cellsOf e=n) (hn : 0<n) (he : Ahm P e n f) : Ahm P t 1 (fun l : List α=>AV.lst false false (l.map f)):=by
 intro H enc w fuel cs x h
 rcases DataW.trod_slice ht h with ⟨rfl,_⟩ | ⟨a,len,cap,elems,rest,m,_,rfl,_,_,hl,hm,hlen,hel,hsp,_⟩
 ·refine ⟨rfl,[],.inl rfl,?_⟩
  simp [AV.cells,AaD,Rep]
 refine ⟨rfl,?_⟩
 obtain ⟨hrl,hr⟩:=hsp rfl
 rw [hc] at hel hr
 have each : ∀ i,i<cap→∃ (cs : List Value) (x : DataW H×List MemPlace),w.cells? 0 (a.add (i*n)) n=some cs∧DataW.trod enc P w 0 (fun _=>true) true m e cs=some x:=by
  intro i hi
  by_cases h1 : i<len
  ·have h2:=hel i h1
   rw [List.getElem?_eq_getElem (by omega),Option.bind_eq_some_iff] at h2
   obtain ⟨cs,h3,h4⟩:=h2
   exact ⟨cs,_,h3,h4⟩
  ·have h2:=hr (i-len) (by omega)
   rw [List.getElem?_eq_getElem (by omega),Option.bind_eq_some_iff,show len+(i-len)=i by omega] at h2
   obtain ⟨cs,h3,h4⟩:=h2
   exact ⟨cs,_,h3,h4⟩
 by_cases hcap : cap=0
 ·subst hcap
  obtain rfl : len=0:=by omega
  refine ⟨[],.inl rfl,?_⟩
  simp only [AV.cells,AaD,Rep,List.map_nil,List.cons.injEq]
  refine ⟨_,[],⟨rfl,rfl⟩,.inr ⟨trivial,a,a.block,a.off,0,n,[],rfl,Nat.le_refl _,Nat.zero_le _,(fun h=>by cases h),(fun h=>by cases h),?_,rfl⟩,rfl⟩
  intro i hi
  simp at hi
 have hsp0 : a=⟨a.block,a.off,none⟩∧a.block<w.heap.size:=by
  obtain ⟨cs,x,h3,h4⟩:=each 0 (by omega)
  rw [Nat.zero_mul] at h3
  obtain ⟨g1,g2,_⟩:=(cells?_at h3).2 0 hn
  have e : (a.add 0)=a:=rfl
  rw [e,e] at g1
  rw [e] at g2
  refine ⟨?_,g2⟩
  cases a; simp at g1; simp [g1]
 have ev : ∀ i,i<len→∃ (z : α) (u : Value),u.cells.size=n∧Rep (Aq1 w) (f z) u∧Aaw w.heap a.block (a.off+i*n) u.cells.toList:=by
  intro i h1
  obtain ⟨cs,x,h3,h4⟩:=each i (by omega)
  obtain ⟨h5,z,h6⟩:=he enc w m cs x h4
  obtain ⟨u,h7,h8⟩:=h6.value
  obtain ⟨h9,h10⟩:=cells?_at h3
  have eb : (a.add (i*n)).block=a.block:=by unfold Addr.add; split <;> rfl
  have eo : (a.add (i*n)).off=a.off+i*n:=by
   unfold Addr.add
   split
   ·rename_i e; rw [e]; rfl
   ·rfl
  refine ⟨z,u,?_,h8,?_⟩
  ·rw [← h5,← h7]; simp
  ·intro j hj
   have hj':=hj
   rw [h7,h9] at hj'
   obtain ⟨_,_,v,g4,g5⟩:=h10 j hj'
   rw [eb,eo] at g5
   rw [g5]
   subst h7
   rw [List.getElem?_eq_getElem hj] at g4
   exact g4.symm
 have build : ∀ k,k≤len→∃ (zs : List α) (us : List Value),us.length=k∧AaD (Aq1 w) (zs.map f) us∧Ac6 w.heap a.block a.off n us:=by
  intro k
  induction k with
  | zero=>intro _; exact ⟨[],[],rfl,by simp [AaD],fun i hi=>by simp at hi⟩
  | succ k ih =>
   intro hk
   obtain ⟨zs,us,h1,h2,h3⟩:=ih (by omega)
   obtain ⟨z,u,h4,h5,h6⟩:=ev k (by omega)
   refine ⟨zs++[z],us++[u],by simp [h1],?_,?_⟩
   ·rw [List.map_append]
    exact h2.append (by simp [AaD,h5])
   ·intro i hi
    by_cases hik : i<us.length
    ·rw [List.getElem_append_left hik]
     exact h3 i hik
    ·obtain rfl : i=k:=by simp at hi; omega
     rw [List.getElem_append_right (by omega)]
     simp only [h1,Nat.sub_self,List.getElem_cons_zero]
     exact ⟨h4,h6⟩
 obtain ⟨zs,us,h1,h2,h3⟩:=build len (Nat.le_refl _)
 refine ⟨zs,.inl rfl,?_⟩
 simp only [AV.cells,AaD,Rep,List.cons.injEq]
 refine ⟨_,[],⟨rfl,rfl⟩,.inr ⟨trivial,a,a.block,a.off,cap,n,us,by rw [h1],by rw [h1]; exact hl,hm,by simp,fun _=>hsp0,h3,h2⟩,rfl⟩
def AzT {α : Type} (P : Program) (fs : List Field) (o n : Nat) (e : α→List AV) : Prop :=
 ∀ {H : Type} (enc : TypeId×Value→H) (w : World) (fuel : Nat) (cs : List Value),(∀ f ∈ fs,(DataW.trod enc P w 0 (fun _=>true) true fuel f.type ((cs.drop f.offset).take (P.cellsOf f.type))).isSome=true)→cs.length=o+n →
  ∃ a,AaD (Aq1 w) (e a) (cs.drop o)
theorem Ahm.map {α β : Type} {P : Program} {t : TypeId} {n : Nat} {e : α→AV} {g : β→AV} (h : Ahm P t n e) (f : α→β) (he : ∀ a,e a=g (f a)) : Ahm P t n g:=by
 intro H enc w fuel cs x hx
 obtain ⟨h1,a,h2⟩:=h enc w fuel cs x hx
 exact ⟨h1,f a,by rw [← he]; exact h2⟩
theorem Ahm.agg {α : Type} {P : Program} {t : TypeId} {n : Nat} {e : α→AV} {fs : Array Field} (h : Ahm P t n e) (ht : P.underlying t=some (.struct fs)) (hg : ∀ a,∃ ys,e a = .agg ys) {H : Type} {enc : TypeId×Value→H} {w w0 : World} {r : Reach} {base : Nat} {v : Value} {d : DataW H} {ps : List MemPlace}
 (hv : Value.okWide P w0 r base t v) (hx : DataW.Trod enc P w 0 (fun _=>true) true t v d ps) : ∃ a,Rep (Aq1 w) (e a) v:=by
 obtain ⟨cs,rfl,_⟩:=WideShapes.okWide_struct ht hv
 obtain ⟨fuel,hx⟩:=hx
 obtain ⟨_,a,ha⟩:=h enc w fuel _ _ hx
 have:=ha.agg (hg a)
 exact ⟨a,by simpa [Value.cells] using this⟩
theorem Ahm.one {α : Type} {P : Program} {t : TypeId} {n : Nat} {e : α→AV} (h : Ahm P t n e) (hg : ∀ a,(e a).one=true) {H : Type} {enc : TypeId×Value→H} {w : World} {v : Value} {d : DataW H} {ps : List MemPlace}
 (hv : v.cells = #[v]) (hx : DataW.Trod enc P w 0 (fun _=>true) true t v d ps) : ∃ a,Rep (Aq1 w) (e a) v:=by
 obtain ⟨fuel,hx⟩:=hx
 obtain ⟨_,a,ha⟩:=h enc w fuel _ _ hx
 obtain ⟨u,h1,h2,_⟩:=ha.one (hg a)
 rw [hv] at h1
 simp at h1
 subst h1
 exact ⟨a,h2⟩
theorem AnF {P : Program} {t e : TypeId} {w0 : World} {r : Reach} {base : Nat} {v : Value} (ht : P.underlying t=some (.slice e)) (hv : Value.okWide P w0 r base t v) : v.cells = #[v]:=by
 obtain ⟨_,_,_,rfl⟩:=WideShapes.okWide_slice ht hv; rfl
end Go.Abs
