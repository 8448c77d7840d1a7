import Derived.Test.YtomgdcnbceiggaaSrzLay25
set_option linter.unusedVariables false
set_option linter.unusedSimpArgs false
namespace Go.Abs
structure Aql (β : (H : Type)→DataW H→Nat) : Prop where
 str : ∀ (H : Type) (b : List UInt8),b.length≤β H (.lit (.string b))
 slice : ∀ (H : Type) (es sp : List (DataW H)),(es.map (β H)).sum≤β H (.slice es sp)
 agg : ∀ (H : Type) (ps : List (DataW H)),(ps.map (β H)).sum≤β H (.agg ps)
def Adi {α : Type} (β : (H : Type)→DataW H→Nat) (P : Program) (t : TypeId) (n : Nat) (e : α→AV) (μ : α→Nat) : Prop :=
 ∀ {H : Type} (enc : TypeId×Value→H) (w : World) (fuel : Nat) (cs : List Value) (x : DataW H×List MemPlace),DataW.trod enc P w 0 (fun _=>true) true fuel t cs=some x→cs.length=n∧∃ a,Ano (Ah5 w) (e a) cs∧μ a≤β H x.1
theorem Aco.w0 {α : Type} {β : (H : Type)→DataW H→Nat} {P : Program} {t : TypeId} {n : Nat} {e : α→AV} (h : Aco P t n e) : Adi β P t n e (fun _=>0):=by
 intro H enc w fuel cs x hx
 obtain ⟨h1,a,h2⟩:=h enc w fuel cs x hx
 exact ⟨h1,a,h2,Nat.zero_le _⟩
theorem ApZ {β : (H : Type)→DataW H→Nat} (hβ : Aql β) {P : Program} {t : TypeId} (ht : P.underlying t=some .string) : Adi β P t 1 (fun s : ByteArray=>AV.str s) (fun s=>s.size):=by
 intro H enc w fuel cs x h
 obtain ⟨s,rfl,rfl,hw⟩:=DataW.trod_string ht h
 refine ⟨rfl,s,⟨.inl rfl,by simp [AV.cells,AaB,Rep,hw]⟩,?_⟩
 have:=hβ.str H s.data.toList
 have e : s.data.toList.length=s.size:=Array.length_toList
 rw [e] at this
 exact this
theorem Amx {α : Type} {β : (H : Type)→DataW H→Nat} (hβ : Aql β) {P : Program} {t e : TypeId} {n : Nat} {f : α→AV} {μ : α→Nat} (ht : P.underlying t=some (.slice e)) (hc : P.cellsOf e=n) (hn : 0<n) (he : Adi β P e n f μ) :
 Adi β P t 1 (fun l : List α=>AV.lst false false (l.map f)) (fun l=>(l.map μ).sum):=by
 intro H enc w fuel cs x h
 rcases DataW.trod_slice ht h with ⟨rfl,rfl⟩ | ⟨a,len,cap,elems,rest,m,_,rfl,rfl,_,hl,hm,hlen,hel,hsp,_⟩
 ·refine ⟨rfl,[],⟨.inl rfl,?_⟩,Nat.zero_le _⟩
  simp [AV.cells,AaB,Rep]
 refine ⟨rfl,?_⟩
 obtain ⟨hrl,hr⟩:=hsp rfl
 rw [hc] at hel hr
 have each : ∀ i,i<cap→∃ (cs : List Value) (x : DataW H×List MemPlace),w.cells? 0 (a.add (i*n)) n=some cs∧DataW.trod enc P w 0 (fun _=>true) true m e cs=some x∧(i<len→elems[i]? = some x):=by
  intro i hi
  by_cases h1 : i<len
  ·have h2:=hel i h1
   rw [List.getElem?_eq_getElem (by omega),Option.bind_eq_some_iff] at h2
   obtain ⟨cs,h3,h4⟩:=h2
   exact ⟨cs,_,h3,h4,fun _=>List.getElem?_eq_getElem (by omega)⟩
  ·have h2:=hr (i-len) (by omega)
   rw [List.getElem?_eq_getElem (by omega),Option.bind_eq_some_iff,show len+(i-len)=i by omega] at h2
   obtain ⟨cs,h3,h4⟩:=h2
   exact ⟨cs,_,h3,h4,fun h=>absurd h h1⟩
 by_cases hcap : cap=0
 ·subst hcap
  obtain rfl : len=0:=by omega
  refine ⟨[],⟨.inl rfl,?_⟩,Nat.zero_le _⟩
  simp only [AV.cells,AaB,Rep,List.map_nil,List.cons.injEq]
  refine ⟨_,[],⟨rfl,rfl⟩,.inr ⟨trivial,a,a.block,a.off,0,n,[],rfl,Nat.le_refl _,Nat.zero_le _,(fun h=>by cases h),(fun h=>by cases h),?_,rfl⟩,rfl⟩
  intro i hi
  simp at hi
 have hsp0 : a=⟨a.block,a.off,none⟩∧a.block<w.heap.size:=by
  obtain ⟨cs,x,h3,h4,_⟩:=each 0 (by omega)
  rw [Nat.zero_mul] at h3
  obtain ⟨g1,g2,_⟩:=(cells?_at h3).2 0 hn
  have e : (a.add 0)=a:=rfl
  rw [e,e] at g1
  rw [e] at g2
  refine ⟨?_,g2⟩
  cases a; simp at g1; simp [g1]
 have ev : ∀ i,i<len→∃ (z : α) (u : Value),u.cells.size=n∧Rep (Ah5 w) (f z) u∧AbA w.heap a.block (a.off+i*n) u.cells.toList∧∃ x,elems[i]? = some x∧μ z≤β H x.1:=by
  intro i h1
  obtain ⟨cs,x,h3,h4,hx⟩:=each i (by omega)
  obtain ⟨h5,z,h6,hμ⟩:=he enc w m cs x h4
  obtain ⟨u,h7,h8⟩:=h6.value
  obtain ⟨h9,h10⟩:=cells?_at h3
  have eb : (a.add (i*n)).block=a.block:=by unfold Addr.add; split <;> rfl
  have eo : (a.add (i*n)).off=a.off+i*n:=by
   unfold Addr.add
   split
   ·rename_i e; rw [e]; rfl
   ·rfl
  refine ⟨z,u,?_,h8,?_,x,hx h1,hμ⟩
  ·rw [← h5,← h7]; simp
  ·intro j hj
   have hj':=hj
   rw [h7,h9] at hj'
   obtain ⟨_,_,v,g4,g5⟩:=h10 j hj'
   rw [eb,eo] at g5
   rw [g5]
   subst h7
   rw [List.getElem?_eq_getElem hj] at g4
   exact g4.symm
 have build : ∀ k,k≤len→∃ (zs : List α) (us : List Value),us.length=k∧AaB (Ah5 w) (zs.map f) us∧Acw w.heap a.block a.off n us∧(zs.map μ).sum≤((elems.take k).map fun x=>β H x.1).sum:=by
  intro k
  induction k with
  | zero=>intro _; exact ⟨[],[],rfl,by simp [AaB],fun i hi=>by simp at hi,Nat.zero_le _⟩
  | succ k ih =>
   intro hk
   obtain ⟨zs,us,h1,h2,h3,hs⟩:=ih (by omega)
   obtain ⟨z,u,h4,h5,h6,x,hx,hμ⟩:=ev k (by omega)
   refine ⟨zs++[z],us++[u],by simp [h1],?_,?_,?_⟩
   ·rw [List.map_append]
    exact h2.append (by simp [AaB,h5])
   ·intro i hi
    by_cases hik : i<us.length
    ·rw [List.getElem_append_left hik]
     exact h3 i hik
    ·obtain rfl : i=k:=by simp at hi; omega
     rw [List.getElem_append_right (by omega)]
     simp only [h1,Nat.sub_self,List.getElem_cons_zero]
     exact ⟨h4,h6⟩
   ·rw [List.take_add_one,hx]
    simp only [List.map_append,List.sum_append,Option.toList_some,List.map_cons,List.map_nil,List.sum_cons,List.sum_nil]
    omega
 obtain ⟨zs,us,h1,h2,h3,hs⟩:=build len (Nat.le_refl _)
 refine ⟨zs,⟨.inl rfl,?_⟩,?_⟩
 ·simp only [AV.cells,AaB,Rep,List.cons.injEq]
  exact ⟨_,[],⟨rfl,rfl⟩,.inr ⟨trivial,a,a.block,a.off,cap,n,us,by rw [h1],by rw [h1]; exact hl,hm,by simp,fun _=>hsp0,h3,h2⟩,rfl⟩
 ·rw [List.take_of_length_le (by omega)] at hs
  have:=hβ.slice H (elems.map (·.1)) (rest.map (·.1))
  rw [List.map_map] at this
  exact Nat.le_trans hs this
def AnM {α : Type} (β : (H : Type)→DataW H→Nat) (P : Program) (fs : List Field) (o n : Nat) (e : α→List AV) (μ : α→Nat) : Prop :=
 ∀ {H : Type} (enc : TypeId×Value→H) (w : World) (fuel : Nat) (cs : List Value) (xs : List (DataW H×List MemPlace)),xs.length=fs.length→(∀ (i : Nat) (f : Field),fs[i]? = some f→DataW.trod enc P w 0 (fun _=>true) true fuel f.type ((cs.drop f.offset).take (P.cellsOf f.type))=xs[i]?)→cs.length=o+n →
  ∃ a,AaB (Ah5 w) (e a) (cs.drop o)∧μ a≤(xs.map fun x=>β H x.1).sum
theorem AjF {β : (H : Type)→DataW H→Nat} {P : Program} {o : Nat} : AnM β P [] o 0 (fun _ : Unit=>[]) (fun _=>0):=by
 intro H enc w fuel cs xs _ h hl
 exact ⟨(),by rw [List.drop_of_length_le (by omega)]; simp [AaB],Nat.zero_le _⟩
theorem Abl {α γ : Type} {β : (H : Type)→DataW H→Nat} {P : Program} {fd : Field} {fs : List Field} {o n m : Nat} {e : α→AV} {g : γ→List AV} {μ : α→Nat} {ν : γ→Nat} (ho : fd.offset=o) (hc : P.cellsOf fd.type=n) (he : Adi β P fd.type n e μ) (ht : AnM β P fs (o+n) m g ν) :
 AnM β P (fd::fs) o (n+m) (fun z : α×γ=>(e z.1).cells++g z.2) (fun z=>μ z.1+ν z.2):=by
 intro H enc w fuel cs xs hx h hl
 obtain ⟨x,xs,rfl⟩ : ∃ x r,xs=x::r:=by cases xs with
  | nil=>simp at hx
  | cons x r=>exact ⟨x,r,rfl⟩
 obtain ⟨_,a,⟨_,ha⟩,hμ⟩:=he enc w fuel _ x (h 0 fd rfl)
 obtain ⟨b,hb,hν⟩:=ht enc w fuel cs xs (by simpa using hx) (fun i f hf=>h (i+1) f (by simpa using hf)) (by omega)
 refine ⟨(a,b),?_,?_⟩
 ·have:=ha.append hb
  rw [ho,hc] at this
  have e2 : List.take n (List.drop o cs)++List.drop (o+n) cs=cs.drop o:=by
   rw [← List.drop_drop]; exact List.take_append_drop _ _
  rw [e2] at this
  exact this
 ·rw [List.map_cons,List.sum_cons]
  exact Nat.add_le_add hμ hν
theorem Ai2 {α : Type} {β : (H : Type)→DataW H→Nat} (hβ : Aql β) {P : Program} {t : TypeId} {fs : Array Field} {n : Nat} {e : α→List AV} {μ : α→Nat} (ht : P.underlying t=some (.struct fs)) (hc : P.cellsOf t=n) (h : AnM β P fs.toList 0 n e μ) : Adi β P t n (fun a=>AV.agg (e a)) μ:=by
 intro H enc w fuel cs x hx
 obtain ⟨xs,m,_,rfl,hl,hxs,hf⟩:=DataW.trod_struct ht hx
 refine ⟨by rw [hl,hc],?_⟩
 obtain ⟨a,ha,hμ⟩:=h enc w m cs xs (by simpa using hxs) (fun i f hi=>hf i f (by simpa using hi)) (by omega)
 refine ⟨a,⟨.inr ⟨_,rfl⟩,by simpa [AV.cells] using ha⟩,?_⟩
 have:=hβ.agg H (xs.map (·.1))
 rw [List.map_map] at this
 exact Nat.le_trans hμ this
theorem Adi.map {α γ : Type} {β : (H : Type)→DataW H→Nat} {P : Program} {t : TypeId} {n : Nat} {e : α→AV} {g : γ→AV} {μ : α→Nat} {ν : γ→Nat} (h : Adi β P t n e μ) (f : α→γ) (he : ∀ a,e a=g (f a)) (hm : ∀ a,ν (f a)≤μ a) : Adi β P t n g ν:=by
 intro H enc w fuel cs x hx
 obtain ⟨h1,a,h2,h3⟩:=h enc w fuel cs x hx
 exact ⟨h1,f a,by rw [← he]; exact h2,Nat.le_trans (hm a) h3⟩
theorem Adi.aggW {α : Type} {β : (H : Type)→DataW H→Nat} {P : Program} {t : TypeId} {n : Nat} {e : α→AV} {μ : α→Nat} {fs : Array Field} (h : Adi β P t n e μ) (ht : P.underlying t=some (.struct fs)) (hg : ∀ a,∃ ys,e a = .agg ys) {H : Type} {enc : TypeId×Value→H} {w w0 : World} {r : Reach} {base : Nat} {v : Value} {d : DataW H} {ps : List MemPlace}
 (hv : Value.okWide P w0 r base t v) (hx : DataW.Trod enc P w 0 (fun _=>true) true t v d ps) : ∃ a,Rep (Ah5 w) (e a) v∧μ a≤β H d:=by
 obtain ⟨cs,rfl,_⟩:=WideShapes.okWide_struct ht hv
 obtain ⟨fuel,hx⟩:=hx
 obtain ⟨_,a,ha,hμ⟩:=h enc w fuel _ _ hx
 have:=ha.agg (hg a)
 exact ⟨a,by simpa [Value.cells] using this,hμ⟩
end Go.Abs
