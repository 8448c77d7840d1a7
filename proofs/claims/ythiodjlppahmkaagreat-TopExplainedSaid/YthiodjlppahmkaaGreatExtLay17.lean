import Derived.Test.YthiodjlppahmkaaGreatExtLay16
set_option linter.unusedVariables false
set_option linter.unusedSimpArgs false
namespace Go.Abs
open Go.RowKit (Below)
def Ad1 (P : Program) (s : Nat→AV) (H : Aac) : ResultVar→AV→Prop
 | .tmp t,r=>s t=r
 | .cell a t,r=>match s a with
  | .ptr id off=>match oCs (H id) with
   | some (_,cs)=>cs≠[]∧AeL P t (cs.drop off)=some r
   | none=>False
  | _=>False
def Ad2 (P : Program) (s : Nat→AV) (H : Aac) : List ResultVar→AV→Prop
 | [x],r=>Ad1 P s H x r
 | [],r=>r = .tup []
 | [x,y],r=>∃ a b,r = .tup [a,b]∧Ad1 P s H x a∧Ad1 P s H y b
 | [x,y,z],r=>∃ a b c,r = .tup [a,b,c]∧Ad1 P s H x a∧Ad1 P s H y b∧Ad1 P s H z c
 | [x,y,z,u],r=>∃ a b c d,r = .tup [a,b,c,d]∧Ad1 P s H x a∧Ad1 P s H y b∧Ad1 P s H z c∧Ad1 P s H u d
 | _,_=>False
def AhY (n : Nat) (rs : List ResultVar) : Bool:=rs.all (fun | .tmp t=>decide (t<n) | .cell a _=>decide (a<n))&&decide (rs.length≤5)
def Anm (tmps : Array Value) : ResultVar→Sem Value
 | .tmp t=>pure (tmps.getD t undef)
 | .cell a t=>do loadVar t (← asAddr (tmps.getD a undef))
theorem Acf {P : Program} {n : Nat} {c : Cx} {s : Nat→AV} {H : Aac} {a : Act} {w : World} (h : Rel n c s H a w) {x : ResultVar} (hin : AhY n [x]=true) {r : AV} (hr : Ad1 P s H x r) :
 ∃ v,(Anm a.tmps x).run P w = .ok v w∧Rep c r v:=by
 cases x with
 | tmp t =>
  simp [AhY] at hin
  refine ⟨_,rfl,?_⟩
  simp only [Ad1] at hr
  rw [← hr]
  exact h.slot t hin
 | cell b t =>
  simp [AhY] at hin
  obtain ⟨id,off,o,cs,h1,h2,h3,h4,h5⟩ : ∃ id off o cs,s b = .ptr id off∧H id=some o∧o.cs? = some cs∧cs≠[]∧AeL P t (cs.drop off)=some r:=by
   simp only [Ad1] at hr
   split at hr
   ·rename_i id off hsb
    split at hr
    ·rename_i o cs ho
     unfold oCs at ho
     cases hh : H id with
     | none=>simp [hh] at ho
     | some o' =>
      simp only [hh,Option.bind_some,Option.map_eq_some_iff,Prod.mk.injEq] at ho
      obtain ⟨cs',q1,rfl,rfl⟩:=ho
      exact ⟨id,off,o',cs',hsb,hh,q1,hr.1,hr.2⟩
    ·exact hr.elim
   ·exact hr.elim
  have hs:=h.slot b hin
  rw [h1] at hs
  obtain ⟨bb,base,sz,hl,hor⟩:=h.hr.live_of h2 (AcW h3 h4)
  have hp:=Ab3 hs hl
  obtain ⟨cur,T,fr,vs,k1,k2,k3,k4,k5,k6⟩:=hor.cs h3
  have hh:=h.hr.heap
  rw [hh] at k6
  obtain ⟨v,hv,hx⟩:=Aej (P:=P) (k6.drop off) (k5.drop off) h5
  refine ⟨v,?_,hx⟩
  simp only [Anm,hp]
  simpa [asAddr] using hv
theorem Af2 (fn : Func) (tmps : Array Value) : results fn tmps=(do let vs ← fn.results.mapM (Anm tmps); pure (if h : vs.size=1 then vs[0] else .tuple vs)):=by
 unfold results
 congr
theorem Amu {P : Program} {w : World} {fn : Func} {tmps : Array Value} {x : ResultVar} {v : Value} (h : fn.results = #[x]) (h1 : (Anm tmps x).run P w = .ok v w) : (results fn tmps).run P w = .ok v w:=by
 simp [Af2,h,h1]
theorem Aob {P : Program} {n : Nat} {c : Cx} {s : Nat→AV} {H : Aac} {a : Act} {w : World} (h : Rel n c s H a w) {fn : Func} (hin : AhY n fn.results.toList=true) {r : AV} (hr : Ad2 P s H fn.results.toList r) :
 ∃ v,(results fn a.tmps).run P w = .ok v w∧Rep c r v:=by
 have hi : ∀ x ∈ fn.results.toList,AhY n [x]=true:=by
  intro x hx
  simp only [AhY,Bool.and_eq_true] at hin ⊢
  refine ⟨?_,by simp⟩
  simpa using List.all_eq_true.1 hin.1 x hx
 have hlen : fn.results.toList.length≤5:=by simp only [AhY,Bool.and_eq_true,decide_eq_true_eq] at hin; exact hin.2
 generalize hL : fn.results.toList=L at hr hi hlen
 have hR : fn.results=L.toArray:=AbU hL
 match L,hr,hi,hlen with
 | [x],hr,hi,_ =>
  simp only [Ad2] at hr
  obtain ⟨v,h1,h2⟩:=Acf h (hi x (by simp)) hr
  exact ⟨v,Amu hR h1,h2⟩
 | [],hr,hi,_ =>
  simp only [Ad2] at hr
  subst hr
  exact ⟨.tuple #[],by simp [results,hR],by simp [Rep,AaD]⟩
 | [x,y],hr,hi,_ =>
  obtain ⟨a1,a2,rfl,r1,r2⟩:=hr
  obtain ⟨v1,p1,q1⟩:=Acf h (hi x (by simp)) r1
  obtain ⟨v2,p2,q2⟩:=Acf h (hi y (by simp)) r2
  exact ⟨.tuple #[v1,v2],by simp [Af2,hR,p1,p2],by simp only [Rep]; exact ⟨_,rfl,by simp only [AaD]; exact ⟨_,_,rfl,q1,_,_,rfl,q2,rfl⟩⟩⟩
 | [x,y,z],hr,hi,_ =>
  obtain ⟨a1,a2,a3,rfl,r1,r2,r3⟩:=hr
  obtain ⟨v1,p1,q1⟩:=Acf h (hi x (by simp)) r1
  obtain ⟨v2,p2,q2⟩:=Acf h (hi y (by simp)) r2
  obtain ⟨v3,p3,q3⟩:=Acf h (hi z (by simp)) r3
  exact ⟨.tuple #[v1,v2,v3],by simp [Af2,hR,p1,p2,p3],by simp only [Rep]; exact ⟨_,rfl,by simp only [AaD]; exact ⟨_,_,rfl,q1,_,_,rfl,q2,_,_,rfl,q3,rfl⟩⟩⟩
 | [x,y,z,u],hr,hi,_ =>
  obtain ⟨a1,a2,a3,a4,rfl,r1,r2,r3,r4⟩:=hr
  obtain ⟨v1,p1,q1⟩:=Acf h (hi x (by simp)) r1
  obtain ⟨v2,p2,q2⟩:=Acf h (hi y (by simp)) r2
  obtain ⟨v3,p3,q3⟩:=Acf h (hi z (by simp)) r3
  obtain ⟨v4,p4,q4⟩:=Acf h (hi u (by simp)) r4
  exact ⟨.tuple #[v1,v2,v3,v4],by simp [Af2,hR,p1,p2,p3,p4],by simp only [Rep]; exact ⟨_,rfl,by simp only [AaD]; exact ⟨_,_,rfl,q1,_,_,rfl,q2,_,_,rfl,q3,_,_,rfl,q4,rfl⟩⟩⟩
 | _::_::_::_::_::_,hr,_,_=>exact hr.elim
def Aqy (args : List AV) (t : Nat) : AV:=args.getD t .skip
theorem AsH {c : Cx} {args : List AV} {vs : Array Value} {n : Nat} (h : AaD c args vs.toList) (hm : args.length≤n) (t : Nat) (ht : t<n) : Rep c (Aqy args t) ((vs++Array.replicate (n-vs.size) undef).getD t undef):=by
 have hl:=h.length
 simp only [Array.length_toList] at hl
 by_cases hlt : t<args.length
 ·have:=h.get t hlt (by simpa [hl] using hlt)
  have e : (vs++Array.replicate (n-vs.size) undef).getD t undef=vs.toList[t]'(by simpa [hl] using hlt):=by
   simp [Array.getD_eq_getD_getElem?,Array.getElem?_append,hl,hlt]
  rw [e]
  simpa [Aqy,List.getD_eq_getElem?_getD,hlt] using this
 ·have e : (vs++Array.replicate (n-vs.size) undef).getD t undef=undef:=by
   simp only [Array.getD_eq_getD_getElem?,Array.getElem?_append,hl,hlt,if_false,Array.getElem?_replicate]
   split <;> rfl
  rw [e]
  have : Aqy args t = .skip:=by simp [Aqy,List.getD_eq_getElem?_getD,hlt]
  rw [this]; simp [Rep]
theorem enter {P : Program} {f : FuncId} {fn : Func} {code : Code} {args : List AV} (hf : P.funcs[f]? = some fn) (hb : fn.body=some code) (hm : args.length≤fn.ntmps) (hin : AhY fn.ntmps fn.results.toList=true)
 {c0 : Cx} {w0 : World} {H : Aac} {N : Nat} {vs : Array Value} (hr : AcX c0 H w0) (ha : AaD c0 args vs.toList) (hN : AcF c0 N) (E : (Nat→AV)→Aac→Nat→AV→Prop)
 (h : ∀ Q : AcH,(∀ s H N r,Ad2 P s H fn.results.toList r→E s H N r→Q .ret s H N∧Q .normal s H N)→AW P fn.ntmps c0 w0 code Q (Aqy args) H N) :
 Calls P f vs w0 fun e w'=>∃ v c s H N r,e = .returned v∧AcX c H w'∧Aeu c0 w0 c w'∧AcF c N∧Rep c r v∧E s H N r:=by
 have hl : vs.size=args.length:=by simpa using ha.length
 refine calls_of_wp hf hb ?_
 let Q : AcH:=fun e s H N=>(e = .ret∨e = .normal)∧∃ r,Ad2 P s H fn.results.toList r∧E s H N r
 have:=h Q (fun s H N r h1 h2=>⟨⟨.inl rfl,r,h1,h2⟩,⟨.inr rfl,r,h1,h2⟩⟩)
 refine wp_mono (this _ w0 ⟨c0,⟨hr,by simp; omega,fun t ht=>AsH ha hm t ht⟩,rfl,.refl _ _,hN⟩) ?_
 intro e a w ⟨s,H',N',⟨he,r,h1,h2⟩,c,hrel,hd,g,hu⟩
 obtain ⟨v,k1,k2⟩:=Aob hrel hin h1
 rcases he with rfl | rfl
 ·exact ⟨hd,v,k1,v,c,s,H',N',r,rfl,hrel.hr,g,hu,k2,h2⟩
 ·exact ⟨hd,v,k1,v,c,s,H',N',r,rfl,hrel.hr,g,hu,k2,h2⟩
theorem AsJ.enter {P : Program} {f : FuncId} {fn : Func} {code : Code} {args : List AV} {r : AV} (hf : P.funcs[f]? = some fn) (hb : fn.body=some code) (hm : args.length≤fn.ntmps) (hin : AhY fn.ntmps fn.results.toList=true) (hn : noIds r)
 (h : ∀ (c0 : Cx) (w0 : World) (Q : AcH),(∀ s H N,Ad2 P s H fn.results.toList r→Q .ret s H N∧Q .normal s H N)→AW P fn.ntmps c0 w0 code Q (Aqy args) (fun _=>none) 0) : AsJ P f args r:=by
 intro Z w vs hz ha
 have hr : AcX ⟨Z,fun _ => .unused,w.heap⟩ (fun _=>none) w :=
  ⟨rfl,fun _ _ _ _ h=>(by cases h),fun _ h=>(by cases h),fun _ _ _=>rfl,fun _ _ _ _ _ _ _ h=>(by cases h),fun _ _ _ _ h=>(by cases h),hz,⟨0,fun _ _=>rfl⟩⟩
 refine Calls.mono (Abs.enter hf hb hm hin hr ha (N:=0) (fun _ _=>rfl) (fun s H N r'=>r'=r) (fun Q hQ=>h _ w Q (fun s H N hres=>hQ s H N r hres rfl))) ?_
 intro e w' ⟨v,c,s,H,N,r',he,hr',g,hu,hx,hrr⟩
 subst hrr
 refine ⟨v,he,⟨g.os,g.tape,g.output,g.size,fun k hk=>g.keep k hk (fun _ _ _ h=>by cases h)⟩,hx.noIds hn ?_ ?_⟩
 ·intro b hb
  rcases g.zn b hb with h | h | ⟨_,_,_,h⟩
  ·exact .inl h
  ·exact .inr ⟨h,hr'.zlt b hb⟩
  ·cases h
 ·intro b hb o v' hv
  simpa [hr'.heap] using hv
theorem AnX.p {P : Program} {f : FuncId} {args : List AV} {H : Aac} {N : Nat} (hcal : AaN P f=true) {ys : List AV} {T : List Nat} (hcoe : Aje H args ys T) {r : AV} (hP : AsJ P f ys r) (hT : ∀ id ∈ T,id<N) (hflat : T = []∨r.flat=true) :
 AnX P f args H N r H N T []:=by
 intro o s g as ts caps hc ho hg ha
 exact Api hc g as ts ho f caps hg hcal ys T (by rw [ha]; exact hcoe) r hP hT hflat
theorem Aje.refl {H : Aac} : ∀ {args : List AV},Afk args→Aje H args args []
 | [],_ => .nil
 | x::xs,h => .cons (T:=[]) (.same h.1) (Aje.refl h.2)
end Go.Abs
