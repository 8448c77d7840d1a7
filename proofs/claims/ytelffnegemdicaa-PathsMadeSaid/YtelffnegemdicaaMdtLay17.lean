import Derived.Test.YtelffnegemdicaaMdtLay16
set_option linter.unusedVariables false
set_option linter.unusedSimpArgs false
namespace Go.Abs
open Go.RowKit (Below)
def AeI (P : Program) (s : Nat→AV) (H : Aai) : ResultVar→AV→Prop
 | .tmp t,r=>s t=r
 | .cell a t,r=>match s a with
  | .ptr id off=>match oCs (H id) with
   | some (_,cs)=>cs≠[]∧Aeu P t (cs.drop off)=some r
   | none=>False
  | _=>False
def Afp (P : Program) (s : Nat→AV) (H : Aai) : List ResultVar→AV→Prop
 | [x],r=>AeI P s H x r
 | [],r=>r = .tup []
 | [x,y],r=>∃ a b,r = .tup [a,b]∧AeI P s H x a∧AeI P s H y b
 | [x,y,z],r=>∃ a b c,r = .tup [a,b,c]∧AeI P s H x a∧AeI P s H y b∧AeI P s H z c
 | [x,y,z,u],r=>∃ a b c d,r = .tup [a,b,c,d]∧AeI P s H x a∧AeI P s H y b∧AeI P s H z c∧AeI P s H u d
 | _,_=>False
def AhH (n : Nat) (rs : List ResultVar) : Bool:=rs.all (fun | .tmp t=>decide (t<n) | .cell a _=>decide (a<n))&&decide (rs.length≤5)
def Al4 (tmps : Array Value) : ResultVar→Sem Value
 | .tmp t=>pure (tmps.getD t undef)
 | .cell a t=>do loadVar t (← asAddr (tmps.getD a undef))
theorem Aca {P : Program} {n : Nat} {c : Cx} {s : Nat→AV} {H : Aai} {a : Act} {w : World} (h : Rel n c s H a w) {x : ResultVar} (hin : AhH n [x]=true) {r : AV} (hr : AeI P s H x r) :
 ∃ v,(Al4 a.tmps x).run P w = .ok v w∧Rep c r v:=by
 cases x with
 | tmp t =>
  simp [AhH] at hin
  refine ⟨_,rfl,?_⟩
  simp only [AeI] at hr
  rw [← hr]
  exact h.slot t hin
 | cell b t =>
  simp [AhH] at hin
  obtain ⟨id,off,o,cs,h1,h2,h3,h4,h5⟩ : ∃ id off o cs,s b = .ptr id off∧H id=some o∧o.cs? = some cs∧cs≠[]∧Aeu P t (cs.drop off)=some r:=by
   simp only [AeI] at hr
   split at hr
   ·rename_i id off hsb
    split at hr
    ·rename_i o cs ho
     unfold oCs at ho
     cases hh : H id with
     | none=>simp [hh] at ho
     | some o' =>
      simp only [hh,Option.bind_some,Option.map_eq_some_iff,Prod.mk.injEq] at ho
      obtain ⟨cs',q1,rfl,rfl⟩:=ho
      exact ⟨id,off,o',cs',hsb,hh,q1,hr.1,hr.2⟩
    ·exact hr.elim
   ·exact hr.elim
  have hs:=h.slot b hin
  rw [h1] at hs
  obtain ⟨bb,base,sz,hl,hor⟩:=h.hr.live_of h2 (AcR h3 h4)
  have hp:=Ab8 hs hl
  obtain ⟨cur,T,fr,vs,k1,k2,k3,k4,k5,k6⟩:=hor.cs h3
  have hh:=h.hr.heap
  rw [hh] at k6
  obtain ⟨v,hv,hx⟩:=AeR (P:=P) (k6.drop off) (k5.drop off) h5
  refine ⟨v,?_,hx⟩
  simp only [Al4,hp]
  simpa [asAddr] using hv
theorem AfW (fn : Func) (tmps : Array Value) : results fn tmps=(do let vs ← fn.results.mapM (Al4 tmps); pure (if h : vs.size=1 then vs[0] else .tuple vs)):=by
 unfold results
 congr
theorem AlJ {P : Program} {w : World} {fn : Func} {tmps : Array Value} {x : ResultVar} {v : Value} (h : fn.results = #[x]) (h1 : (Al4 tmps x).run P w = .ok v w) : (results fn tmps).run P w = .ok v w:=by
 simp [AfW,h,h1]
theorem AmU {P : Program} {n : Nat} {c : Cx} {s : Nat→AV} {H : Aai} {a : Act} {w : World} (h : Rel n c s H a w) {fn : Func} (hin : AhH n fn.results.toList=true) {r : AV} (hr : Afp P s H fn.results.toList r) :
 ∃ v,(results fn a.tmps).run P w = .ok v w∧Rep c r v:=by
 have hi : ∀ x ∈ fn.results.toList,AhH n [x]=true:=by
  intro x hx
  simp only [AhH,Bool.and_eq_true] at hin ⊢
  refine ⟨?_,by simp⟩
  simpa using List.all_eq_true.1 hin.1 x hx
 have hlen : fn.results.toList.length≤5:=by simp only [AhH,Bool.and_eq_true,decide_eq_true_eq] at hin; exact hin.2
 generalize hL : fn.results.toList=L at hr hi hlen
 have hR : fn.results=L.toArray:=Abm hL
 match L,hr,hi,hlen with
 | [x],hr,hi,_ =>
  simp only [Afp] at hr
  obtain ⟨v,h1,h2⟩:=Aca h (hi x (by simp)) hr
  exact ⟨v,AlJ hR h1,h2⟩
 | [],hr,hi,_ =>
  simp only [Afp] at hr
  subst hr
  exact ⟨.tuple #[],by simp [results,hR],by simp [Rep,AaF]⟩
 | [x,y],hr,hi,_ =>
  obtain ⟨a1,a2,rfl,r1,r2⟩:=hr
  obtain ⟨v1,p1,q1⟩:=Aca h (hi x (by simp)) r1
  obtain ⟨v2,p2,q2⟩:=Aca h (hi y (by simp)) r2
  exact ⟨.tuple #[v1,v2],by simp [AfW,hR,p1,p2],by simp only [Rep]; exact ⟨_,rfl,by simp only [AaF]; exact ⟨_,_,rfl,q1,_,_,rfl,q2,rfl⟩⟩⟩
 | [x,y,z],hr,hi,_ =>
  obtain ⟨a1,a2,a3,rfl,r1,r2,r3⟩:=hr
  obtain ⟨v1,p1,q1⟩:=Aca h (hi x (by simp)) r1
  obtain ⟨v2,p2,q2⟩:=Aca h (hi y (by simp)) r2
  obtain ⟨v3,p3,q3⟩:=Aca h (hi z (by simp)) r3
  exact ⟨.tuple #[v1,v2,v3],by simp [AfW,hR,p1,p2,p3],by simp only [Rep]; exact ⟨_,rfl,by simp only [AaF]; exact ⟨_,_,rfl,q1,_,_,rfl,q2,_,_,rfl,q3,rfl⟩⟩⟩
 | [x,y,z,u],hr,hi,_ =>
  obtain ⟨a1,a2,a3,a4,rfl,r1,r2,r3,r4⟩:=hr
  obtain ⟨v1,p1,q1⟩:=Aca h (hi x (by simp)) r1
  obtain ⟨v2,p2,q2⟩:=Aca h (hi y (by simp)) r2
  obtain ⟨v3,p3,q3⟩:=Aca h (hi z (by simp)) r3
  obtain ⟨v4,p4,q4⟩:=Aca h (hi u (by simp)) r4
  exact ⟨.tuple #[v1,v2,v3,v4],by simp [AfW,hR,p1,p2,p3,p4],by simp only [Rep]; exact ⟨_,rfl,by simp only [AaF]; exact ⟨_,_,rfl,q1,_,_,rfl,q2,_,_,rfl,q3,_,_,rfl,q4,rfl⟩⟩⟩
 | _::_::_::_::_::_,hr,_,_=>exact hr.elim
def AoZ (args : List AV) (t : Nat) : AV:=args.getD t .skip
theorem ApS {c : Cx} {args : List AV} {vs : Array Value} {n : Nat} (h : AaF c args vs.toList) (hm : args.length≤n) (t : Nat) (ht : t<n) : Rep c (AoZ args t) ((vs++Array.replicate (n-vs.size) undef).getD t undef):=by
 have hl:=h.length
 simp only [Array.length_toList] at hl
 by_cases hlt : t<args.length
 ·have:=h.get t hlt (by simpa [hl] using hlt)
  have e : (vs++Array.replicate (n-vs.size) undef).getD t undef=vs.toList[t]'(by simpa [hl] using hlt):=by
   simp [Array.getD_eq_getD_getElem?,Array.getElem?_append,hl,hlt]
  rw [e]
  simpa [AoZ,List.getD_eq_getElem?_getD,hlt] using this
 ·have e : (vs++Array.replicate (n-vs.size) undef).getD t undef=undef:=by
   simp only [Array.getD_eq_getD_getElem?,Array.getElem?_append,hl,hlt,if_false,Array.getElem?_replicate]
   split <;> rfl
  rw [e]
  have : AoZ args t = .skip:=by simp [AoZ,List.getD_eq_getElem?_getD,hlt]
  rw [this]; simp [Rep]
theorem enter {P : Program} {f : FuncId} {fn : Func} {code : Code} {args : List AV} (hf : P.funcs[f]? = some fn) (hb : fn.body=some code) (hm : args.length≤fn.ntmps) (hin : AhH fn.ntmps fn.results.toList=true)
 {c0 : Cx} {w0 : World} {H : Aai} {N : Nat} {vs : Array Value} (hr : AcS c0 H w0) (ha : AaF c0 args vs.toList) (hN : Ab7 c0 N) (E : (Nat→AV)→Aai→Nat→AV→Prop)
 (h : ∀ Q : Ace,(∀ s H N r,Afp P s H fn.results.toList r→E s H N r→Q .ret s H N∧Q .normal s H N)→AW P fn.ntmps c0 w0 code Q (AoZ args) H N) :
 Calls P f vs w0 fun e w'=>∃ v c s H N r,e = .returned v∧AcS c H w'∧AeZ c0 w0 c w'∧Ab7 c N∧Rep c r v∧E s H N r:=by
 have hl : vs.size=args.length:=by simpa using ha.length
 refine calls_of_wp hf hb ?_
 let Q : Ace:=fun e s H N=>(e = .ret∨e = .normal)∧∃ r,Afp P s H fn.results.toList r∧E s H N r
 have:=h Q (fun s H N r h1 h2=>⟨⟨.inl rfl,r,h1,h2⟩,⟨.inr rfl,r,h1,h2⟩⟩)
 refine wp_mono (this _ w0 ⟨c0,⟨hr,by simp; omega,fun t ht=>ApS ha hm t ht⟩,rfl,.refl _ _,hN⟩) ?_
 intro e a w ⟨s,H',N',⟨he,r,h1,h2⟩,c,hrel,hd,g,hu⟩
 obtain ⟨v,k1,k2⟩:=AmU hrel hin h1
 rcases he with rfl | rfl
 ·exact ⟨hd,v,k1,v,c,s,H',N',r,rfl,hrel.hr,g,hu,k2,h2⟩
 ·exact ⟨hd,v,k1,v,c,s,H',N',r,rfl,hrel.hr,g,hu,k2,h2⟩
theorem ApW.enter {P : Program} {f : FuncId} {fn : Func} {code : Code} {args : List AV} {r : AV} (hf : P.funcs[f]? = some fn) (hb : fn.body=some code) (hm : args.length≤fn.ntmps) (hin : AhH fn.ntmps fn.results.toList=true) (hn : noIds r)
 (h : ∀ (c0 : Cx) (w0 : World) (Q : Ace),(∀ s H N,Afp P s H fn.results.toList r→Q .ret s H N∧Q .normal s H N)→AW P fn.ntmps c0 w0 code Q (AoZ args) (fun _=>none) 0) : ApW P f args r:=by
 intro Z w vs hz ha
 have hr : AcS ⟨Z,fun _ => .unused,w.heap⟩ (fun _=>none) w :=
  ⟨rfl,fun _ _ _ _ h=>(by cases h),fun _ h=>(by cases h),fun _ _ _=>rfl,fun _ _ _ _ _ _ _ h=>(by cases h),fun _ _ _ _ h=>(by cases h),hz,⟨0,fun _ _=>rfl⟩⟩
 refine Calls.mono (Abs.enter hf hb hm hin hr ha (N:=0) (fun _ _=>rfl) (fun s H N r'=>r'=r) (fun Q hQ=>h _ w Q (fun s H N hres=>hQ s H N r hres rfl))) ?_
 intro e w' ⟨v,c,s,H,N,r',he,hr',g,hu,hx,hrr⟩
 subst hrr
 refine ⟨v,he,⟨g.os,g.tape,g.output,g.size,fun k hk=>g.keep k hk (fun _ _ _ h=>by cases h)⟩,hx.noIds hn ?_ ?_⟩
 ·intro b hb
  rcases g.zn b hb with h | h | ⟨_,_,_,h⟩
  ·exact .inl h
  ·exact .inr ⟨h,hr'.zlt b hb⟩
  ·cases h
 ·intro b hb o v' hv
  simpa [hr'.heap] using hv
theorem Alt.p {P : Program} {f : FuncId} {args : List AV} {H : Aai} {N : Nat} (hcal : AaW P f=true) {ys : List AV} {T : List Nat} (hcoe : AiZ H args ys T) {r : AV} (hP : ApW P f ys r) (hT : ∀ id ∈ T,id<N) (hflat : T = []∨r.flat=true) :
 Alt P f args H N r H N T []:=by
 intro o s g as ts caps hc ho hg ha
 exact AnP hc g as ts ho f caps hg hcal ys T (by rw [ha]; exact hcoe) r hP hT hflat
theorem AiZ.refl {H : Aai} : ∀ {args : List AV},AfH args→AiZ H args args []
 | [],_ => .nil
 | x::xs,h => .cons (T:=[]) (.same h.1) (AiZ.refl h.2)
end Go.Abs
