import Derived.Test.YthiodjlppahmkaaGreatExtLay5
set_option linter.unusedVariables false
set_option linter.unusedSimpArgs false
namespace Go.Abs
open Go.RowKit (Below)
def Ad5 (vs : List Value) : List Value:=vs.flatMap fun v=>v.cells.toList
theorem Ac6.cons {h : Array Obj} {b off es : Nat} {v : Value} {vs : List Value} : Ac6 h b off es (v::vs)↔v.cells.size=es∧Aaw h b off v.cells.toList∧Ac6 h b (off+es) es vs:=by
 constructor
 ·intro H
  have h0:=H 0 (by simp)
  simp only [List.getElem_cons_zero,Nat.zero_mul,Nat.add_zero] at h0
  refine ⟨h0.1,h0.2,fun i hi=>?_⟩
  have:=H (i+1) (by simpa using hi)
  simp only [List.getElem_cons_succ] at this
  rw [show off+(i+1)*es=off+es+i*es by rw [Nat.add_mul]; omega] at this
  exact this
 ·rintro ⟨h1,h2,h3⟩ i hi
  cases i with
  | zero=>simpa using ⟨h1,h2⟩
  | succ i =>
   have:=h3 i (by simpa using hi)
   simp only [List.getElem_cons_succ]
   rw [show off+(i+1)*es=off+es+i*es by rw [Nat.add_mul]; omega]
   exact this
theorem Aaw.left {h : Array Obj} {b off : Nat} {vs us : List Value} (H : Aaw h b off (vs++us)) : Aaw h b off vs:=fun i hi=>by
 have:=H i (by simp; omega)
 rwa [List.getElem_append_left hi] at this
theorem Aaw.right {h : Array Obj} {b off : Nat} {vs us : List Value} (H : Aaw h b off (vs++us)) : Aaw h b (off+vs.length) us:=fun i hi=>by
 have:=H (vs.length+i) (by simp; omega)
 rw [List.getElem_append_right (by omega)] at this
 simp only [Nat.add_sub_cancel_left] at this
 rw [← this]; congr 1; omega
theorem Ab5 {h : Array Obj} {b es : Nat} : ∀ {vs : List Value} {off : Nat},(∀ v ∈ vs,v.cells.size=es)→(Ac6 h b off es vs↔Aaw h b off (Ad5 vs))
 | [],off,_=>by simp [Ad5,Ac6,Aaw]
 | v::vs,off,hs=>by
  have ih:=Ab5 (h:=h) (b:=b) (es:=es) (vs:=vs) (off:=off+es) (fun u hu=>hs u (by simp [hu]))
  have hv:=hs v (by simp)
  rw [Ac6.cons,ih]
  simp only [Ad5,List.flatMap_cons]
  constructor
  ·rintro ⟨_,h2,h3⟩
   exact h2.append (by simpa [hv] using h3)
  ·intro H
   refine ⟨hv,H.left,?_⟩
   have:=H.right
   simpa [hv] using this
theorem Afq {es : Nat} : ∀ {vs : List Value},(∀ v ∈ vs,v.cells.size=es)→(Ad5 vs).length=vs.length*es
 | [],_=>by simp [Ad5]
 | v::vs,hs=>by
  have ih:=Afq (es:=es) (vs:=vs) (fun u hu=>hs u (by simp [hu]))
  have hv:=hs v (by simp)
  simp only [Ad5,List.flatMap_cons,List.length_append,List.length_cons,Array.length_toList,hv] at ih ⊢
  rw [ih,Nat.add_mul]; omega
def sized (es : Nat) (xs : List AV) : Prop:=∀ x ∈ xs,x.okc=true∧x.cells.length=es
theorem Ae0 {es : Nat} {c : Cx} : ∀ {xs : List AV} {vs : List Value},sized es xs→AaD c xs vs→∀ v ∈ vs,v.cells.size=es
 | [],vs,_,h,v,hv=>by simp [AaD] at h; simp [h] at hv
 | x::xs,vs,hs,h,v,hv=>by
  simp only [AaD] at h
  obtain ⟨u,rest,rfl,hx,hr⟩:=h
  rcases List.mem_cons.1 hv with rfl | hv
  ·obtain ⟨h1,h2⟩:=hs x (by simp)
   have:=(Ag3 h1 hx).length
   simp at this; omega
  ·exact Ae0 (fun y hy=>hs y (by simp [hy])) hr v hv
def AaI (xs : List AV) : List AV:=xs.flatMap AV.cells
theorem AfG {es : Nat} {c : Cx} : ∀ {xs : List AV} {vs : List Value},sized es xs→AaD c xs vs→AaD c (AaI xs) (Ad5 vs)
 | [],vs,_,h=>by simp only [AaD] at h; subst h; simp [AaI,Ad5,AaD]
 | x::xs,vs,hs,h=>by
  simp only [AaD] at h
  obtain ⟨u,rest,rfl,hx,hr⟩:=h
  simp only [AaI,Ad5,List.flatMap_cons]
  exact (Ag3 (hs x (by simp)).1 hx).append (AfG (fun y hy=>hs y (by simp [hy])) hr)
theorem Asd (b : UInt8) : InR .u8 b.toNat:=by
 have:=UInt8.toNat_lt b
 simp only [InR,IntKind.min,IntKind.max,IntKind.signed,IntKind.bits]
 simp; omega
theorem Aiz {n : Nat} (h : n≤maxLen) : InR .i64 n:=by
 unfold maxLen at h
 simp only [InR,IntKind.min,IntKind.max,IntKind.signed,IntKind.bits]
 simp; omega
theorem Aek {c : Cx} {nl fl : Bool} {xs : List AV} {v : Value} (h : Rep c (.lst nl fl xs) v) :
 ∃ a cap,v = .slice a xs.length cap∧xs.length≤cap∧cap≤maxLen∧(fl=true∨nl=true→cap=xs.length)∧(a=none→xs = []∧cap=0) ∧
  (∀ a',a=some a'→nl=false∧∃ b off es vs,(0<cap→a'=⟨b,off,none⟩∧c.Z b)∧Ac6 c.h b off es vs∧AaD c xs vs):=by
 simp only [Rep] at h
 rcases h with ⟨rfl,rfl⟩ | ⟨rfl,a,b,off,cap,es,vs,rfl,h1,h2,h3,h4,h5,h6⟩
 ·exact ⟨none,0,rfl,Nat.le_refl _,by simp,fun _=>rfl,fun _=>⟨rfl,rfl⟩,fun _ h=>by cases h⟩
 ·have:=h6.length
  have hcap : fl=true∨false=true→cap=xs.length:=by
   intro h
   rcases h with h | h
   ·rw [h3 h,this]
   ·cases h
  refine ⟨some a,cap,by rw [this],by omega,h2,hcap,?_,fun a' e=>⟨rfl,b,off,es,vs,fun hc=>?_,h5,h6⟩⟩
  ·intro h; cases h
  ·cases e; exact h4 hc
theorem Apk {P : Program} {o : Oper} {s : Nat→AV} {H : Aac} {N : Nat} (hc : AaY o=true) (t e : TypeId) (y : Operand) (ho : o.op = .call { callee := .builtin .len,args := #[y],argTypes := #[t] }) (nl fl : Bool) (xs : List AV)
 (hy : ev s y = .lst nl fl xs) (hu : P.underlying t=some (.slice e)) : Aao P o s H N (.int .i64 xs.length) H N [] [] :=
 Aao.pure hc fun ρ w c hh hrep=>by
  have h1:=hrep y (by simp [ho,Op.operands,Call.operands])
  rw [hy] at h1
  obtain ⟨a,cap,hv,h2,h3,_⟩:=Aek h1
  refine ⟨.int .i64 xs.length,?_,?_⟩
  ·simp [execOp,ho,resolve,invoke,builtin,Builtin.len_,run_underlying hu,hv,goInt]
  ·simp only [Rep]; exact ⟨trivial,Aiz (by omega)⟩
theorem Apj {P : Program} {o : Oper} {s : Nat→AV} {H : Aac} {N : Nat} (hc : AaY o=true) (t : TypeId) (y : Operand) (ho : o.op = .call { callee := .builtin .len,args := #[y],argTypes := #[t] }) (b : ByteArray)
 (hy : ev s y = .str b) (hu : P.underlying t=some .string) : Aao P o s H N (.int .i64 b.size) H N [] [] :=
 Aao.pure hc fun ρ w c hh hrep=>by
  have h1:=hrep y (by simp [ho,Op.operands,Call.operands])
  rw [hy] at h1
  simp only [Rep] at h1
  refine ⟨.int .i64 b.size,?_,?_⟩
  ·simp [execOp,ho,resolve,invoke,builtin,Builtin.len_,run_underlying hu,h1.1,goInt]
  ·simp only [Rep]; exact ⟨trivial,Aiz h1.2⟩
theorem ApU {c : Cx} {H : Aac} {w : World} (hr : AcX c H w) {id off es len : Nat} {full : Bool} {v : Value} (h : Rep c (.slc id off es len full) v) {obj : AaZ} (ho : H id=some obj) :
 ∃ a cap,v = .slice a len cap∧len≤cap∧cap≤maxLen:=by
 by_cases hg : c.ι id = .emp
 ·simp only [Rep] at h
  obtain ⟨rfl,a,rfl⟩:=h.2.2.1 hg
  exact ⟨a,0,rfl,Nat.le_refl _,by simp⟩
 ·by_cases hl : ∀ b base sz,c.ι id ≠ .live b base sz
  ·rw [hr.non id hl hg] at ho; cases ho
  ·simp only [ne_eq,Classical.not_forall,Classical.not_not] at hl
   obtain ⟨b,x,y,hl⟩:=hl
   obtain ⟨cap,o,hv,_,h1,h2,_⟩:=Abd h hl
   exact ⟨_,cap,hv,h1,h2⟩
theorem Alf {P : Program} {o : Oper} {s : Nat→AV} {H : Aac} {N : Nat} (hc : AaY o=true) (t e : TypeId) (y : Operand) (ho : o.op = .call { callee := .builtin .len,args := #[y],argTypes := #[t] }) (id off es len : Nat) (full : Bool)
 (hy : (ev s y).un = .slc id off es len full) (hid : id<N) (obj : AaZ) (hob : H id=some obj) (hu : P.underlying t=some (.slice e)) : Aao P o s H N (.int .i64 len) H N [id] [] :=
 Aao.read [id] (fun i h=>by simp at h; omega) fun n c s1 H1 a w hrel hu' hT=>by
  have h1:=(Aaj hrel hu' hc (x:=y) (by simp [ho,Op.operands,Call.operands])).un
  rw [hy] at h1
  obtain ⟨a',cap,hv,h2,h3⟩:=ApU hrel.hr h1 ((hT id (by simp)).trans hob)
  refine ⟨.int .i64 len,?_,?_⟩
  ·simp [execOp,ho,resolve,invoke,builtin,Builtin.len_,run_underlying hu,hv,goInt]
  ·simp only [Rep]; exact ⟨trivial,Aiz (by omega)⟩
theorem Am4 {P : Program} {o : Oper} {s : Nat→AV} {H : Aac} {N : Nat} (hc : AaY o=true) (t : TypeId) (y z : Operand) (ho : o.op = .index t y z) (b : ByteArray) (hy : ev s y = .str b) (k : IntKind) (i : Int) (hz : ev s z = .int k i)
 (hu : P.underlying t=some .string) (h0 : 0≤i) (h1 : i.toNat<b.size) : Aao P o s H N (.int .u8 (b.data.toList.getD i.toNat 0).toNat) H N [] [] :=
 Aao.pure hc fun ρ w c hh hrep=>by
  have r1:=hrep y (by simp [ho,Op.operands])
  have r2:=hrep z (by simp [ho,Op.operands])
  rw [hy] at r1
  rw [hz] at r2
  simp only [Rep] at r1 r2
  have hb : b[i.toNat]? = some (b.data.toList.getD i.toNat 0):=by
   have hlt : i.toNat<b.data.size:=h1
   have e1 : b[i.toNat]? = some b[i.toNat]:=by rw [getElem?_pos b i.toNat h1]
   rw [e1]
   simp only [List.getD_eq_getElem?_getD,Array.getElem?_toList,Array.getElem?_eq_getElem hlt,Option.getD_some]
   rfl
  refine ⟨.int .u8 (b.data.toList.getD i.toNat 0).toNat,?_,?_⟩
  ·simp only [execOp,ho,r1.1,r2.1,Instr.index,asIntOf,Sem.run_bind,Sem.run_pure,Result.andThen_ok,run_underlying hu,h0,if_true,hb]
  simp only [Rep]
  refine ⟨trivial,?_⟩
  exact Asd _
theorem Am5 {P : Program} {o : Oper} {s : Nat→AV} {H : Aac} {N : Nat} (hc : AaY o=true) (t : TypeId) (y z : Operand) (ho : o.op = .index t y z) (xs : List AV) (hy : ev s y = .agg xs) (k : IntKind) (i : Int) (hz : ev s z = .int k i)
 (m e : Nat) (hu : P.underlying t=some (.array m e)) (ha : Ab1 P e=some false) (hs : Aa8 P e=some 1) (h0 : 0≤i) (h1 : i<m) (x : AV) (hx : xs[i.toNat]? = some x) : Aao P o s H N x H N [] [] :=
 Aao.pure hc fun ρ w c hh hrep=>by
  have r1:=hrep y (by simp [ho,Op.operands])
  have r2:=hrep z (by simp [ho,Op.operands])
  rw [hy] at r1
  rw [hz] at r2
  simp only [Rep] at r1 r2
  obtain ⟨vs,hv,hr⟩:=r1
  obtain ⟨hl,hx'⟩:=List.getElem?_eq_some_iff.1 hx
  have hlen:=hr.length
  have hlt : i.toNat<vs.toList.length:=by omega
  have hre:=hr.get i.toNat hl hlt
  rw [hx'] at hre
  have hlt' : i.toNat<vs.size:=by simpa using hlt
  refine ⟨vs[i.toNat],?_,by simpa using hre⟩
  unfold Aa8 at hs
  have hi : ∃ q,P.info? e=some q∧q.size=1:=by
   cases hq : P.info? e with
   | none=>rw [hq] at hs; cases hs
   | some q=>rw [hq] at hs; exact ⟨q,rfl,by simpa using hs⟩
  obtain ⟨q,hq,hq1⟩:=hi
  have hb:=Afe (w:=w) ha
  simp [execOp,ho,hv,r2.1,Instr.index,asIntOf,run_underlying hu,h0,h1,sizeOf,typeInfo,hq,hq1,part,hb,hlt']
theorem AsF {P : Program} {t : TypeId} {m : Nat} {k : Abe} (h : Aqx P t=some (m,k)) : ∃ e,P.underlying t=some (.array m e)∧Ab1 P e=some false∧Aa8 P e=some 1:=by
 unfold Aqx at h
 split at h
 ·rename_i n e hu
  split at h
  ·rename_i hc
   cases hk : AgI P e with
   | none=>rw [hk] at h; cases h
   | some q =>
    rw [hk] at h
    simp at h
    refine ⟨e,by rw [hu,h.1],?_,?_⟩
    ·unfold AgI at hk
     unfold Ab1
     split at hk
     all_goals first | (rename_i hq; rw [hq]) | cases hk
    ·unfold Aa8
     have h1:=hc.1
     unfold Program.cellsOf at h1
     cases hi : P.info? e with
     | none=>have:=hc.2.1; rw [hi] at this; cases this
     | some i=>rw [hi] at h1; simp at h1 ⊢; exact h1
  ·cases h
 ·cases h
theorem AeG {P : Program} {w : World} (isS : Bool) (len cap lo hi : Nat) (l h m : Option Value) (hl : l=none∧lo=0∨∃ k,l=some (.int k lo)) (hh : h=none∧hi=len∨∃ k,h=some (.int k hi))
 (hm : m=none∨(h.isSome=true∧∃ k,m=some (.int k hi))) (h1 : lo≤hi) (h2 : hi≤cap) :
 (Instr.sliceBounds isS len cap l h m).run P w = .ok (lo,hi,if m.isSome then hi else cap) w:=by
 have b : ∀ (k : IntKind) (x y : Nat) (code : BoundsCode),x≤y→(Instr.sliceBound (.int k (x : Int)) y code).run P w = .ok x w:=by
  intro k x y code hxy
  have : (x : Int)≤(y : Int):=by omega
  simp [Instr.sliceBound,asIntOf,this]
 rcases hl with ⟨rfl,rfl⟩ | ⟨kl,rfl⟩ <;> rcases hh with ⟨rfl,rfl⟩ | ⟨kh,rfl⟩ <;> rcases hm with rfl | ⟨hs,km,rfl⟩
 all_goals first
  | (simp at hs; done)
  | (simp only [Instr.sliceBounds,Sem.run_bind,Sem.run_pure,Result.andThen_ok,b _ _ _ _ h1,b _ _ _ _ h2,b _ _ _ _ (Nat.le_refl _),Option.isSome_none,Option.isSome_some,Bool.false_eq_true,if_false,if_true]; done)
  | simp [Instr.sliceBounds,b _ _ _ _ h1,b _ _ _ _ h2,b _ _ _ _ (Nat.le_refl hi)]
def AcE (s : Nat→AV) (dflt : Nat) : Option Operand→Option Nat
 | none=>some dflt
 | some x=>match ev s x with
  | .int _ n=>if 0≤n then some n.toNat else none
  | _=>none
theorem Acj {s : Nat→AV} {d n : Nat} {x : Option Operand} (h : AcE s d x=some n) {c : Cx} {ρ : Operand→Value} (hr : ∀ y,x=some y→Rep c (ev s y) (ρ y)) : x.map ρ=none∧n=d∨∃ k,x.map ρ=some (.int k n):=by
 cases x with
 | none=>simp only [AcE,Option.some.injEq] at h; exact .inl ⟨rfl,h.symm⟩
 | some y =>
  right
  simp only [AcE] at h
  have hy:=hr y rfl
  cases he : ev s y <;> rw [he] at h hy <;> simp only [reduceCtorEq] at h
  rename_i k m
  split at h
  ·simp only [Option.some.injEq] at h
   simp only [Rep] at hy
   refine ⟨k,?_⟩
   simp only [Option.map_some,hy.1,← h]
   congr 2
   omega
  ·cases h
theorem Ac6.sub {h : Array Obj} {b off es : Nat} {vs : List Value} (H : Ac6 h b off es vs) (lo hi : Nat) : Ac6 h b (off+lo*es) es ((vs.take hi).drop lo):=by
 intro i hi'
 simp only [List.length_drop,List.length_take] at hi'
 have:=H (lo+i) (by omega)
 rw [List.getElem_drop,List.getElem_take]
 rw [show off+lo*es+i*es=off+(lo+i)*es by rw [Nat.add_mul]; omega]
 exact this
theorem Am0 {P : Program} {o : Oper} {s : Nat→AV} {H : Aac} {N : Nat} (hc : AaY o=true) (t : TypeId) (y : Operand) (l h m : Option Operand) (ho : o.op = .slice t y l h m) (nl fl : Bool) (xs : List AV) (hy : ev s y = .lst nl fl xs)
 (e es by_ : Nat) (hE : Aap P t=some (e,es,by_)) (hs : sized es xs) (lo hi : Nat) (hlo : AcE s 0 l=some lo) (hhi : AcE s xs.length h=some hi) (hm : m=none∨(h.isSome=true∧AcE s 0 m=some hi)) (h1 : lo≤hi) (h2 : hi≤xs.length) :
 Aao P o s H N (.lst nl (m.isSome||(fl&&h.isNone)) ((xs.take hi).drop lo)) H N [] [] :=
 Aao.pure hc fun ρ w c hh hrep=>by
  have r1:=hrep y (by simp [ho,Op.operands])
  rw [hy] at r1
  obtain ⟨ii,hu,hinfo,hsz,_⟩:=Aa9 hE
  obtain ⟨a,cap,hv,c1,c2,c3,c4,c5⟩:=Aek r1
  have bl:=Acj hlo (c:=c) (ρ:=ρ) (fun z hz=>hrep z (by simp [ho,Op.operands,hz]))
  have bh:=Acj hhi (c:=c) (ρ:=ρ) (fun z hz=>hrep z (by simp [ho,Op.operands,hz]))
  have bm : m.map ρ=none∨((h.map ρ).isSome=true∧∃ k,m.map ρ=some (.int k hi)):=by
   rcases hm with rfl | ⟨hs',hm⟩
   ·exact .inl rfl
   ·rcases Acj hm (c:=c) (ρ:=ρ) (fun z hz=>hrep z (by simp [ho,Op.operands,hz])) with ⟨h3,_⟩ | ⟨k,hk⟩
    ·exact .inl h3
    ·exact .inr ⟨by simpa using hs',k,hk⟩
  have hb:=AeG (P:=P) (w:=w) true xs.length cap lo hi (l.map ρ) (h.map ρ) (m.map ρ) bl bh bm h1 (by omega)
  have hms : (m.map ρ).isSome=m.isSome:=by cases m <;> rfl
  rw [hms] at hb
  refine ⟨.slice (if (if m.isSome then hi else cap)=lo then a else a.map (·.add (lo*es))) (hi-lo) ((if m.isSome then hi else cap)-lo),?_,?_⟩
  ·simp [execOp,ho,hv,Instr.sliceAt,run_underlying hu,Instr.slice,hb,sizeOf,typeInfo,hinfo,hsz]
  ·have hlen : ((xs.take hi).drop lo).length=hi-lo:=by simp; omega
   cases a with
   | none =>
    obtain ⟨rfl,rfl⟩:=c4 rfl
    simp only [List.length_nil,Nat.le_zero_eq] at h2
    subst h2
    have : lo=0:=by omega
    subst this
    simp only [Rep]
    left
    simp
   | some a' =>
    obtain ⟨rfl,b,off,es',vs,cz0,cE,cR⟩:=c5 a' rfl
    have hvl:=cR.length
    have hrv : AaD c ((xs.take hi).drop lo) ((vs.take hi).drop lo):=(cR.take hi).drop lo
    have hvlen:=hrv.length
    simp only [Rep]
    right
    refine ⟨trivial,if (if m.isSome then hi else cap)=lo then a' else a'.add (lo*es),b,if (if m.isSome then hi else cap)=lo then off else off+lo*es,(if m.isSome then hi else cap)-lo,es,(vs.take hi).drop lo,?_,?_,?_,?_,?_,?_,hrv⟩
    ·rw [hvlen,hlen]
     generalize (if m.isSome=true then hi else cap)=M
     by_cases hMl : M=lo
     ·rw [if_pos hMl,if_pos hMl]
     ·rw [if_neg hMl,if_neg hMl,Option.map_some]
    ·rw [hvlen,hlen]; split <;> omega
    ·split <;> omega
    ·intro hf
     rw [hvlen,hlen]
     simp only [Bool.or_eq_true,Bool.and_eq_true] at hf
     rcases hf with hf | ⟨hf,hf2⟩
     ·simp [hf]
     ·have hcap:=c3 (.inl hf)
      have : h=none:=by cases h <;> simp_all
      subst this
      simp only [AcE,Option.some.injEq] at hhi
      split <;> omega
    ·intro hc0
     have hne : ¬ ((if m.isSome then hi else cap)=lo):=by omega
     obtain ⟨q1,q2⟩:=cz0 (by split at hc0 <;> omega)
     cases q1
     rw [if_neg hne,if_neg hne,Afw]
     exact ⟨rfl,q2⟩
    ·by_cases hemp : hi-lo=0
     ·have : (vs.take hi).drop lo = []:=List.eq_nil_of_length_eq_zero (by omega)
      rw [this]; intro i hi'; simp at hi'
     ·have hne : ¬ ((if m.isSome then hi else cap)=lo):=by split <;> omega
      rw [if_neg hne]
      have hes : es'=es:=by
       have hlt : lo<vs.length:=by omega
       have h3:=(cE lo hlt).1
       have h4:=Ae0 hs cR vs[lo] (List.getElem_mem hlt)
       omega
      subst hes
      exact cE.sub lo hi
theorem Amz {P : Program} {o : Oper} {s : Nat→AV} {H : Aac} {N : Nat} (hc : AaY o=true) (t : TypeId) (y : Operand) (l h : Option Operand) (ho : o.op = .slice t y l h none) (b : ByteArray) (hy : ev s y = .str b)
 (hu : P.underlying t=some .string) (lo hi : Nat) (hlo : AcE s 0 l=some lo) (hhi : AcE s b.size h=some hi) (h1 : lo≤hi) (h2 : hi≤b.size) :
 Aao P o s H N (.str (b.extract lo hi)) H N [] [] :=
 Aao.pure hc fun ρ w c hh hrep=>by
  have r1:=hrep y (by simp [ho,Op.operands])
  rw [hy] at r1
  simp only [Rep] at r1
  have bl:=Acj hlo (c:=c) (ρ:=ρ) (fun z hz=>hrep z (by simp [ho,Op.operands,hz]))
  have bh:=Acj hhi (c:=c) (ρ:=ρ) (fun z hz=>hrep z (by simp [ho,Op.operands,hz]))
  have hb:=AeG (P:=P) (w:=w) false b.size b.size lo hi (l.map ρ) (h.map ρ) none bl bh (.inl rfl) h1 h2
  refine ⟨.string (b.extract lo hi),?_,?_⟩
  ·simp [execOp,ho,r1.1,Instr.sliceAt,run_underlying hu,Instr.slice,hb]
  ·simp only [Rep]
   refine ⟨trivial,?_⟩
   have : (b.extract lo hi).size≤b.size:=by simp; omega
   omega
theorem Aih {P : Program} {o : Oper} {s : Nat→AV} {H : Aac} {N : Nat} (hc : AaY o=true) (t : TypeId) (y : Operand) (l h m : Option Operand) (ho : o.op = .slice t y l h m) (id off es len : Nat) (full : Bool) (hy : (ev s y).un = .slc id off es len full)
 (hid : id<N) (obj : AaZ) (hob : H id=some obj) (hng : obj ≠ .grow []) (e by_ : Nat) (hE : Aap P t=some (e,es,by_)) (lo hi : Nat) (hlo : AcE s 0 l=some lo) (hhi : AcE s len h=some hi)
 (hm : m=none∨(h.isSome=true∧AcE s 0 m=some hi)) (h1 : lo≤hi) (h2 : hi≤len) :
 Aao P o s H N (.slc id (off+lo*es) es (hi-lo) (m.isSome||(full&&h.isNone))) H N [id] [] :=
 Aao.read [id] (fun i h=>by simp at h; omega) fun n c s1 H1 a w hrel hu' hT=>by
  have hrep : ∀ z ∈ o.op.operands.toList,Rep c (ev s z) (a.eval z):=fun z hz=>Aaj hrel hu' hc hz
  have r1:=(hrep y (by simp [ho,Op.operands])).un
  rw [hy] at r1
  obtain ⟨ii,hu,hinfo,hsz,_⟩:=Aa9 hE
  obtain ⟨b,base,sz,hl,hor⟩:=hrel.hr.live_of ((hT id (by simp)).trans hob) hng
  obtain ⟨cap,o',hv,ho',c1,c2,c3,c4⟩:=Abd r1 hl
  have bl:=Acj hlo (c:=c) (ρ:=a.eval) (fun z hz=>hrep z (by simp [ho,Op.operands,hz]))
  have bh:=Acj hhi (c:=c) (ρ:=a.eval) (fun z hz=>hrep z (by simp [ho,Op.operands,hz]))
  have bm : m.map a.eval=none∨((h.map a.eval).isSome=true∧∃ k,m.map a.eval=some (.int k hi)):=by
   rcases hm with rfl | ⟨hs',hm⟩
   ·exact .inl rfl
   ·rcases Acj hm (c:=c) (ρ:=a.eval) (fun z hz=>hrep z (by simp [ho,Op.operands,hz])) with ⟨h3,_⟩ | ⟨k,hk⟩
    ·exact .inl h3
    ·exact .inr ⟨by simpa using hs',k,hk⟩
  have hb:=AeG (P:=P) (w:=w) true len cap lo hi (l.map a.eval) (h.map a.eval) (m.map a.eval) bl bh bm h1 (by omega)
  have hms : (m.map a.eval).isSome=m.isSome:=by cases m <;> rfl
  rw [hms] at hb
  have hM : ∀ M,M=(if m.isSome then hi else cap)→lo≤M∧hi≤M∧M≤cap:=by
   intro M hM; subst hM; split <;> omega
  obtain ⟨m1,m2,m3⟩:=hM _ rfl
  have hcapM : (m.isSome||(full&&h.isNone))=true→(if m.isSome then hi else cap)-lo=hi-lo:=by
   intro hf
   simp only [Bool.or_eq_true,Bool.and_eq_true] at hf
   rcases hf with hf | ⟨hf,hf2⟩
   ·simp [hf]
   ·have hcap:=c4 hf
    have : h=none:=by cases h <;> simp_all
    subst this
    simp only [AcE,Option.some.injEq] at hhi
    split <;> omega
  generalize (if m.isSome then hi else cap)=M at hb m1 m2 m3 hcapM
  refine ⟨.slice (some ⟨b,if M=lo then o' else o'+lo*es,none⟩) (hi-lo) (M-lo),?_,?_⟩
  ·simp only [execOp,ho,hv,Instr.sliceAt,Sem.run_bind,run_underlying hu,Instr.slice,hb,Ad8 (P:=P) (w:=w) (t:=e) (n:=es) (by simp [Aa8,hinfo,hsz]),Result.andThen_ok,Sem.run_pure,Option.map_some,Afw]
   by_cases hMl : M=lo <;> simp [hMl]
  ·simp only [Rep]
   refine ⟨by rw [hl]; simp,rfl,fun he=>by (rw [hl] at he; cases he),fun b' base' sz' hl'=>?_⟩
   rw [hl] at hl'; cases hl'
   refine ⟨M-lo,if M=lo then o' else o'+lo*es,rfl,fun hpos=>?_,by omega,by omega,?_,hcapM⟩
   ·rw [if_neg (by omega),ho' (by omega)]; omega
   ·have : lo*es+(M-lo)*es≤cap*es:=by rw [← Nat.add_mul]; exact Nat.mul_le_mul_right _ (by omega)
    omega
end Go.Abs
