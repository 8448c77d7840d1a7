import Derived.Test.YthiodjlppahmkaaGreatExtLay14
set_option linter.unusedVariables false
set_option linter.unusedSimpArgs false
namespace Go.Abs
open Go.RowKit (Below)
abbrev CK:=AV→Aac→Nat→List Nat→List Nat→Prop
abbrev Log:=List (List Nat×List Nat)
def Aja (P : Program) (t : TypeId) : Bool:=match P.underlying t with | some (.slice _)=>true | _=>false
def Aiw (P : Program) (t : TypeId) : Bool:=match P.underlying t with | some .string=>true | _=>false
def Aiy (P : Program) (t : TypeId) : Option IntKind:=match P.underlying t with | some (.int k)=>some k | _=>none
def An4 (P : Program) (t : TypeId) : Bool:=match P.underlying t with | some (.slice e)=>(match P.underlying e with | some (.int .u8)=>true | _=>false) | _=>false
theorem Aix {P : Program} {t : TypeId} (h : Aja P t=true) : ∃ e,P.underlying t=some (.slice e):=by
 unfold Aja at h; split at h
 ·exact ⟨_,by assumption⟩
 ·cases h
theorem Adp {P : Program} {t : TypeId} (h : Aiw P t=true) : P.underlying t=some .string:=by
 unfold Aiw at h; split at h
 ·assumption
 ·cases h
theorem Aos {P : Program} {t : TypeId} {k : IntKind} (h : Aiy P t=some k) : P.underlying t=some (.int k):=by
 unfold Aiy at h; split at h
 ·cases h; assumption
 ·cases h
theorem Ag9 {P : Program} {t : TypeId} (h : An4 P t=true) : ∃ e,P.underlying t=some (.slice e)∧P.underlying e=some (.int .u8):=by
 unfold An4 at h; split at h
 ·split at h
  ·exact ⟨_,by assumption,by assumption⟩
  ·cases h
 ·cases h
def okEls (es : Nat) (xs : List AV) : Prop:=sized es xs∧∀ x ∈ AaI xs,x.one=true
@[simp] theorem AvO {es : Nat} : okEls es []↔True:=by simp [okEls,sized,AaI]
@[simp] theorem Aom {es : Nat} {x : AV} {xs : List AV} : okEls es (x::xs)↔(x.okc=true∧x.cells.length=es∧x.cells.all AV.one=true)∧okEls es xs:=by
 simp only [okEls,sized,AaI,List.mem_cons,List.flatMap_cons,List.mem_append,List.all_eq_true]
 constructor
 ·intro ⟨h1,h2⟩
  exact ⟨⟨(h1 x (.inl rfl)).1,(h1 x (.inl rfl)).2,fun y hy=>h2 y (.inl hy)⟩,fun y hy=>h1 y (.inr hy),fun y hy=>h2 y (.inr hy)⟩
 ·intro ⟨⟨h1,h2,h3⟩,h4,h5⟩
  refine ⟨fun y hy=>?_,fun y hy=>?_⟩
  ·rcases hy with rfl | hy
   ·exact ⟨h1,h2⟩
   ·exact h4 y hy
  ·rcases hy with hy | hy
   ·exact h3 y hy
   ·exact h5 y hy
theorem Acw {es : Nat} {xs : List AV} : okEls es xs↔∀ x ∈ xs,x.okc=true∧x.cells.length=es∧x.cells.all AV.one=true:=by
 induction xs with
 | nil=>simp
 | cons x xs ih=>simp [ih]
theorem okEls.take {es : Nat} {xs : List AV} (h : okEls es xs) (n : Nat) : okEls es (xs.take n):=Acw.2 fun x hx=>Acw.1 h x (List.mem_of_mem_take hx)
theorem okEls.drop {es : Nat} {xs : List AV} (h : okEls es xs) (n : Nat) : okEls es (xs.drop n):=Acw.2 fun x hx=>Acw.1 h x (List.mem_of_mem_drop hx)
@[simp] theorem Aol {α : Type} {k : IntKind} {f : α→Int} {l : List α} : okEls 1 (l.map fun x => .int k (f x)):=Acw.2 fun x hx=>by
 simp only [List.mem_map] at hx
 obtain ⟨b,_,rfl⟩:=hx
 simp [AV.okc,AV.one,AV.cells]
def bnd (s : Nat→AV) (d : Nat) (x : Option Operand) (k : Nat→Prop) : Prop :=
 match x with
 | none=>k d
 | some y=>match ev s y with
  | .int _ n=>0≤n∧k n.toNat
  | _=>False
theorem Aeg {s : Nat→AV} {d : Nat} {x : Option Operand} {k : Nat→Prop} (h : bnd s d x k) : ∃ n,AcE s d x=some n∧k n:=by
 unfold bnd at h
 cases x with
 | none=>exact ⟨d,rfl,h⟩
 | some y =>
  simp only [] at h
  split at h
  ·rename_i kk n hy
   exact ⟨n.toNat,by simp [AcE,hy,h.1],h.2⟩
  ·exact h.elim
def ApA (H : Aac) (N : Nat) (X : AV) (k : List AV→List Nat→Prop) : Prop :=
 match X with
 | .lst _ _ ys=>k ys []
 | .str b=>k (bytes b.data.toList) []
 | .slc id off es len _=>es=1∧id<N∧match H id with
  | some o=>match o.cs? with
   | some cs=>off+len≤cs.length∧k ((cs.drop off).take len) [id]
   | none=>False
  | none=>False
 | _=>False
theorem Adv {H : Aac} {N : Nat} {X : AV} {k : List AV→List Nat→Prop} (h : ApA H N X k) : ∃ ys T,Afc H X=some (ys,T)∧(∀ id ∈ T,id<N)∧k ys T∧((∃ id off e len f,X = .slc id off e len f)→∃ id,T = [id]):=by
 unfold ApA at h
 split at h
 ·exact ⟨_,[],rfl,by simp,h,fun ⟨_,_,_,_,_,h⟩=>by cases h⟩
 ·exact ⟨_,[],rfl,by simp,h,fun ⟨_,_,_,_,_,h⟩=>by cases h⟩
 ·rename_i id off es len f
  obtain ⟨rfl,hid,h⟩:=h
  split at h
  ·rename_i o ho
   split at h
   ·rename_i cs hcs
    exact ⟨_,[id],by simp [Afc,ho,hcs,h.1],by simpa using hid,h.2,fun _=>⟨id,rfl⟩⟩
   ·exact h.elim
  ·exact h.elim
 ·exact h.elim
def AnX (P : Program) (f : FuncId) (args : List AV) (H : Aac) (N : Nat) (x : AV) (H' : Aac) (N' : Nat) (T W : List Nat) : Prop :=
 ∀ (o : Oper) (s : Nat→AV) (g : Operand) (as : Array Operand) (ts : Array TypeId) (caps : List AV),AaY o=true→o.op = .call { callee := .value g,args:=as,argTypes:=ts } → ev s g = .fn f caps→as.toList.map (ev s)++caps=args →
  Aao P o s H N x H' N' T W
def Ajc (P : Program) (f : FuncId) (args : List AV) (H : Aac) (N : Nat) (K : CK) : Prop:=∃ x H' N' T W,AnX P f args H N x H' N' T W∧K x H' N' T W
def Aev (H : Aac) (N id : Nat) (k : AaZ→List AV→Prop) : Prop :=
 id<N∧match H id with
 | some o=>match o.cs? with
  | some cs=>k o cs
  | none=>False
 | none=>False
theorem Abm {H : Aac} {N id : Nat} {k : AaZ→List AV→Prop} (h : Aev H N id k) : id<N∧∃ o cs,H id=some o∧o.cs? = some cs∧k o cs:=by
 obtain ⟨h0,h⟩:=h
 refine ⟨h0,?_⟩
 split at h
 ·split at h
  ·exact ⟨_,_,by assumption,by assumption,h⟩
  ·exact h.elim
 ·exact h.elim
def AiL (P : Program) (mu : Bool) (b : Builtin) (ts : List TypeId) (xs : List AV) (H : Aac) (N : Nat) (K : CK) : Prop :=
 match b,ts,xs with
 | .len,[t],[.lst _ _ ys]=>Aja P t=true∧K (.int .i64 ys.length) H N [] []
 | .len,[t],[.str b]=>Aiw P t=true∧K (.int .i64 b.size) H N [] []
 | .len,[t],[.slc id _ _ len _]=>Aja P t=true∧id<N∧(∃ o,H id=some o)∧K (.int .i64 len) H N [id] []
 | .len,[t],[.rm (.slc id _ _ len _)]=>Aja P t=true∧id<N∧(∃ o,H id=some o)∧K (.int .i64 len) H N [id] []
 | .max,_,[.int k a,.int k' b]=>k=k'∧K (AuU k a b) H N [] []
 | .min,_,[.int k a,.int k' b]=>k=k'∧K (AuT k a b) H N [] []
 | .append,[t,t'],[.lst nl fl ys,z]=>AcP P t'=true ∧
  if mu=true then (fl=true∧nl=false∧match Aap P t with
   | some (_,es,by_)=>0<es∧okEls es ys∧ApA H N z fun zs T=>zs≠[]∧okEls es zs∧(T≠[]→zs.all AV.one=true)∧ys.length+zs.length≤maxLen∧(ys.length+zs.length)*by_≤140737488355328∧K (.slc N 0 es (ys.length+zs.length) false) (upd H N (some (.grow (AaI (ys++zs))))) (N+1) T [N]
   | none=>False)∨(nl=true∨(fl=true∧ys = []))∧match Aap P t with
   | some (_,es,by_)=>0<es∧ApA H N z fun zs T=>okEls es zs∧(T≠[]→zs.all AV.one=true)∧zs.length≤maxLen∧zs.length*by_≤140737488355328∧K (.slc N 0 es zs.length false) (upd H N (some (.grow (AaI zs)))) (N+1) T [N]
   | none=>False
  else (fl=true∨nl=true)∧match Aap P t with
   | some (_,es,by_)=>okEls es ys∧ApA H N z fun zs T=>okEls es zs∧(T≠[]→zs.all AV.one=true)∧ys.length+zs.length≤maxLen∧(ys.length+zs.length)*by_≤140737488355328∧K (.lst (nl&&zs.isEmpty) false (ys++zs)) H N T []
   | none=>False
 | .append,[t,t'],[.slc id off es len _,z]=>id<N∧AcP P t'=true∧match Aap P t,H id with
  | some (_,es',by_),some obj=>match obj.cs? with
   | some cs=>es'=es∧0<es∧off+len*es=cs.length∧(off=0∨∃ x,obj = .cells x)∧cs.all AV.one=true∧ApA H N z fun zs T=>okEls es zs∧(T≠[]→zs.all AV.one=true)∧len+zs.length≤maxLen∧(len+zs.length)*by_≤140737488355328 ∧
    K (.slc N 0 es (len+zs.length) false) (upd (upd H id none) N (some (obj.with (cs.drop off++AaI zs)))) (N+1) (id::T) [id,N]
   | none=>False
  | _,_=>False
 | .append,[t,t'],[.rm (.slc id off es len _),z]=>id<N∧AcP P t'=true∧match Aap P t,H id with
  | some (_,es',_),some obj=>match obj.cs? with
   | some cs=>es'=es∧cs≠[]∧off+len*es=cs.length∧ApA H N z fun zs T=>zs.length=1∧okEls es zs∧(T≠[]→zs.all AV.one=true) ∧
    K (.slc id off es (len+zs.length) false) (upd H id (some (obj.with (cs++AaI zs)))) N (id::T) [id]
   | none=>False
  | _,_=>False
 | .clear,[t],[.slc id off es len _]=>match Aap P t with
  | some (e,es',_)=>match AbD P e with
   | some x=>Aev H N id fun obj cs=>cs≠[]∧es'=es∧off+len*es≤cs.length∧x.cells.length=es∧x.cells.all AV.one=true∧K (.tup []) (upd H id (some (obj.with (setR cs off (AaI (List.replicate len x)))))) N [id] [id]
   | none=>False
  | none=>False
 | .copy,[t,_],[.slc id off es len _,z]=>match Aap P t with
  | some (_,es',_)=>Aev H N id fun obj cs=>cs≠[]∧es'=es∧off+len*es≤cs.length∧ApA H N (AlA len z) fun zs T=>okEls es zs∧(T≠[]→zs.all AV.one=true)∧zs.length≤len∧K (.int .i64 zs.length) (upd H id (some (obj.with (setR cs off (AaI zs))))) N (id::T) [id]
  | none=>False
 | .delete,[t,_],[.map id,z]=>id<N∧match H id,AfE P t with
  | some (.mp es),some (kd,_)=>kd.has z=true∧(es.all fun p=>kd.has p.1)=true∧K (.tup []) (upd H id (some (.mp (Akq es z)))) N [id] [id]
  | _,_=>False
 | _,_,_=>False
theorem AcW {o : AaZ} {cs : List AV} (h : o.cs? = some cs) (hn : cs≠[]) : o ≠ .grow []:=by
 intro e; subst e; simp only [AaZ.cs?,Option.some.injEq] at h; exact hn h.symm
def Ax4 (P : Program) (t : TypeId) (y z : AV) (H : Aac) (N : Nat) (K : CK) : Prop :=
 match z with
 | .int _ i=>match y with
  | .lst _ _ xs=>match Aap P t with
   | some (_,es,_)=>0≤i∧i.toNat<xs.length∧((xs[i.toNat]?).getD .undef).okc=true∧((xs[i.toNat]?).getD .undef).cells.length=es∧K (.cptr ((xs[i.toNat]?).getD .undef).cells) H N [] []
   | none=>False
  | .slc id off es len _=>match Aap P t with
   | some (_,es',_)=>Aev H N id fun o cs=>cs≠[]∧es'=es∧0≤i∧i.toNat<len∧K (.ptr id (off+i.toNat*es)) H N [id] []
   | none=>False
  | .cptr cs=>match Aet P t with
   | some (m,es)=>0≤i∧i<m∧K (.cptr (cs.drop (i.toNat*es))) H N [] []
   | none=>False
  | .ptr id off=>match Aet P t with
   | some (m,es)=>Aev H N id fun o cs=>cs≠[]∧0≤i∧i<m∧K (.ptr id (off+i.toNat*es)) H N [id] []
   | none=>False
  | _=>False
 | _=>False
def Ajq (zv : AV) (r : Option AV) : Bool→AV
 | true => .tup [r.getD zv,.bool r.isSome]
 | false=>r.getD zv
def Al6 (mu : List Nat) (d : Option Nat) : Bool:=match d with | some d=>mu.contains d | none=>false
def aop (P : Program) (mu : List Nat) (o : Oper) (s : Nat→AV) (H : Aac) (N : Nat) (K : CK) : Prop :=
 match o.op with
 | .move y=>K (ev s y) H N [] []
 | .assign y=>K (ev s y) H N [] []
 | .pick t x y=>match ev s t with
  | .bool b=>K (Akk b (ev s x) (ev s y)) H N [] []
  | _=>False
 | .binOp op xt x y _=>match Auo P op xt (ev s x) (ev s y) with
  | some r=>AhM op (ev s x) (ev s y)∧K r H N [] []
  | none=>False
 | .unOp op _ x=>match aun op (ev s x) with
  | some r=>K r H N [] []
  | none=>False
 | .load t y=>match ev s y with
  | .cptr cs=>match AeL P t cs with
   | some x=>K x H N [] []
   | none=>False
  | .ptr id off=>Aev H N id fun _ cs=>match AeL P t (cs.drop off) with
   | some x=>K x H N [id] []
   | none=>False
  | _=>False
 | .store t y z=>match ev s y with
  | .ptr id off=>Aev H N id fun obj cs=>cs≠[]∧(ev s z).fits P t=true∧off+(ev s z).cells.length≤cs.length∧K .skip (upd H id (some (obj.with (setR cs off (ev s z).cells)))) N [id] [id]
  | _=>False
 | .box t y=>(ev s y).fits P t=true∧K (.ptr N 0) (upd H N (some (.cells (ev s y).cells))) (N+1) [] [N]
 | .alloc t=>match AbW P t with
  | some z=>K (.ptr N 0) (upd H N (some (.cells z))) (N+1) [] [N]
  | none=>False
 | .fieldAddr t y f=>match Abz P t f with
  | some d=>match ev s y with
   | .cptr cs=>K (.cptr (cs.drop d)) H N [] []
   | .ptr id off=>Aev H N id fun _ cs=>cs≠[]∧K (.ptr id (off+d)) H N [id] []
   | _=>False
  | none=>False
 | .nilCheck y=>match ev s y with
  | .cptr cs=>K (.cptr cs) H N [] []
  | .fn f cs=>K (.fn f cs) H N [] []
  | .ptr id off=>Aev H N id fun _ cs=>cs≠[]∧K (.ptr id off) H N [id] []
  | _=>False
 | .indexAddr t y z=>Ax4 P t (ev s y) (ev s z) H N K
 | .index t y z=>match ev s y,ev s z with
  | .str b,.int _ i=>Aiw P t=true∧0≤i∧i.toNat<b.size∧K (.int .u8 (b.data.toList.getD i.toNat 0).toNat) H N [] []
  | .agg xs,.int _ i=>match Aqx P t with
   | some (m,_)=>0≤i∧i<m∧i.toNat<xs.length∧K ((xs[i.toNat]?).getD .undef) H N [] []
   | none=>False
  | _,_=>False
 | .extract y i=>match ev s y with
  | .tup xs=>match xs[i]? with
   | some x=>K x H N [] []
   | none=>False
  | _=>False
 | .makeFunc (.func f) first caps=>first.size=0∧K (.fn f (caps.toList.map (ev s))) H N [] []
 | .slice t y l h m=>match ev s y with
  | .lst nl fl xs=>match Aap P t with
   | some (_,es,_)=>okEls es xs∧bnd s 0 l fun lo=>bnd s xs.length h fun hi=>(m=none∨(h.isSome=true∧AcE s 0 m=some hi))∧lo≤hi∧hi≤xs.length∧K (.lst nl (m.isSome||(fl&&h.isNone)) ((xs.take hi).drop lo)) H N [] []
   | none=>False
  | .str b=>Aiw P t=true∧m=none∧bnd s 0 l fun lo=>bnd s b.size h fun hi=>lo≤hi∧hi≤b.size∧K (.str (b.extract lo hi)) H N [] []
  | .slc id off es len full=>match Aap P t with
   | some (_,es',_)=>Aev H N id fun _ cs=>cs≠[]∧es'=es∧bnd s 0 l fun lo=>bnd s len h fun hi=>(m=none∨(h.isSome=true∧AcE s 0 m=some hi))∧lo≤hi∧hi≤len ∧
    K (.slc id (off+lo*es) es (hi-lo) (m.isSome||(full&&h.isNone))) H N [id] []
   | none=>False
  | .rm (.slc id off es len full)=>match Aap P t with
   | some (_,es',_)=>Aev H N id fun _ cs=>cs≠[]∧es'=es∧bnd s 0 l fun lo=>bnd s len h fun hi=>(m=none∨(h.isSome=true∧AcE s 0 m=some hi))∧lo≤hi∧hi≤len ∧
    K (.slc id (off+lo*es) es (hi-lo) (m.isSome||(full&&h.isNone))) H N [id] []
   | none=>False
  | _=>False
 | .buildSlice t n parts=>match Aap P t with
  | some (_,es,_)=>AgV 0 parts.toList=true∧parts.size=n∧okEls es (parts.toList.map fun p=>ev s p.2)∧n*es≤16777216∧0<es ∧
   if Al6 mu o.dst=true then K (.slc N 0 es n true) (upd H N (some (.cells (AaI (parts.toList.map fun p=>ev s p.2))))) (N+1) [] [N]
   else K (.lst false true (parts.toList.map fun p=>ev s p.2)) H N [] []
  | none=>False
 | .makeSlice t y z=>match Aap P t with
  | some (e,es,by_)=>match ev s y,ev s z,AbD P e with
   | .int k m,.int k' m',some x=>m'=m∧0≤m∧by_*m.toNat≤281474976710656∧m.toNat≤maxLen ∧
    if Al6 mu o.dst=true then K (.slc N 0 es m.toNat true) (upd H N (some (.cells (AaI (List.replicate m.toNat x))))) (N+1) [] [N]
    else K (.lst false true (List.replicate m.toNat x)) H N [] []
   | _,_,_=>False
  | none=>False
 | .build t parts=>Abp P t=true∧match AkB P t (parts.toList.map fun p=>(p.1,ev s p.2)) with
  | some cs=>K (.agg cs) H N [] []
  | none=>False
 | .convert src dst y=>match ev s y with
  | .int k n=>(P.underlying src).isSome=true∧match Aiy P dst with
   | some k'=>K (.int k' (k'.wrap n)) H N [] []
   | none=>False
  | .str b=>Aiw P src=true∧An4 P dst=true∧(match Aap P dst with | some (_,es,_)=>es=1 | none=>False) ∧
   if Al6 mu o.dst=true then K (.slc N 0 1 b.size false) (upd H N (some (.cells (bytes b.data.toList)))) (N+1) [] [N] else K (.lst false false (bytes b.data.toList)) H N [] []
  | .slc id off es len full=>(src=dst∧es=1∧An4 P src=true∧Aev H N id fun obj cs=>cs≠[]∧K (.slc id off es len full) (upd H id (some obj)) N [id] [id]) ∨
   (An4 P src=true∧Aiw P dst=true∧ApA H N (.slc id off es len full) fun ys T=>AeP ys=true∧K (.str (sOf ys)) H N T [])
  | X=>An4 P src=true∧Aiw P dst=true∧ApA H N X fun ys T=>AeP ys=true∧K (.str (sOf ys)) H N T []
 | .field t y f=>match ev s y with
  | .agg cs=>match AiZ cs (AcC P t f) with
   | some x=>K x H N [] []
   | none=>False
  | _=>False
 | .makeMap _ none=>K (.map N) (upd H N (some (.mp []))) (N+1) [] [N]
 | .range t y=>match ev s y with
  | .str b=>Aiw P t=true∧K (.ptr N 0) (upd H N (some (.it b 0))) (N+1) [] [N]
  | _=>False
 | .next y true=>match ev s y with
  | .ptr id 0=>id<N∧match H id with
   | some (.it b p)=>if h : p<b.size then (b[p]'h).toNat<128∧K (.tup [.bool true,.int .i64 p,.int .i32 (b[p]'h).toNat]) (upd H id (some (.it b (p+1)))) N [id] [id] else K (.tup [.bool false]) H N [id] []
   | _=>False
  | _=>False
 | .lookup t y z ok=>match ev s y with
  | .map id=>id<N∧match H id,AfE P t with
   | some (.mp es),some (kd,zv)=>kd.has (ev s z)=true∧(es.all fun p=>kd.has p.1)=true∧K (Ajq zv (Ah4 es (ev s z)) ok) H N [id] []
   | _,_=>False
  | _=>False
 | .mapUpdate t y z v=>match ev s y with
  | .map id=>id<N∧match H id,AfE P t with
   | some (.mp es),some (kd,_)=>kd.has (ev s z)=true∧(es.all fun p=>kd.has p.1)=true∧K .skip (upd H id (some (.mp (Aeo es (ev s z) (ev s v))))) N [id] [id]
   | _,_=>False
  | _=>False
 | .insert t y z v=>match ev s y with
  | .map id=>id<N∧match H id,AfE P t with
   | some (.mp es),some (kd,_)=>kd.has (ev s z)=true∧(es.all fun p=>kd.has p.1)=true∧K .skip (upd H id (some (.mp (Aeo es (ev s z) (ev s v))))) N [id] [id]
   | _,_=>False
  | _=>False
 | .call c=>match c.callee with
  | .builtin b=>AiL P (Al6 mu o.dst) b c.argTypes.toList (c.args.toList.map (ev s)) H N K
  | .value g=>match ev s g with
   | .fn f caps=>Ajc P f (c.args.toList.map (ev s)++caps) H N K
   | _=>False
  | _=>False
 | _=>False
end Go.Abs
