import Derived.Test.YtelffnegemdicaaMdtLay14
set_option linter.unusedVariables false
set_option linter.unusedSimpArgs false
namespace Go.Abs
open Go.RowKit (Below)
abbrev CK:=AV→Aai→Nat→List Nat→List Nat→Prop
abbrev Log:=List (List Nat×List Nat)
def Alh (P : Program) (t : TypeId) : Bool:=match P.underlying t with | some (.slice _)=>true | _=>false
def Akg (P : Program) (t : TypeId) : Bool:=match P.underlying t with | some .string=>true | _=>false
def Akh (P : Program) (t : TypeId) : Option IntKind:=match P.underlying t with | some (.int k)=>some k | _=>none
def AoV (P : Program) (t : TypeId) : Bool:=match P.underlying t with | some (.slice e)=>(match P.underlying e with | some (.int .u8)=>true | _=>false) | _=>false
theorem Ah5 {P : Program} {t : TypeId} (h : Alh P t=true) : ∃ e,P.underlying t=some (.slice e):=by
 unfold Alh at h; split at h
 ·exact ⟨_,by assumption⟩
 ·cases h
theorem Adj {P : Program} {t : TypeId} (h : Akg P t=true) : P.underlying t=some .string:=by
 unfold Akg at h; split at h
 ·assumption
 ·cases h
theorem Amj {P : Program} {t : TypeId} {k : IntKind} (h : Akh P t=some k) : P.underlying t=some (.int k):=by
 unfold Akh at h; split at h
 ·cases h; assumption
 ·cases h
theorem AgY {P : Program} {t : TypeId} (h : AoV P t=true) : ∃ e,P.underlying t=some (.slice e)∧P.underlying e=some (.int .u8):=by
 unfold AoV at h; split at h
 ·split at h
  ·exact ⟨_,by assumption,by assumption⟩
  ·cases h
 ·cases h
def okEls (es : Nat) (xs : List AV) : Prop:=sized es xs∧∀ x ∈ AaO xs,x.one=true
@[simp] theorem AsF {es : Nat} : okEls es []↔True:=by simp [okEls,sized,AaO]
@[simp] theorem Ame {es : Nat} {x : AV} {xs : List AV} : okEls es (x::xs)↔(x.okc=true∧x.cells.length=es∧x.cells.all AV.one=true)∧okEls es xs:=by
 simp only [okEls,sized,AaO,List.mem_cons,List.flatMap_cons,List.mem_append,List.all_eq_true]
 constructor
 ·intro ⟨h1,h2⟩
  exact ⟨⟨(h1 x (.inl rfl)).1,(h1 x (.inl rfl)).2,fun y hy=>h2 y (.inl hy)⟩,fun y hy=>h1 y (.inr hy),fun y hy=>h2 y (.inr hy)⟩
 ·intro ⟨⟨h1,h2,h3⟩,h4,h5⟩
  refine ⟨fun y hy=>?_,fun y hy=>?_⟩
  ·rcases hy with rfl | hy
   ·exact ⟨h1,h2⟩
   ·exact h4 y hy
  ·rcases hy with hy | hy
   ·exact h3 y hy
   ·exact h5 y hy
theorem Acy {es : Nat} {xs : List AV} : okEls es xs↔∀ x ∈ xs,x.okc=true∧x.cells.length=es∧x.cells.all AV.one=true:=by
 induction xs with
 | nil=>simp
 | cons x xs ih=>simp [ih]
theorem okEls.take {es : Nat} {xs : List AV} (h : okEls es xs) (n : Nat) : okEls es (xs.take n):=Acy.2 fun x hx=>Acy.1 h x (List.mem_of_mem_take hx)
theorem okEls.drop {es : Nat} {xs : List AV} (h : okEls es xs) (n : Nat) : okEls es (xs.drop n):=Acy.2 fun x hx=>Acy.1 h x (List.mem_of_mem_drop hx)
@[simp] theorem Amd {α : Type} {k : IntKind} {f : α→Int} {l : List α} : okEls 1 (l.map fun x => .int k (f x)):=Acy.2 fun x hx=>by
 simp only [List.mem_map] at hx
 obtain ⟨b,_,rfl⟩:=hx
 simp [AV.okc,AV.one,AV.cells]
def bnd (s : Nat→AV) (d : Nat) (x : Option Operand) (k : Nat→Prop) : Prop :=
 match x with
 | none=>k d
 | some y=>match ev s y with
  | .int _ n=>0≤n∧k n.toNat
  | _=>False
theorem AeN {s : Nat→AV} {d : Nat} {x : Option Operand} {k : Nat→Prop} (h : bnd s d x k) : ∃ n,AcJ s d x=some n∧k n:=by
 unfold bnd at h
 cases x with
 | none=>exact ⟨d,rfl,h⟩
 | some y =>
  simp only [] at h
  split at h
  ·rename_i kk n hy
   exact ⟨n.toNat,by simp [AcJ,hy,h.1],h.2⟩
  ·exact h.elim
def Ams (H : Aai) (N : Nat) (X : AV) (k : List AV→List Nat→Prop) : Prop :=
 match X with
 | .lst _ _ ys=>k ys []
 | .str b=>k (bytes b.data.toList) []
 | .slc id off es len _=>es=1∧id<N∧match H id with
  | some o=>match o.cs? with
   | some cs=>off+len≤cs.length∧k ((cs.drop off).take len) [id]
   | none=>False
  | none=>False
 | _=>False
theorem Adq {H : Aai} {N : Nat} {X : AV} {k : List AV→List Nat→Prop} (h : Ams H N X k) : ∃ ys T,Afv H X=some (ys,T)∧(∀ id ∈ T,id<N)∧k ys T∧((∃ id off e len f,X = .slc id off e len f)→∃ id,T = [id]):=by
 unfold Ams at h
 split at h
 ·exact ⟨_,[],rfl,by simp,h,fun ⟨_,_,_,_,_,h⟩=>by cases h⟩
 ·exact ⟨_,[],rfl,by simp,h,fun ⟨_,_,_,_,_,h⟩=>by cases h⟩
 ·rename_i id off es len f
  obtain ⟨rfl,hid,h⟩:=h
  split at h
  ·rename_i o ho
   split at h
   ·rename_i cs hcs
    exact ⟨_,[id],by simp [Afv,ho,hcs,h.1],by simpa using hid,h.2,fun _=>⟨id,rfl⟩⟩
   ·exact h.elim
  ·exact h.elim
 ·exact h.elim
def Alt (P : Program) (f : FuncId) (args : List AV) (H : Aai) (N : Nat) (x : AV) (H' : Aai) (N' : Nat) (T W : List Nat) : Prop :=
 ∀ (o : Oper) (s : Nat→AV) (g : Operand) (as : Array Operand) (ts : Array TypeId) (caps : List AV),Aal o=true→o.op = .call { callee := .value g,args:=as,argTypes:=ts } → ev s g = .fn f caps→as.toList.map (ev s)++caps=args →
  Aau P o s H N x H' N' T W
def Alr (P : Program) (f : FuncId) (args : List AV) (H : Aai) (N : Nat) (K : CK) : Prop:=∃ x H' N' T W,Alt P f args H N x H' N' T W∧K x H' N' T W
def Aea (H : Aai) (N id : Nat) (k : Aah→List AV→Prop) : Prop :=
 id<N∧match H id with
 | some o=>match o.cs? with
  | some cs=>k o cs
  | none=>False
 | none=>False
theorem Abx {H : Aai} {N id : Nat} {k : Aah→List AV→Prop} (h : Aea H N id k) : id<N∧∃ o cs,H id=some o∧o.cs? = some cs∧k o cs:=by
 obtain ⟨h0,h⟩:=h
 refine ⟨h0,?_⟩
 split at h
 ·split at h
  ·exact ⟨_,_,by assumption,by assumption,h⟩
  ·exact h.elim
 ·exact h.elim
def AhZ (P : Program) (mu : Bool) (b : Builtin) (ts : List TypeId) (xs : List AV) (H : Aai) (N : Nat) (K : CK) : Prop :=
 match b,ts,xs with
 | .len,[t],[.lst _ _ ys]=>Alh P t=true∧K (.int .i64 ys.length) H N [] []
 | .len,[t],[.str b]=>Akg P t=true∧K (.int .i64 b.size) H N [] []
 | .len,[t],[.slc id _ _ len _]=>Alh P t=true∧id<N∧(∃ o,H id=some o)∧K (.int .i64 len) H N [id] []
 | .len,[t],[.rm (.slc id _ _ len _)]=>Alh P t=true∧id<N∧(∃ o,H id=some o)∧K (.int .i64 len) H N [id] []
 | .max,_,[.int k a,.int k' b]=>k=k'∧K (AsT k a b) H N [] []
 | .min,_,[.int k a,.int k' b]=>k=k'∧K (AsS k a b) H N [] []
 | .append,[t,t'],[.lst nl fl ys,z]=>Acg P t'=true ∧
  if mu=true then (fl=true∧nl=false∧match Aaz P t with
   | some (_,es,by_)=>0<es∧okEls es ys∧Ams H N z fun zs T=>zs≠[]∧okEls es zs∧(T≠[]→zs.all AV.one=true)∧ys.length+zs.length≤maxLen∧(ys.length+zs.length)*by_≤140737488355328∧K (.slc N 0 es (ys.length+zs.length) false) (upd H N (some (.grow (AaO (ys++zs))))) (N+1) T [N]
   | none=>False)∨(nl=true∨(fl=true∧ys = []))∧match Aaz P t with
   | some (_,es,by_)=>0<es∧Ams H N z fun zs T=>okEls es zs∧(T≠[]→zs.all AV.one=true)∧zs.length≤maxLen∧zs.length*by_≤140737488355328∧K (.slc N 0 es zs.length false) (upd H N (some (.grow (AaO zs)))) (N+1) T [N]
   | none=>False
  else (fl=true∨nl=true)∧match Aaz P t with
   | some (_,es,by_)=>okEls es ys∧Ams H N z fun zs T=>okEls es zs∧(T≠[]→zs.all AV.one=true)∧ys.length+zs.length≤maxLen∧(ys.length+zs.length)*by_≤140737488355328∧K (.lst (nl&&zs.isEmpty) false (ys++zs)) H N T []
   | none=>False
 | .append,[t,t'],[.slc id off es len _,z]=>id<N∧Acg P t'=true∧match Aaz P t,H id with
  | some (_,es',by_),some obj=>match obj.cs? with
   | some cs=>es'=es∧0<es∧off+len*es=cs.length∧(off=0∨∃ x,obj = .cells x)∧cs.all AV.one=true∧Ams H N z fun zs T=>okEls es zs∧(T≠[]→zs.all AV.one=true)∧len+zs.length≤maxLen∧(len+zs.length)*by_≤140737488355328 ∧
    K (.slc N 0 es (len+zs.length) false) (upd (upd H id none) N (some (obj.with (cs.drop off++AaO zs)))) (N+1) (id::T) [id,N]
   | none=>False
  | _,_=>False
 | .append,[t,t'],[.rm (.slc id off es len _),z]=>id<N∧Acg P t'=true∧match Aaz P t,H id with
  | some (_,es',_),some obj=>match obj.cs? with
   | some cs=>es'=es∧cs≠[]∧off+len*es=cs.length∧Ams H N z fun zs T=>zs.length=1∧okEls es zs∧(T≠[]→zs.all AV.one=true) ∧
    K (.slc id off es (len+zs.length) false) (upd H id (some (obj.with (cs++AaO zs)))) N (id::T) [id]
   | none=>False
  | _,_=>False
 | .clear,[t],[.slc id off es len _]=>match Aaz P t with
  | some (e,es',_)=>match Abq P e with
   | some x=>Aea H N id fun obj cs=>cs≠[]∧es'=es∧off+len*es≤cs.length∧x.cells.length=es∧x.cells.all AV.one=true∧K (.tup []) (upd H id (some (obj.with (setR cs off (AaO (List.replicate len x)))))) N [id] [id]
   | none=>False
  | none=>False
 | .copy,[t,_],[.slc id off es len _,z]=>match Aaz P t with
  | some (_,es',_)=>Aea H N id fun obj cs=>cs≠[]∧es'=es∧off+len*es≤cs.length∧Ams H N (Akv len z) fun zs T=>okEls es zs∧(T≠[]→zs.all AV.one=true)∧zs.length≤len∧K (.int .i64 zs.length) (upd H id (some (obj.with (setR cs off (AaO zs))))) N (id::T) [id]
  | none=>False
 | .delete,[t,_],[.map id,z]=>id<N∧match H id,Aez P t with
  | some (.mp es),some (kd,_)=>kd.has z=true∧(es.all fun p=>kd.has p.1)=true∧K (.tup []) (upd H id (some (.mp (AjU es z)))) N [id] [id]
  | _,_=>False
 | _,_,_=>False
theorem AcR {o : Aah} {cs : List AV} (h : o.cs? = some cs) (hn : cs≠[]) : o ≠ .grow []:=by
 intro e; subst e; simp only [Aah.cs?,Option.some.injEq] at h; exact hn h.symm
def Auo (P : Program) (t : TypeId) (y z : AV) (H : Aai) (N : Nat) (K : CK) : Prop :=
 match z with
 | .int _ i=>match y with
  | .lst _ _ xs=>match Aaz P t with
   | some (_,es,_)=>0≤i∧i.toNat<xs.length∧((xs[i.toNat]?).getD .undef).okc=true∧((xs[i.toNat]?).getD .undef).cells.length=es∧K (.cptr ((xs[i.toNat]?).getD .undef).cells) H N [] []
   | none=>False
  | .slc id off es len _=>match Aaz P t with
   | some (_,es',_)=>Aea H N id fun o cs=>cs≠[]∧es'=es∧0≤i∧i.toNat<len∧K (.ptr id (off+i.toNat*es)) H N [id] []
   | none=>False
  | .cptr cs=>match AfQ P t with
   | some (m,es)=>0≤i∧i<m∧K (.cptr (cs.drop (i.toNat*es))) H N [] []
   | none=>False
  | .ptr id off=>match AfQ P t with
   | some (m,es)=>Aea H N id fun o cs=>cs≠[]∧0≤i∧i<m∧K (.ptr id (off+i.toNat*es)) H N [id] []
   | none=>False
  | _=>False
 | _=>False
def Akf (zv : AV) (r : Option AV) : Bool→AV
 | true => .tup [r.getD zv,.bool r.isSome]
 | false=>r.getD zv
def Ao7 (mu : List Nat) (d : Option Nat) : Bool:=match d with | some d=>mu.contains d | none=>false
def aop (P : Program) (mu : List Nat) (o : Oper) (s : Nat→AV) (H : Aai) (N : Nat) (K : CK) : Prop :=
 match o.op with
 | .move y=>K (ev s y) H N [] []
 | .assign y=>K (ev s y) H N [] []
 | .pick t x y=>match ev s t with
  | .bool b=>K (AkI b (ev s x) (ev s y)) H N [] []
  | _=>False
 | .binOp op xt x y _=>match As7 P op xt (ev s x) (ev s y) with
  | some r=>AhL op (ev s x) (ev s y)∧K r H N [] []
  | none=>False
 | .unOp op _ x=>match aun op (ev s x) with
  | some r=>K r H N [] []
  | none=>False
 | .load t y=>match ev s y with
  | .cptr cs=>match Aeu P t cs with
   | some x=>K x H N [] []
   | none=>False
  | .ptr id off=>Aea H N id fun _ cs=>match Aeu P t (cs.drop off) with
   | some x=>K x H N [id] []
   | none=>False
  | _=>False
 | .store t y z=>match ev s y with
  | .ptr id off=>Aea H N id fun obj cs=>cs≠[]∧(ev s z).fits P t=true∧off+(ev s z).cells.length≤cs.length∧K .skip (upd H id (some (obj.with (setR cs off (ev s z).cells)))) N [id] [id]
  | _=>False
 | .box t y=>(ev s y).fits P t=true∧K (.ptr N 0) (upd H N (some (.cells (ev s y).cells))) (N+1) [] [N]
 | .alloc t=>match Ab1 P t with
  | some z=>K (.ptr N 0) (upd H N (some (.cells z))) (N+1) [] [N]
  | none=>False
 | .fieldAddr t y f=>match AcD P t f with
  | some d=>match ev s y with
   | .cptr cs=>K (.cptr (cs.drop d)) H N [] []
   | .ptr id off=>Aea H N id fun _ cs=>cs≠[]∧K (.ptr id (off+d)) H N [id] []
   | _=>False
  | none=>False
 | .nilCheck y=>match ev s y with
  | .cptr cs=>K (.cptr cs) H N [] []
  | .fn f cs=>K (.fn f cs) H N [] []
  | .ptr id off=>Aea H N id fun _ cs=>cs≠[]∧K (.ptr id off) H N [id] []
  | _=>False
 | .indexAddr t y z=>Auo P t (ev s y) (ev s z) H N K
 | .index t y z=>match ev s y,ev s z with
  | .str b,.int _ i=>Akg P t=true∧0≤i∧i.toNat<b.size∧K (.int .u8 (b.data.toList.getD i.toNat 0).toNat) H N [] []
  | .agg xs,.int _ i=>match ApQ P t with
   | some (m,_)=>0≤i∧i<m∧i.toNat<xs.length∧K ((xs[i.toNat]?).getD .undef) H N [] []
   | none=>False
  | _,_=>False
 | .extract y i=>match ev s y with
  | .tup xs=>match xs[i]? with
   | some x=>K x H N [] []
   | none=>False
  | _=>False
 | .makeFunc (.func f) first caps=>first.size=0∧K (.fn f (caps.toList.map (ev s))) H N [] []
 | .slice t y l h m=>match ev s y with
  | .lst nl fl xs=>match Aaz P t with
   | some (_,es,_)=>okEls es xs∧bnd s 0 l fun lo=>bnd s xs.length h fun hi=>(m=none∨(h.isSome=true∧AcJ s 0 m=some hi))∧lo≤hi∧hi≤xs.length∧K (.lst nl (m.isSome||(fl&&h.isNone)) ((xs.take hi).drop lo)) H N [] []
   | none=>False
  | .str b=>Akg P t=true∧m=none∧bnd s 0 l fun lo=>bnd s b.size h fun hi=>lo≤hi∧hi≤b.size∧K (.str (b.extract lo hi)) H N [] []
  | .slc id off es len full=>match Aaz P t with
   | some (_,es',_)=>Aea H N id fun _ cs=>cs≠[]∧es'=es∧bnd s 0 l fun lo=>bnd s len h fun hi=>(m=none∨(h.isSome=true∧AcJ s 0 m=some hi))∧lo≤hi∧hi≤len ∧
    K (.slc id (off+lo*es) es (hi-lo) (m.isSome||(full&&h.isNone))) H N [id] []
   | none=>False
  | .rm (.slc id off es len full)=>match Aaz P t with
   | some (_,es',_)=>Aea H N id fun _ cs=>cs≠[]∧es'=es∧bnd s 0 l fun lo=>bnd s len h fun hi=>(m=none∨(h.isSome=true∧AcJ s 0 m=some hi))∧lo≤hi∧hi≤len ∧
    K (.slc id (off+lo*es) es (hi-lo) (m.isSome||(full&&h.isNone))) H N [id] []
   | none=>False
  | _=>False
 | .buildSlice t n parts=>match Aaz P t with
  | some (_,es,_)=>Agd 0 parts.toList=true∧parts.size=n∧okEls es (parts.toList.map fun p=>ev s p.2)∧n*es≤16777216∧0<es ∧
   if Ao7 mu o.dst=true then K (.slc N 0 es n true) (upd H N (some (.cells (AaO (parts.toList.map fun p=>ev s p.2))))) (N+1) [] [N]
   else K (.lst false true (parts.toList.map fun p=>ev s p.2)) H N [] []
  | none=>False
 | .makeSlice t y z=>match Aaz P t with
  | some (e,es,by_)=>match ev s y,ev s z,Abq P e with
   | .int k m,.int k' m',some x=>m'=m∧0≤m∧by_*m.toNat≤281474976710656∧m.toNat≤maxLen ∧
    if Ao7 mu o.dst=true then K (.slc N 0 es m.toNat true) (upd H N (some (.cells (AaO (List.replicate m.toNat x))))) (N+1) [] [N]
    else K (.lst false true (List.replicate m.toNat x)) H N [] []
   | _,_,_=>False
  | none=>False
 | .build t parts=>Acr P t=true∧match Ak5 P t (parts.toList.map fun p=>(p.1,ev s p.2)) with
  | some cs=>K (.agg cs) H N [] []
  | none=>False
 | .convert src dst y=>match ev s y with
  | .int k n=>(P.underlying src).isSome=true∧match Akh P dst with
   | some k'=>K (.int k' (k'.wrap n)) H N [] []
   | none=>False
  | .str b=>Akg P src=true∧AoV P dst=true∧(match Aaz P dst with | some (_,es,_)=>es=1 | none=>False) ∧
   if Ao7 mu o.dst=true then K (.slc N 0 1 b.size false) (upd H N (some (.cells (bytes b.data.toList)))) (N+1) [] [N] else K (.lst false false (bytes b.data.toList)) H N [] []
  | .slc id off es len full=>(src=dst∧es=1∧AoV P src=true∧Aea H N id fun obj cs=>cs≠[]∧K (.slc id off es len full) (upd H id (some obj)) N [id] [id]) ∨
   (AoV P src=true∧Akg P dst=true∧Ams H N (.slc id off es len full) fun ys T=>Aes ys=true∧K (.str (sOf ys)) H N T [])
  | X=>AoV P src=true∧Akg P dst=true∧Ams H N X fun ys T=>Aes ys=true∧K (.str (sOf ys)) H N T []
 | .field t y f=>match ev s y with
  | .agg cs=>match AiR cs (AcK P t f) with
   | some x=>K x H N [] []
   | none=>False
  | _=>False
 | .makeMap _ none=>K (.map N) (upd H N (some (.mp []))) (N+1) [] [N]
 | .range t y=>match ev s y with
  | .str b=>Akg P t=true∧K (.ptr N 0) (upd H N (some (.it b 0))) (N+1) [] [N]
  | _=>False
 | .next y true=>match ev s y with
  | .ptr id 0=>id<N∧match H id with
   | some (.it b p)=>if h : p<b.size then (b[p]'h).toNat<128∧K (.tup [.bool true,.int .i64 p,.int .i32 (b[p]'h).toNat]) (upd H id (some (.it b (p+1)))) N [id] [id] else K (.tup [.bool false]) H N [id] []
   | _=>False
  | _=>False
 | .lookup t y z ok=>match ev s y with
  | .map id=>id<N∧match H id,Aez P t with
   | some (.mp es),some (kd,zv)=>kd.has (ev s z)=true∧(es.all fun p=>kd.has p.1)=true∧K (Akf zv (Af2 es (ev s z)) ok) H N [id] []
   | _,_=>False
  | _=>False
 | .mapUpdate t y z v=>match ev s y with
  | .map id=>id<N∧match H id,Aez P t with
   | some (.mp es),some (kd,_)=>kd.has (ev s z)=true∧(es.all fun p=>kd.has p.1)=true∧K .skip (upd H id (some (.mp (Ack es (ev s z) (ev s v))))) N [id] [id]
   | _,_=>False
  | _=>False
 | .insert t y z v=>match ev s y with
  | .map id=>id<N∧match H id,Aez P t with
   | some (.mp es),some (kd,_)=>kd.has (ev s z)=true∧(es.all fun p=>kd.has p.1)=true∧K .skip (upd H id (some (.mp (Ack es (ev s z) (ev s v))))) N [id] [id]
   | _,_=>False
  | _=>False
 | .call c=>match c.callee with
  | .builtin b=>AhZ P (Ao7 mu o.dst) b c.argTypes.toList (c.args.toList.map (ev s)) H N K
  | .value g=>match ev s g with
   | .fn f caps=>Alr P f (c.args.toList.map (ev s)++caps) H N K
   | _=>False
  | _=>False
 | _=>False
end Go.Abs
