import Derived.Test.YthiodjlppahmkaaGreatExtLay3
import Derived.ChangeKeysEq
import Derived.Laws.StructEq
set_option linter.unusedVariables false
set_option linter.unusedSimpArgs false
namespace Go.Abs
open Go.RowKit (Below)
theorem Akx (k : IntKind) (n : Int) : InR k (k.wrap n):=by
 have:=wf_wrap k n
 simpa [Lit.wf,InR] using this
where
 wf_wrap (k : IntKind) (n : Int) : (Lit.int k (k.wrap n)).wf=true:=by
  cases k <;> simp [Lit.wf,IntKind.wrap,IntKind.min,IntKind.max,IntKind.bits,IntKind.signed] <;> omega
theorem Aao.pure {P : Program} {o : Oper} {s : Nat→AV} {H : Aac} {N : Nat} {x : AV} (hc : AaY o=true)
 (h : ∀ (ρ : Operand→Value) (w : World) (c : Cx),c.h=w.heap→(∀ y ∈ o.op.operands.toList,Rep c (ev s y) (ρ y))→∃ v,(execOp ρ o).run P w = .ok (.value v) w∧Rep c x v) :
 Aao P o s H N x H N [] [] :=
 Aao.read [] (fun _ h=>by simp at h) fun n c s1 H1 a w hrel hu _=>h a.eval w c hrel.hr.heap (fun y hy=>Aaj hrel hu hc hy)
def Akk (b : Bool) (x y : AV) : AV:=if b then x else y
@[simp] theorem AuM (x y : AV) : Akk true x y=x:=rfl
@[simp] theorem As9 (x y : AV) : Akk false x y=y:=rfl
def Aah (op : BinOp) (k : IntKind) (a b : Int) : Int :=
 let x:=BitVec.ofInt k.bits a
 let y:=BitVec.ofInt k.bits b
 match op with
 | .and=>k.wrap (x &&& y).toNat
 | .or=>k.wrap (x ||| y).toNat
 | .xor=>k.wrap (x ^^^ y).toNat
 | _=>k.wrap (x &&& ~~~y).toNat
def AkS (a b : ByteArray) : Bool:=a.data.toList==b.data.toList
def ApJ (a b : ByteArray) : Bool:=Op.bytesLess a.data.toList b.data.toList
def AdZ (op : BinOp) (k : IntKind) (a b : Int) : AV :=
 match op with
 | .add => .int k (k.wrap (a+b))
 | .sub => .int k (k.wrap (a-b))
 | .mul => .int k (k.wrap (a*b))
 | .quo => .int k (k.wrap (a.tdiv b))
 | .rem => .int k (a.tmod b)
 | .and => .int k (Aah .and k a b)
 | .or => .int k (Aah .or k a b)
 | .xor => .int k (Aah .xor k a b)
 | .andNot => .int k (Aah .andNot k a b)
 | .shl => .int k (k.wrap (a*2 ^ (min b.toNat k.bits)))
 | .shr => .int k (a.fdiv (2 ^ (min b.toNat k.bits)))
 | .eql => .bool (a==b)
 | .neq => .bool (a !=b)
 | .lss => .bool (a<b)
 | .leq => .bool (a≤b)
 | .gtr => .bool (b<a)
 | .geq => .bool (b≤a)
def AjG (op : BinOp) (a b : ByteArray) : Option AV :=
 match op with
 | .add=>some (.str (a++b))
 | .eql=>some (.bool (AkS a b))
 | .neq=>some (.bool (!AkS a b))
 | .lss=>some (.bool (ApJ a b))
 | .leq=>some (.bool (ApJ a b||AkS a b))
 | .gtr=>some (.bool (!(ApJ a b||AkS a b)))
 | .geq=>some (.bool (!ApJ a b))
 | _=>none
def Akw : BinOp→Bool
 | .shl | .shr=>true
 | _=>false
inductive Abe where
 | bool
 | int (k : IntKind)
 | str
def AgI (P : Program) (e : TypeId) : Option Abe :=
 match P.underlying e with
 | some .bool=>some .bool
 | some (.int k)=>some (.int k)
 | some .string=>some .str
 | _=>none
def Aqx (P : Program) (t : TypeId) : Option (Nat×Abe) :=
 match P.underlying t with
 | some (.array n e)=>if P.cellsOf e=1∧(P.info? e).isSome=true∧P.eqGuardType P.depth t=false then (AgI P e).map fun k=>(n,k) else none
 | _=>none
def Abe.has : Abe→AV→Bool
 | .bool,.bool _=>true
 | .int k,.int k' _=>k==k'
 | .str,.str _=>true
 | _,_=>false
def Ams : AV→AV→Bool
 | .bool a,.bool b=>a==b
 | .int _ a,.int _ b=>a==b
 | .str a,.str b=>AkS a b
 | _,_=>false
def AfT : List AV→List AV→Bool
 | [],[]=>true
 | x::xs,y::ys=>Ams x y&&AfT xs ys
 | _,_=>false
def AsG (xs ys : List AV) : Option (Nat×Abe)→Bool
 | some (n,k)=>xs.length==n&&ys.length==n&&xs.all k.has&&ys.all k.has
 | none=>false
def AsP (P : Program) (t : TypeId) : Option (List Abe) :=
 match P.underlying t with
 | some (.struct fs)=>if P.stoodInHeld t=false∧P.eqGuardType P.depth t=false∧(fs.toList.zipIdx.all fun p=>p.1.name != "_" && p.1.offset==p.2)=true then fs.toList.mapM fun f=>AgI P f.type else none
 | _=>none
def Acd : List Abe→List AV→Bool
 | [],[]=>true
 | k::ks,x::xs=>k.has x&&Acd ks xs
 | _,_=>false
def ArL (xs ys : List AV) : Option (List Abe)→Bool
 | some ks=>Acd ks xs&&Acd ks ys
 | none=>false
def Auo (P : Program) (op : BinOp) (xt : TypeId) : AV→AV→Option AV
 | .int k a,.int k' b=>if k=k'∨Akw op=true then some (AdZ op k a b) else none
 | .str a,.str b=>AjG op a b
 | .bool a,.bool b =>
  match P.underlying xt,op with
  | some .bool,.eql=>some (.bool (a==b))
  | some .bool,.neq=>some (.bool (a !=b))
  | _,_=>none
 | .lst nl _ xs,.lst true _ _ =>
  if nl=xs.isEmpty then
   match P.underlying xt,op with
   | some (.slice _),.eql=>some (.bool nl)
   | some (.slice _),.neq=>some (.bool (!nl))
   | _,_=>none
  else none
 | .nn _,.lst true _ _ =>
  match P.underlying xt,op with
  | some (.slice _),.eql=>some (.bool false)
  | some (.slice _),.neq=>some (.bool true)
  | _,_=>none
 | .agg xs,.agg ys =>
  if (AsG xs ys (Aqx P xt)||ArL xs ys (AsP P xt))=true then
   match op with
   | .eql=>some (.bool (AfT xs ys))
   | .neq=>some (.bool (!AfT xs ys))
   | _=>none
  else none
 | _,_=>none
def AhM (op : BinOp) : AV→AV→Prop
 | .int _ _,.int _ b=>match op with
  | .quo | .rem=>b≠0
  | .shl | .shr=>0≤b
  | _=>True
 | .str a,.str b=>match op with
  | .add=>a.size+b.size≤maxLen
  | _=>True
 | _,_=>True
theorem Aro {k : IntKind} {a b : Int} (ha : InR k a) : InR k (a.tmod b):=by
 have h0 : k.min≤0∧0≤k.max:=by cases k <;> decide
 have hk : k.max ≤ -(k.min)-1∨k.min=0:=by cases k <;> simp [IntKind.max,IntKind.min,IntKind.signed,IntKind.bits]
 unfold InR at *
 rcases Int.le_total 0 a with h | h
 ·have h1:=Int.tmod_nonneg b h
  have h2 : a.tmod b≤a:=by
   have:=Int.natAbs_tmod_le a b
   omega
  omega
 ·have h1 : a.tmod b≤0:=by
   have:=Int.tmod_nonneg b (show 0 ≤ -a by omega)
   rw [Int.neg_tmod] at this; omega
  have h2 : a≤a.tmod b:=by
   have:=Int.natAbs_tmod_le a b
   omega
  omega
where
 Int.natAbs_tmod_le (a b : Int) : (a.tmod b).natAbs≤a.natAbs:=by
  rw [Int.natAbs_tmod]; exact Nat.mod_le _ _
theorem Arp {k : IntKind} {a : Int} (n : Nat) (ha : InR k a) : InR k (a.fdiv (2 ^ n)):=by
 have h0 : k.min≤0∧0≤k.max:=by cases k <;> decide
 unfold InR at *
 have hp : (0 : Int)<2 ^ n:=Int.pow_pos (by omega)
 rw [Int.fdiv_eq_ediv_of_nonneg a (by omega)]
 constructor
 ·rw [Int.le_ediv_iff_mul_le hp]
  rcases Int.le_total 0 a with h | h
  ·have : k.min*2 ^ n≤0:=Int.mul_nonpos_of_nonpos_of_nonneg h0.1 (by omega)
   omega
  ·have h1 : k.min*2 ^ n≤k.min*1:=Int.mul_le_mul_of_nonpos_left h0.1 (by omega)
   omega
 ·rcases Int.le_total 0 a with h | h
  ·have:=Int.ediv_le_self (2 ^ n) h
   omega
  ·have : a / 2 ^ n≤0:=by
    have:=Int.ediv_le_ediv hp h
    simpa using this
   omega
def AV.num : AV→Value
 | .int k n => .int k n
 | .bool b => .bool b
 | .str s => .string s
 | _=>Go.undef
theorem Aoa {P : Program} {w : World} (op : BinOp) (xt : TypeId) (k k' : IntKind) (a b : Int) (hk : k=k'∨Akw op=true) (hb : AhM op (.int k a) (.int k' b)) (ha : InR k a) (c : Cx) :
 ∃ v,(binOp op xt (.int k a) (.int k' b)).run P w = .ok v w∧Rep c (AdZ op k a b) v:=by
 refine ⟨(AdZ op k a b).num,?_,?_⟩
 ·cases op
  case shl =>
   simp only [AhM] at hb
   simp [binOp,Op.shift,show ¬ b<0 by omega,AdZ,AV.num]
  case shr =>
   simp only [AhM] at hb
   simp [binOp,Op.shift,show ¬ b<0 by omega,AdZ,AV.num]
  all_goals (obtain rfl : k=k':=by simpa [Akw] using hk)
  case quo =>
   simp only [AhM] at hb
   simp [binOp,Op.intDiv,hb,AdZ,AV.num]
  case rem =>
   simp only [AhM] at hb
   simp [binOp,Op.intDiv,hb,AdZ,AV.num]
  all_goals simp [binOp,Op.intArith,Op.intBits,Op.intCmp,AdZ,AV.num,Aah]
 ·cases op
  case shr=>simp only [AdZ,AV.num,Rep]; exact ⟨trivial,Arp _ ha⟩
  case rem=>simp only [AdZ,AV.num,Rep]; exact ⟨trivial,Aro ha⟩
  all_goals first
   | (simp only [AdZ,AV.num,Rep,Aah]; exact ⟨trivial,Akx _ _⟩)
   | (simp only [AdZ,AV.num,Rep]; done)
theorem AoZ {P : Program} {w : World} (op : BinOp) (xt : TypeId) (a b : ByteArray) (x : AV) (hx : AjG op a b=some x) (hb : AhM op (.str a) (.str b)) (c : Cx) :
 ∃ v,(binOp op xt (.string a) (.string b)).run P w = .ok v w∧Rep c x v:=by
 refine ⟨x.num,?_,?_⟩
 ·cases op <;> simp only [AjG,Option.some.injEq] at hx <;> first | (cases hx; done) | subst hx
  case add =>
   simp only [AhM] at hb
   have hm : ¬ ((9223372036854775807 : Int)<(a.size : Int)+b.size):=by unfold maxLen at hb; omega
   simp [binOp,Op.stringOp,IntKind.max,IntKind.signed,IntKind.bits,hm,AV.num]
  all_goals simp only [binOp,Op.stringOp,ByteArray.toList_eq,AV.num,AkS,ApJ,Sem.run_pure]
 ·cases op <;> simp only [AjG,Option.some.injEq] at hx <;> first | (cases hx; done) | subst hx
  case add =>
   simp only [AhM] at hb
   simp only [Rep,AV.num]; exact ⟨trivial,by simpa using hb⟩
  all_goals simp only [Rep,AV.num]
theorem Anu {P : Program} {o : Oper} {s : Nat→AV} {H : Aac} {N : Nat} (hc : AaY o=true) (x : Operand) (ho : o.op = .move x∨o.op = .assign x) : Aao P o s H N (ev s x) H N [] [] :=
 Aao.pure hc fun ρ w c _ hr=>by
  refine ⟨ρ x,?_,?_⟩
  ·rcases ho with ho | ho <;> simp [execOp,ho]
  ·rcases ho with ho | ho <;> exact hr x (by simp [ho,Op.operands])
theorem ArX {P : Program} {o : Oper} {s : Nat→AV} {H : Aac} {N : Nat} (hc : AaY o=true) (t x y : Operand) (ho : o.op = .pick t x y) (b : Bool) (hb : ev s t = .bool b) :
 Aao P o s H N (Akk b (ev s x) (ev s y)) H N [] [] :=
 Aao.pure hc fun ρ w c _ hr=>by
  have h1:=hr t (by simp [ho,Op.operands])
  rw [hb] at h1
  simp only [Rep] at h1
  refine ⟨if b then ρ x else ρ y,?_,?_⟩
  ·simp [execOp,ho,h1,asBool]
  ·cases b
   ·exact hr y (by simp [ho,Op.operands])
   ·exact hr x (by simp [ho,Op.operands])
theorem AhX {P : Program} {w : World} (op : BinOp) (t : TypeId) (x y : Operand) (a b : Value) (h1 : ∀ cs,a ≠ .agg cs) (h2 : a ≠ .nilIface) : (eqGuard op t x y a b).run P w = .ok () w:=by
 unfold eqGuard
 cases a
 case agg cs=>exact absurd rfl (h1 cs)
 case nilIface=>exact absurd rfl h2
 all_goals (split <;> simp)
theorem Adw {P : Program} {w : World} (d : Nat) (t : TypeId) (a b : Bool) (hu : P.underlying t=some .bool) : (Op.equalIn (d+1) t (.bool a) (.bool b)).run P w = .ok (a==b) w:=by
 simp [Op.equalIn,run_underlying hu]
theorem Adk {P : Program} {w : World} (d : Nat) (t e : TypeId) (a : Option Addr) (l c : Nat) (hu : P.underlying t=some (.slice e)) : (Op.equalIn (d+1) t (.slice a l c) (.slice none 0 0)).run P w = .ok a.isNone w:=by
 cases a <;> simp [Op.equalIn,run_underlying hu]
theorem Agw {P : Program} {w : World} (t : TypeId) (x y : Value) (r : Bool) (h : ∀ d,(Op.equalIn (d+1) t x y).run P w = .ok r w) : (Op.equal t x y).run P w = .ok r w:=h 9999
theorem Ajk {P : Program} {w : World} (t : TypeId) (x y : Value) (r : Bool) (h : ∀ d,(Op.equalIn (d+2) t x y).run P w = .ok r w) : (Op.equal t x y).run P w = .ok r w:=h 9998
theorem Afg {P : Program} {w : World} (t : TypeId) (x y : Value) (r : Bool) (h : (Op.equal t x y).run P w = .ok r w) (hx : (∃ b,x = .bool b)∨(∃ a l c,x = .slice a l c)∨(∃ cs,x = .agg cs))  :
 (binOp .eql t x y).run P w = .ok (.bool r) w∧(binOp .neq t x y).run P w = .ok (.bool (!r)) w:=by
 rcases hx with ⟨b,rfl⟩ | ⟨a,l,c,rfl⟩ | ⟨cs,rfl⟩ <;> simp only [binOp,Sem.run_bind,h,Result.andThen_ok,Sem.run_pure,and_self]
def Ahc : AV→Lit
 | .bool b => .bool b
 | .int k n => .int k n
 | .str s => .string s.data.toList
 | _ => .bool false
theorem Agc {P : Program} {e : TypeId} {k : Abe} (h : AgI P e=some k) : P.plainKey e=true:=by
 unfold AgI at h
 unfold Program.plainKey
 split at h <;> simp_all
theorem Aor {P : Program} {e : TypeId} {k : Abe} (h : AgI P e=some k) {c : Cx} {x : AV} {v : Value} (hx : k.has x=true) (hr : Rep c x v) : P.keyLits 1 e [v]=some [Ahc x]:=by
 unfold AgI at h
 split at h
 ·rename_i hu
  cases h
  cases x <;> simp [Abe.has] at hx
  simp only [Rep] at hr; subst hr
  simp [Program.keyLits,hu,Ahc]
 ·rename_i q hu
  cases h
  cases x <;> simp [Abe.has] at hx
  rename_i k0 n0
  subst hx
  simp only [Rep] at hr
  obtain ⟨rfl,hi⟩:=hr
  have : (Lit.int q n0).wf=true:=by simp only [Lit.wf,Bool.and_eq_true,decide_eq_true_eq]; exact hi
  simp [Program.keyLits,hu,Ahc,this]
 ·rename_i hu
  cases h
  cases x <;> simp [Abe.has] at hx
  simp only [Rep] at hr
  obtain ⟨rfl,hi⟩:=hr
  simp only [Program.keyLits,hu,Ahc]
  rw [if_pos hi]
 ·cases h
theorem AkA {k : Abe} : ∀ {xs ys : List AV},xs.length=ys.length→xs.all k.has=true→ys.all k.has=true→(AfT xs ys=true↔xs.map Ahc=ys.map Ahc)
 | [],[],_,_,_=>by simp [AfT]
 | [],_::_,h,_,_=>by simp at h
 | _::_,[],h,_,_=>by simp at h
 | x::xs,y::ys,hl,hx,hy=>by
  simp only [List.all_cons,Bool.and_eq_true] at hx hy
  have ih:=AkA (xs:=xs) (ys:=ys) (by simpa using hl) hx.2 hy.2
  simp only [AfT,Bool.and_eq_true,ih,List.map_cons,List.cons.injEq]
  refine and_congr_left fun _=>?_
  have h1:=hx.1
  have h2:=hy.1
  cases k <;> cases x <;> simp [Abe.has] at h1 <;> cases y <;> simp [Abe.has] at h2 <;> simp [Ams,Ahc,AkS]
  ·rw [← h1,← h2]; simp
theorem Ake {P : Program} {w : World} {t n : Nat} {k : Abe} (ht : Aqx P t=some (n,k)) {c : Cx} {xs ys : List AV} {vs us : Array Value} (hx : xs.length=n) (hy : ys.length=n) (ax : xs.all k.has=true) (ay : ys.all k.has=true)
 (rx : AaD c xs vs.toList) (ry : AaD c ys us.toList) : (Op.equal t (.agg vs) (.agg us)).run P w = .ok (AfT xs ys) w∧P.eqGuardType P.depth t=false:=by
 unfold Aqx at ht
 split at ht
 ·rename_i n' e hu
  split at ht
  ·rename_i hcc
   obtain ⟨hc1,hi,hgt⟩:=hcc
   simp only [Option.map_eq_some_iff,Prod.mk.injEq] at ht
   obtain ⟨k',hk,rfl,rfl⟩:=ht
   obtain ⟨i,hi⟩:=Option.isSome_iff_exists.1 hi
   refine ⟨?_,hgt⟩
   have lits : ∀ {zs : List AV} {vs : Array Value},zs.length=n'→zs.all k'.has=true→AaD c zs vs.toList→(List.range n').mapM (fun i=>P.keyLits 1 e ((vs.toList.drop (i*P.cellsOf e)).take (P.cellsOf e)))=some (zs.map fun z=>[Ahc z]):=by
    intro zs vs hz az rz
    have hl:=rz.length
    rw [hc1]
    have key : ∀ m,m≤n'→(List.range m).mapM (fun i=>P.keyLits 1 e ((vs.toList.drop (i*1)).take 1))=some ((zs.take m).map fun z=>[Ahc z]):=by
     intro m
     induction m with
     | zero=>intro _; simp
     | succ m ih =>
      intro hm
      have hm1 : m<zs.length:=by omega
      have hm2 : m<vs.toList.length:=by omega
      rw [List.range_succ,List.mapM_append,ih (by omega)]
      have h1 : (vs.toList.drop (m*1)).take 1 = [vs.toList[m]]:=by
       rw [Nat.mul_one,List.drop_eq_getElem_cons hm2]; rfl
      have h2:=Aor hk (List.all_eq_true.1 az _ (List.getElem_mem hm1)) (rz.get m hm1 hm2)
      simp only [List.mapM_cons,List.mapM_nil,h1,h2]
      rw [List.take_succ_eq_append_getElem hm1,List.map_append]
      rfl
    have:=key n' (Nat.le_refl _)
    rw [List.take_of_length_le (by omega)] at this
    exact this
   refine Ajk t _ _ _ fun d=>?_
   ·rw [run_equalIn_array w (d+1) vs us hu hi]
    obtain ⟨r,hr,hiff⟩:=run_eqItems_plain w d (Agc hk) vs us (D:=1) (D':=1) (List.range n') _ _ (lits hx ax rx) (lits hy ay ry)
    rw [hr]
    congr 1
    have h3 : (List.map (fun z=>[Ahc z]) xs).flatten=xs.map Ahc:=by
     clear hr hiff hx ax rx
     induction xs with
     | nil=>rfl
     | cons x xs ih=>simp [ih]
    have h4 : (List.map (fun z=>[Ahc z]) ys).flatten=ys.map Ahc:=by
     clear hr hiff hy ay ry
     induction ys with
     | nil=>rfl
     | cons x xs ih=>simp [ih]
    rw [h3,h4,← AkA (k:=k') (by omega) ax ay] at hiff
    exact Bool.eq_iff_iff.2 hiff
  ·cases ht
 ·cases ht
theorem AjS {P : Program} {w : World} {e : TypeId} {k : Abe} (hk : AgI P e=some k) {c : Cx} {x y : AV} {v u : Value} (hx : k.has x=true) (hy : k.has y=true) (rx : Rep c x v) (ry : Rep c y u) (d : Nat) :
 (Op.equalIn (d+1) e v u).run P w = .ok (Ams x y) w:=by
 unfold AgI at hk
 split at hk <;> simp only [Option.some.injEq,reduceCtorEq] at hk
 all_goals
  rename_i hu
  subst hk
  cases x <;> simp only [Abe.has,Bool.false_eq_true,beq_iff_eq] at hx <;> cases y <;> simp only [Abe.has,Bool.false_eq_true,beq_iff_eq] at hy
 ·simp only [Rep] at rx ry; subst rx ry; exact Adw d e _ _ hu
 ·simp only [Rep] at rx ry
  obtain ⟨rfl,_⟩:=rx; obtain ⟨rfl,_⟩:=ry
  subst hx hy
  exact run_equalIn_int w d e _ _ _ _ hu
 ·simp only [Rep] at rx ry
  obtain ⟨rfl,_⟩:=rx; obtain ⟨rfl,_⟩:=ry
  rw [run_equalIn_string w d e _ _ hu,ByteArray.toList_eq,ByteArray.toList_eq]; rfl
theorem Aff {P : Program} {w : World} {c : Cx} {vs us : Array Value} (d : Nat) : ∀ (fs : List Field) (ks : List Abe) (off : Nat) (xs ys : List AV),
 (fs.zipIdx off).all (fun p=>p.1.name != "_" && p.1.offset==p.2)=true→fs.mapM (fun f=>AgI P f.type)=some ks→Acd ks xs=true→Acd ks ys=true →
 AaD c xs (vs.toList.drop off)→AaD c ys (us.toList.drop off)→(Op.eqFields (d+1) vs us fs).run P w = .ok (AfT xs ys) w
 | [],ks,off,xs,ys,_,hk,hx,hy,_,_=>by
  simp at hk; subst hk
  cases xs <;> cases ys <;> simp_all [Acd,AfT,Op.eqFields]
 | f::fs,ks,off,xs,ys,hn,hk,hx,hy,rx,ry=>by
  simp only [List.zipIdx_cons,List.all_cons,Bool.and_eq_true,bne_iff_ne,ne_eq,beq_iff_eq] at hn
  obtain ⟨⟨hname,hoff⟩,hn⟩:=hn
  simp only [List.mapM_cons,Option.bind_eq_bind,Option.pure_def] at hk
  cases hkf : AgI P f.type with
  | none=>rw [hkf] at hk; simp at hk
  | some k =>
   rw [hkf] at hk
   cases hkr : fs.mapM (fun f=>AgI P f.type) with
   | none=>rw [hkr] at hk; simp at hk
   | some ks' =>
    rw [hkr] at hk
    simp at hk
    subst hk
    cases xs with
    | nil=>simp [Acd] at hx
    | cons x xs =>
     cases ys with
     | nil=>simp [Acd] at hy
     | cons y ys =>
      simp only [Acd,Bool.and_eq_true] at hx hy
      simp only [AaD] at rx ry
      obtain ⟨v,vr,ev,rv,rx⟩:=rx
      obtain ⟨u,ur,eu,ru,ry⟩:=ry
      have hd : ∀ {l : List Value} {a : Value} {r : List Value},l.drop off=a::r→l[off]? = some a∧l.drop (off+1)=r:=by
       intro l a r h
       have h1:=congrArg (fun z=>z[0]?) h
       simp at h1
       refine ⟨h1,?_⟩
       rw [← List.drop_drop,h]; rfl
      obtain ⟨v1,v2⟩:=hd ev
      obtain ⟨u1,u2⟩:=hd eu
      have pv : (part f.type vs off).run P w = .ok v w:=run_part_plain w (Agc hkf) (by rw [← Array.getElem?_toList]; exact v1)
      have pu : (part f.type us off).run P w = .ok u w:=run_part_plain w (Agc hkf) (by rw [← Array.getElem?_toList]; exact u1)
      have he:=AjS (P:=P) (w:=w) hkf hx.1 hy.1 rv ru d
      have ih:=Aff (P:=P) (w:=w) d fs ks' (off+1) xs ys hn hkr hx.2 hy.2 (by rw [v2]; exact rx) (by rw [u2]; exact ry)
      simp only [Op.eqFields,ne_eq,hname,not_false_eq_true,if_true,hoff,Sem.run_bind,pv,pu,he,Result.andThen_ok,AfT]
      cases hs : Ams x y
      ·simp
      ·simp [ih]
theorem Akd {P : Program} {w : World} {t : TypeId} {ks : List Abe} (ht : AsP P t=some ks) {c : Cx} {xs ys : List AV} {vs us : Array Value} (hx : Acd ks xs=true) (hy : Acd ks ys=true)
 (rx : AaD c xs vs.toList) (ry : AaD c ys us.toList) : (Op.equal t (.agg vs) (.agg us)).run P w = .ok (AfT xs ys) w∧P.eqGuardType P.depth t=false:=by
 unfold AsP at ht
 split at ht
 ·rename_i fs hu
  split at ht
  ·rename_i hcc
   obtain ⟨h1,h2,h3⟩:=hcc
   have hf : P.fieldsOf t=fs:=by simp [Program.fieldsOf,hu]
   refine ⟨Ajk t _ _ _ fun d=>?_,h2⟩
   rw [run_equalIn_agg w (d+1) t vs us (by rw [hf]; exact hu) h1,hf]
   exact Aff d fs.toList ks 0 xs ys h3 ht hx hy (by simpa using rx) (by simpa using ry)
  ·cases ht
 ·cases ht
theorem AtJ {P : Program} {o : Oper} {s : Nat→AV} {H : Aac} {N : Nat} (hc : AaY o=true) (op : BinOp) (xt yt : TypeId) (x y : Operand) (ho : o.op = .binOp op xt x y yt) (r : AV)
 (hr : Auo P op xt (ev s x) (ev s y)=some r) (hok : AhM op (ev s x) (ev s y)) : Aao P o s H N r H N [] [] :=
 Aao.pure hc fun ρ w c _ hrep=>by
  have h1:=hrep x (by simp [ho,Op.operands])
  have h2:=hrep y (by simp [ho,Op.operands])
  have key : ∀ v,(∀ cs,ρ x ≠ .agg cs)→ρ x ≠ .nilIface→(binOp op xt (ρ x) (ρ y)).run P w = .ok v w→(execOp ρ o).run P w = .ok (.value v) w:=by
   intro v h3 h4 h5
   simp [execOp,ho,AhX op xt x y (ρ x) (ρ y) h3 h4,h5]
  generalize ev s x=X at *
  generalize ev s y=Y at *
  unfold Auo at hr
  split at hr
  ·split at hr
   ·rename_i k a k' b hk
    simp only [Option.some.injEq] at hr
    subst hr
    simp only [Rep] at h1 h2
    obtain ⟨v,hv,hv2⟩:=Aoa (P:=P) (w:=w) op xt k k' a b hk hok h1.2 c
    exact ⟨v,key v (by simp [h1.1]) (by simp [h1.1]) (by rw [h1.1,h2.1]; exact hv),hv2⟩
   ·cases hr
  ·rename_i a b
   simp only [Rep] at h1 h2
   obtain ⟨v,hv,hv2⟩:=AoZ (P:=P) (w:=w) op xt a b r hr hok c
   exact ⟨v,key v (by simp [h1.1]) (by simp [h1.1]) (by rw [h1.1,h2.1]; exact hv),hv2⟩
  ·rename_i a b
   simp only [Rep] at h1 h2
   split at hr <;> first | (cases hr; done) | skip
   ·rename_i hu
    cases hr
    have:=Afg (P:=P) (w:=w) xt (.bool a) (.bool b) (a==b) (Agw _ _ _ _ fun d=>Adw d xt a b hu) (.inl ⟨a,rfl⟩)
    exact ⟨.bool (a==b),key _ (by simp [h1]) (by simp [h1]) (by rw [h1,h2]; exact this.1),by simp [Rep]⟩
   ·rename_i hu
    cases hr
    have:=Afg (P:=P) (w:=w) xt (.bool a) (.bool b) (a==b) (Agw _ _ _ _ fun d=>Adw d xt a b hu) (.inl ⟨a,rfl⟩)
    exact ⟨.bool (!(a==b)),key _ (by simp [h1]) (by simp [h1]) (by rw [h1,h2]; exact this.2),by simp [Rep,bne]⟩
  ·rename_i nl f1 xs f2 ys
   simp only [Rep] at h1 h2
   have hy : ρ y = .slice none 0 0:=by
    rcases h2 with ⟨_,h2⟩ | ⟨h2,_⟩
    ·exact h2
    ·cases h2
   split at hr
   case isFalse=>cases hr
   rename_i hnx
   have hx : ∃ a l cp,ρ x = .slice a l cp∧a.isNone=nl:=by
    rcases h1 with ⟨rfl,h1⟩ | ⟨rfl,a,b,off,cap,es,vs,h1,_⟩
    ·exact ⟨none,0,0,h1,by simp [hnx]⟩
    ·exact ⟨_,_,_,h1,rfl⟩
   obtain ⟨a,l,cp,hx,hnl⟩:=hx
   have hxl : ∀ e,P.underlying xt=some (.slice e)→(binOp .eql xt (.slice a l cp) (.slice none 0 0)).run P w = .ok (.bool nl) w∧(binOp .neq xt (.slice a l cp) (.slice none 0 0)).run P w = .ok (.bool (!nl)) w:=by
    intro e hu
    rw [← hnl]
    exact Afg (P:=P) (w:=w) xt _ _ a.isNone (Agw _ _ _ _ fun d=>Adk d xt e a l cp hu) (.inr (.inl ⟨a,l,cp,rfl⟩))
   split at hr <;> first | (cases hr; done) | skip
   ·rename_i hu
    cases hr
    exact ⟨.bool nl,key _ (by simp [hx]) (by simp [hx]) (by rw [hx,hy]; exact (hxl _ hu).1),by simp [Rep]⟩
   ·rename_i hu
    cases hr
    exact ⟨.bool (!nl),key _ (by simp [hx]) (by simp [hx]) (by rw [hx,hy]; exact (hxl _ hu).2),by simp [Rep]⟩
  ·rename_i x0 f2 ys
   simp only [Rep] at h1 h2
   have hy : ρ y = .slice none 0 0:=by
    rcases h2 with ⟨_,h2⟩ | ⟨h2,_⟩
    ·exact h2
    ·cases h2
   obtain ⟨_,a,l,cp,hx⟩:=h1
   have hxl : ∀ e,P.underlying xt=some (.slice e)→(binOp .eql xt (.slice (some a) l cp) (.slice none 0 0)).run P w = .ok (.bool false) w∧(binOp .neq xt (.slice (some a) l cp) (.slice none 0 0)).run P w = .ok (.bool true) w:=by
    intro e hu
    have:=Afg (P:=P) (w:=w) xt _ _ ((some a).isNone) (Agw _ _ _ _ fun d=>Adk d xt e (some a) l cp hu) (.inr (.inl ⟨some a,l,cp,rfl⟩))
    exact this
   split at hr <;> first | (cases hr; done) | skip
   ·rename_i hu
    cases hr
    exact ⟨.bool false,key _ (by simp [hx]) (by simp [hx]) (by rw [hx,hy]; exact (hxl _ hu).1),by simp [Rep]⟩
   ·rename_i hu
    cases hr
    exact ⟨.bool true,key _ (by simp [hx]) (by simp [hx]) (by rw [hx,hy]; exact (hxl _ hu).2),by simp [Rep]⟩
  ·rename_i xs ys
   split at hr
   case isFalse=>cases hr
   rename_i hok2
   simp only [Rep] at h1 h2
   obtain ⟨vs,hv,rv⟩:=h1
   obtain ⟨us,hu,ru⟩:=h2
   have hee : (Op.equal xt (.agg vs) (.agg us)).run P w = .ok (AfT xs ys) w∧P.eqGuardType P.depth xt=false:=by
    rw [Bool.or_eq_true] at hok2
    rcases hok2 with hok2 | hok2
    ·cases hA : Aqx P xt with
     | none=>rw [hA] at hok2; simp [AsG] at hok2
     | some q =>
      obtain ⟨n,k⟩:=q
      rw [hA] at hok2
      simp only [AsG,Bool.and_eq_true,beq_iff_eq] at hok2
      obtain ⟨⟨⟨a1,a2⟩,a3⟩,a4⟩:=hok2
      exact Ake (w:=w) hA a1 a2 a3 a4 rv ru
    ·cases hA : AsP P xt with
     | none=>rw [hA] at hok2; simp [ArL] at hok2
     | some ks =>
      rw [hA] at hok2
      simp only [ArL,Bool.and_eq_true] at hok2
      exact Akd (w:=w) hA hok2.1 hok2.2 rv ru
   ·obtain ⟨e1,e2⟩:=hee
    have e3:=Afg (P:=P) (w:=w) xt (.agg vs) (.agg us) (AfT xs ys) e1 (.inr (.inr ⟨vs,rfl⟩))
    have e4 : (eqGuard op xt x y (.agg vs) (.agg us)).run P w = .ok () w:=run_eqGuard_agg w op xt x y vs us e2
    split at hr <;> first | (cases hr; done) | skip
    ·cases hr
     exact ⟨.bool (AfT xs ys),by simp [execOp,ho,hv,hu,e4,e3.1],by simp [Rep]⟩
    ·cases hr
     exact ⟨.bool (!AfT xs ys),by simp [execOp,ho,hv,hu,e4,e3.2],by simp [Rep]⟩
  ·cases hr
def aun (op : UnOp) : AV→Option AV
 | .int k n=>match op with
  | .neg=>some (.int k (k.wrap (0-n)))
  | .xor=>some (.int k (Aah .xor k (if k.signed then -1 else k.max) n))
  | _=>none
 | .bool b=>match op with
  | .not=>some (.bool (!b))
  | _=>none
 | _=>none
theorem AvI {P : Program} {o : Oper} {s : Nat→AV} {H : Aac} {N : Nat} (hc : AaY o=true) (op : UnOp) (xt : TypeId) (x : Operand) (ho : o.op = .unOp op xt x) (r : AV)
 (hr : aun op (ev s x)=some r) : Aao P o s H N r H N [] [] :=
 Aao.pure hc fun ρ w c _ hrep=>by
  have h1:=hrep x (by simp [ho,Op.operands])
  generalize ev s x=X at *
  unfold aun at hr
  split at hr
  ·rename_i k n
   simp only [Rep] at h1
   split at hr <;> first | (cases hr; done) | skip
   all_goals
    simp only [Option.some.injEq] at hr
    subst hr
    refine ⟨_,by simp only [execOp,ho,h1.1]; simp [Op.unary,Op.intArith,Op.intBits]; rfl,?_⟩
    simp only [Rep,Aah]
    refine ⟨?_,Akx _ _⟩
    first | rfl | simp
  ·rename_i b
   simp only [Rep] at h1
   split at hr <;> first | (cases hr; done) | skip
   simp only [Option.some.injEq] at hr
   subst hr
   refine ⟨_,by simp only [execOp,ho,h1]; simp [Op.unary]; rfl,?_⟩
   simp [Rep]
  ·cases hr
end Go.Abs
