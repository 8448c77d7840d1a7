import Derived.Test.YthiodjlppahmkaaGreatExtLay8
set_option linter.unusedVariables false
set_option linter.unusedSimpArgs false
namespace Go.Abs
open Go.RowKit (Below)
theorem Alk {P : Program} {o : Oper} {s : Nat→AV} {H : Aac} {N : Nat} (hc : AaY o=true) (src dst : TypeId) (y : Operand) (ho : o.op = .convert src dst y) (k k' : IntKind) (n : Int) (hy : ev s y = .int k n)
 (hs : (P.underlying src).isSome=true) (hd : P.underlying dst=some (.int k')) : Aao P o s H N (.int k' (k'.wrap n)) H N [] [] :=
 Aao.pure hc fun ρ w c hh hrep=>by
  have h1:=hrep y (by simp [ho,Op.operands])
  rw [hy] at h1
  simp only [Rep] at h1
  obtain ⟨d,hsd⟩:=Option.isSome_iff_exists.1 hs
  refine ⟨.int k' (k'.wrap n),?_,by simp only [Rep]; exact ⟨trivial,Akx _ _⟩⟩
  simp only [execOp,ho,convert,Sem.run_bind,run_underlying hsd,run_underlying hd,Result.andThen_ok,h1.1,Conv.intToInt,Sem.run_pure]
def unb : List AV→Option (List UInt8)
 | []=>some []
 | .int .u8 n::r=>if 0≤n∧n≤255 then (unb r).map (UInt8.ofNat n.toNat :: ·) else none
 | _=>none
theorem Anc : ∀ {ys : List AV} {l : List UInt8},unb ys=some l→ys=bytes l
 | [],l,h=>by simp only [unb,Option.some.injEq] at h; subst h; rfl
 | y::ys,l,h=>by
  cases y <;> try (simp only [unb,reduceCtorEq] at h; done)
  rename_i k n
  cases k <;> try (simp only [unb,reduceCtorEq] at h; done)
  simp only [unb] at h
  split at h
  ·rename_i hn
   cases hr : unb ys with
   | none=>rw [hr] at h; cases h
   | some r =>
    rw [hr] at h
    simp only [Option.map_some,Option.some.injEq] at h
    subst h
    have:=Anc hr
    subst this
    simp only [bytes,List.map_cons,List.cons.injEq,AV.int.injEq,true_and,and_true]
    rw [UInt8.toNat_ofNat']
    omega
  ·cases h
theorem AhJ {c : Cx} : ∀ {l : List UInt8} {vs : List Value},AaD c (bytes l) vs→vs=AdM l
 | [],vs,h=>by simpa [bytes,AdM,AaD] using h
 | b::l,vs,h=>by
  simp only [bytes,List.map_cons,AaD] at h
  obtain ⟨v,r,rfl,hv,hr⟩:=h
  simp only [Rep] at hv
  have:=AhJ (l:=l) hr
  subst this
  simp [AdM,hv.1]
theorem Ajy : ∀ (l : List UInt8) (s : ByteArray),(l.map fun b=>((b.toNat : Nat) : Int)).foldl (fun r n=>r.push (UInt8.ofNat n.toNat)) s=⟨s.data++l.toArray⟩
 | [],s=>by cases s; simp
 | b::l,s=>by
  simp only [List.map_cons,List.foldl_cons]
  rw [Ajy l]
  cases s with
  | mk d =>
   simp only [ByteArray.push,ByteArray.mk.injEq]
   apply Array.ext'
   simp
theorem Aof {P : Program} {o : Oper} {s : Nat→AV} {H : Aac} {N : Nat} (hc : AaY o=true) (src dst e : TypeId) (y : Operand) (ho : o.op = .convert src dst y) (hs : P.underlying src=some (.slice e))
 (he : P.underlying e=some (.int .u8)) (hd : P.underlying dst=some .string) (ys : List AV) (T : List Nat) (hsrc : Afc H (ev s y)=some (ys,T)) (hns : ∀ b,ev s y ≠ .str b) (l : List UInt8) (hl : unb ys=some l) (hT : ∀ id ∈ T,id<N) :
 Aao P o s H N (.str ⟨l.toArray⟩) H N T [] :=
 Aao.read T hT fun n c s1 H1 a w hrel hu' hTT=>by
  have r1:=Aaj hrel hu' hc (x:=y) (by simp [ho,Op.operands])
  have hys:=Anc hl
  subst hys
  have S:=AdD (P:=P) (es:=1) hrel.hr r1 (Ab8 hsrc hTT) (AnR l) (by
   have : ∀ l : List UInt8,∀ x ∈ AaI (bytes l),x.one=true:=by
    intro l
    induction l with
    | nil=>simp [AaI,bytes]
    | cons b l ih=>simp only [AaI,bytes,List.map_cons,List.flatMap_cons,AV.cells,List.singleton_append,List.mem_cons,forall_eq_or_imp] at ih ⊢; exact ⟨rfl,ih⟩
   exact this l) (by
   intro _ x hx
   simp only [bytes,List.mem_map] at hx
   obtain ⟨b,_,rfl⟩:=hx; rfl)
  obtain ⟨arr,a1,a2,a3,a4⟩:=S.cells
  have hlen:=S.len w rfl
  have hfa : AaI (bytes l)=bytes l:=by
   have : ∀ l : List UInt8,AaI (bytes l)=bytes l:=by
    intro l
    induction l with
    | nil=>rfl
    | cons x l ih=>simp only [AaI,bytes,List.map_cons,List.flatMap_cons,AV.cells] at ih ⊢; rw [ih]; rfl
   exact this l
  rw [hfa] at a2
  have harr:=AhJ a2
  have hll : (bytes l).length=l.length:=by simp [bytes]
  have hv : ∃ ad len cap,a.eval y = .slice ad len cap∧(ad=none→len=0)∧len≤maxLen:=by
   unfold Afc at hsrc
   split at hsrc
   ·rename_i nl fl xs heq
    rw [heq] at r1
    obtain ⟨ad,cap,h1,h3,h4,h5,h6,h7⟩:=Aek r1
    refine ⟨ad,_,cap,h1,fun h=>?_,by omega⟩
    simp [(h6 h).1]
   ·rename_i b heq; exact absurd heq (hns b)
   ·rename_i id off len full heq
    rw [heq] at r1
    split at hsrc
    ·rename_i ob hob
     have hTe : T = [id]:=by
      split at hsrc
      ·split at hsrc
       ·simp only [Option.some.injEq,Prod.mk.injEq] at hsrc; exact hsrc.2.symm
       ·cases hsrc
      ·cases hsrc
     have hob1 : H1 id=some ob:=(hTT id (by rw [hTe]; simp)).trans hob
     rcases AdX hrel.hr hob1 with ⟨hemp,_⟩ | ⟨b,x,z,hl2,_⟩
     ·simp only [Rep] at r1
      obtain ⟨h1,a0,h2⟩:=r1.2.2.1 hemp
      exact ⟨a0,0,0,h2,fun _=>rfl,by simp⟩
     ·obtain ⟨cap,o',h1,_,h2,h3,_⟩:=Abd r1 hl2
      exact ⟨_,len,cap,h1,(fun h=>by cases h),by omega⟩
    ·cases hsrc
   ·cases hsrc
  obtain ⟨ad,len,cap,hv,hnil,hlm⟩:=hv
  have hlen' : len=l.length:=by
   rw [hv] at hlen
   simp only [Builtin.lenOf,Sem.run_pure,Result.ok.injEq,and_true] at hlen
   rw [hlen,hll]
  refine ⟨.string ⟨l.toArray⟩,?_,?_⟩
  ·have hcv : (convert src dst (a.eval y)).run P w = .ok (.string ⟨l.toArray⟩) w:=by
    rw [hv,run_convert_bytes_string w src dst e ad len cap hs he hd]
    cases ad with
    | none =>
     have h0:=hnil rfl
     have : l = []:=List.eq_nil_of_length_eq_zero (by omega)
     subst this
     simp [Conv.bytesToString]; rfl
    | some ad =>
     have h2:=a1 w rfl
     rw [hv,hll] at h2
     simp only [Builtin.firstCells,Nat.mul_one] at h2
     have h3 : arr=((l.map fun b=>((b.toNat : Nat) : Int)).map (Value.int .u8)).toArray:=by
      apply Array.ext'
      rw [harr]; simp [AdM]
     rw [hlen']
     rw [run_bytesToString w ad l.length cap (l.map fun b=>((b.toNat : Nat) : Int)) (by rw [h2,h3]),Ajy]
     simp
   simp only [execOp,ho,Sem.run_bind,hcv,Result.andThen_ok,Sem.run_pure]
  ·simp only [Rep]
   exact ⟨trivial,by show l.toArray.size≤maxLen; simp; omega⟩
def Auv : AV→UInt8
 | .int _ n=>UInt8.ofNat n.toNat
 | _=>0
def sOf (ys : List AV) : ByteArray:=⟨(ys.map Auv).toArray⟩
def AeP : List AV→Bool
 | []=>true
 | .int .u8 _::r=>AeP r
 | _=>false
theorem Afv : ∀ {ys : List AV},AeP ys=true→∀ y ∈ ys,∃ n,y = .int .u8 n
 | [],_,y,hy=>by cases hy
 | x::r,h,y,hy=>by
  unfold AeP at h
  split at h
  ·rename_i heq; cases heq
  ·rename_i n r' heq
   cases heq
   rcases List.mem_cons.1 hy with rfl | hy
   ·exact ⟨_,rfl⟩
   ·exact Afv h y hy
  ·cases h
theorem Ajh {c : Cx} : ∀ {ys : List AV} {vs : List Value},AeP ys=true→AaD c ys vs→unb ys=some (ys.map Auv)
 | [],_,_,_=>rfl
 | x::r,vs,h,hr=>by
  obtain ⟨n,rfl⟩:=Afv h x (by simp)
  simp only [AaD] at hr
  obtain ⟨v,rest,rfl,hx,ht⟩:=hr
  simp only [Rep] at hx
  have h2 : AeP r=true:=by simpa [AeP] using h
  have ih:=Ajh h2 ht
  have hin:=hx.2
  simp only [InR,IntKind.min,IntKind.max,IntKind.signed,IntKind.bits] at hin
  unfold unb
  rw [if_pos (by simp at hin; omega),ih]
  simp [Auv]
theorem Ajn {P : Program} {o : Oper} {s : Nat→AV} {H : Aac} {N : Nat} (hc : AaY o=true) (src dst e : TypeId) (y : Operand) (ho : o.op = .convert src dst y) (hs : P.underlying src=some (.slice e))
 (he : P.underlying e=some (.int .u8)) (hd : P.underlying dst=some .string) (ys : List AV) (T : List Nat) (hsrc : Afc H (ev s y)=some (ys,T)) (hns : ∀ b,ev s y ≠ .str b) (hl : AeP ys=true) (hT : ∀ id ∈ T,id<N) :
 Aao P o s H N (.str (sOf ys)) H N T []:=by
 unfold sOf
 refine ⟨?_,fun _ _=>rfl,Nat.le_refl _,hT,fun _ h=>by simp at h⟩
 intro n c s1 H1 a w hrel hu hTT hW K Q hk
 have hone : ∀ x ∈ ys,x.one=true:=fun x hx=>by obtain ⟨n,rfl⟩:=Afv hl x hx; rfl
 have hfl : ∀ l : List AV,(∀ x ∈ l,x.one=true)→AaI l=l:=by
  intro l
  induction l with
  | nil=>intro _; rfl
  | cons x l ih =>
   intro h
   have hx:=h x (by simp)
   have h1 : x.cells = [x]:=by cases x <;> simp_all [AV.one,AV.cells]
   have h2:=ih (fun y hy=>h y (by simp [hy]))
   simp only [AaI,List.flatMap_cons,h1] at h2 ⊢
   rw [h2]; rfl
 have r1:=Aaj hrel hu hc (x:=y) (by simp [ho,Op.operands])
 have S:=AdD (P:=P) (es:=1) hrel.hr r1 (Ab8 hsrc hTT) (fun x hx=>by obtain ⟨n,rfl⟩:=Afv hl x hx; exact ⟨rfl,rfl⟩) (by rw [hfl ys hone]; exact hone) (fun _=>hone)
 obtain ⟨arr,_,a2,_,_⟩:=S.cells
 rw [hfl ys hone] at a2
 exact (Aof hc src dst e y ho hs he hd ys T hsrc hns _ (Ajh hl a2) hT).op n c s1 H1 a w hrel hu hTT hW K Q hk
theorem Alm {P : Program} {o : Oper} {s : Nat→AV} {H : Aac} {N : Nat} (hc : AaY o=true) (src dst e by_ : Nat) (y : Operand) (ho : o.op = .convert src dst y) (hs : P.underlying src=some .string)
 (hE : Aap P dst=some (e,1,by_)) (he : P.underlying e=some (.int .u8)) (b : ByteArray) (hy : ev s y = .str b) : Aao P o s H N (.lst false false (bytes b.data.toList)) H N [] []:=by
 obtain ⟨i,hu,hi,hsz,hby,z0,hz0,hzs⟩:=Aa9 hE
 refine Aao.newZ [] (fun _ h=>by simp at h) fun n c s1 H1 a w hrel hu' hT=>?_
 have r1:=Aaj hrel hu' hc (x:=y) (by simp [ho,Op.operands])
 rw [hy] at r1
 simp only [Rep] at r1
 have hge:=grownCap_ge w b.size 0 e
 have hle:=grownCap_le_maxLen w b.size 0 e r1.2
 have hcap : Question.cut (.appendCap b.size 0 e) (w.tape w.drawn (.appendCap b.size 0 e))=grownCap w b.size 0 e:=rfl
 generalize hcc : grownCap w b.size 0 e=cap at hge hle hcap
 generalize harr : (b.data.map fun (b : UInt8)=>Value.int .u8 b.toNat)++Array.replicate (cap-b.size) (Value.int .u8 0)=arr
 refine ⟨.slice (some ⟨w.heap.size,0,none⟩) b.size cap,.cells arr e (arr.size,arr.size+1),(w.drew.alloc (.cells arr e)).freeze ⟨w.heap.size,arr.size,none⟩ 1,?_,?_,?_,?_,?_,fun L=>?_⟩
 ·simp only [execOp,ho,convert,Sem.run_bind,run_underlying hs,run_underlying hu,Result.andThen_ok,r1.1,run_underlying he,Conv.stringToBytes,run_choose,Question.forced,Bool.false_eq_true,if_false,hcap,harr,newRow,run_newObj,Sem.run_pure,
   markStringish,run_shape,run_freeze]
  have hsh : (({ ({ w with drawn:=w.drawn+1 } : World) with heap:=w.heap.push (.cells arr e) } : World)).shape? w.heap.size=some (e,arr.size):=by simp [World.shape?]
  simp only [hsh,run_freeze,Result.andThen_ok]
  rfl
 ·simp only [World.freeze,World.alloc,World.drew]
  simp only [Nat.succ_ne_zero,if_false]
  apply Array.ext
  ·simp
  ·intro j h1 h2
   simp only [Array.size_modify,Array.size_push] at h1
   rw [Array.getElem_modify]
   by_cases hj : j=w.heap.size
   ·subst hj; simp
   ·have hlt : j<w.heap.size:=by omega
    rw [if_neg (by omega),Array.getElem_push_lt hlt,Array.getElem_push_lt hlt]
 ·rfl
 ·rfl
 ·rfl
 ·simp only [Rep]
  right
  have hbl : (AdM b.data.toList).length=b.size:=by simp [AdM]
  refine ⟨trivial,_,w.heap.size,0,cap,1,AdM b.data.toList,by rw [hbl],by omega,hle,by simp,fun _=>⟨rfl,.inr rfl⟩,?_,AhI _ _⟩
  have hone:=Aj7 b.data.toList
  rw [Ab5 (fun v hv=>by rw [Ac8 (hone v hv)]; rfl),AmI hone]
  refine AdY (by simp only [Array.getElem?_push_size]; rfl) ⟨(Array.replicate (cap-b.size) (Value.int .u8 0)).toList,?_⟩
  rw [← harr,Array.toList_append]
  congr 1
  simp [AdM]
theorem Akn {P : Program} {o : Oper} {s : Nat→AV} {H : Aac} {N : Nat} (hc : AaY o=true) (src dst e by_ : Nat) (y : Operand) (ho : o.op = .convert src dst y) (hs : P.underlying src=some .string)
 (hE : Aap P dst=some (e,1,by_)) (he : P.underlying e=some (.int .u8)) (b : ByteArray) (hy : ev s y = .str b) : Aao P o s H N (.slc N 0 1 b.size false) (upd H N (some (.cells (bytes b.data.toList)))) (N+1) [] [N]:=by
 obtain ⟨i,hu,hi,hsz,hby,z0,hz0,hzs⟩:=Aa9 hE
 refine Aao.new (.cells (bytes b.data.toList)) [] (fun _ h=>by simp at h) fun n c s1 H1 a w hrel hu' hT hun=>?_
 have r1:=Aaj hrel hu' hc (x:=y) (by simp [ho,Op.operands])
 rw [hy] at r1
 simp only [Rep] at r1
 have hge:=grownCap_ge w b.size 0 e
 have hle:=grownCap_le_maxLen w b.size 0 e r1.2
 have hcap : Question.cut (.appendCap b.size 0 e) (w.tape w.drawn (.appendCap b.size 0 e))=grownCap w b.size 0 e:=rfl
 generalize hcc : grownCap w b.size 0 e=cap at hge hle hcap
 have hasz : ((b.data.map fun (b : UInt8)=>Value.int .u8 b.toNat)++Array.replicate (cap-b.size) (Value.int .u8 0) : Array Value).size=cap:=by
  have : b.data.size=b.size:=rfl
  simp only [Array.size_append,Array.size_map,Array.size_replicate]; omega
 have hal : ((b.data.map fun (b : UInt8)=>Value.int .u8 b.toNat)++Array.replicate (cap-b.size) (Value.int .u8 0) : Array Value).toList=AdM b.data.toList++(Array.replicate (cap-b.size) (Value.int .u8 0)).toList:=by
  rw [Array.toList_append]; congr 1; simp [AdM]
 generalize harr : (b.data.map fun (b : UInt8)=>Value.int .u8 b.toNat)++Array.replicate (cap-b.size) (Value.int .u8 0)=arr at hasz hal
 refine ⟨.slice (some ⟨w.heap.size,0,none⟩) b.size cap,.cells arr e (arr.size,arr.size+1),(w.drew.alloc (.cells arr e)).freeze ⟨w.heap.size,arr.size,none⟩ 1,0,cap,?_,?_,?_,?_,?_,fun L=>⟨?_,?_⟩⟩
 ·simp only [execOp,ho,convert,Sem.run_bind,run_underlying hs,run_underlying hu,Result.andThen_ok,r1.1,run_underlying he,Conv.stringToBytes,run_choose,Question.forced,Bool.false_eq_true,if_false,hcap,harr,newRow,run_newObj,Sem.run_pure,
   markStringish,run_shape,run_freeze]
  have hsh : (({ ({ w with drawn:=w.drawn+1 } : World) with heap:=w.heap.push (.cells arr e) } : World)).shape? w.heap.size=some (e,arr.size):=by simp [World.shape?]
  simp only [hsh,run_freeze,Result.andThen_ok]
  rfl
 ·simp only [World.freeze,World.alloc,World.drew]
  simp only [Nat.succ_ne_zero,if_false]
  apply Array.ext
  ·simp
  ·intro j h1 h2
   simp only [Array.size_modify,Array.size_push] at h1
   rw [Array.getElem_modify]
   by_cases hj : j=w.heap.size
   ·subst hj; simp
   ·have hlt : j<w.heap.size:=by omega
    rw [if_neg (by omega),Array.getElem_push_lt hlt,Array.getElem_push_lt hlt]
 ·rfl
 ·rfl
 ·rfl
 ·refine ⟨arr,e,(arr.size,arr.size+1),AdM b.data.toList,by simp,hasz,⟨by simp,fun o h=>by simp; omega⟩,?_,AhI _ _,AdY (by simp only [Array.getElem?_push_size]; rfl) ⟨_,hal⟩⟩
  have : b.data.toList.length=b.size:=by rw [Array.length_toList]; rfl
  simp only [bytes,List.length_map]; omega
 ·simp only [Rep,AbR]
  refine ⟨by simp,rfl,fun h=>by simp at h,fun b' base' sz' h=>?_⟩
  simp only [Aei.live.injEq] at h
  obtain ⟨rfl,rfl,rfl⟩:=h
  exact ⟨cap,0,rfl,fun _=>rfl,by omega,hle,by omega,by simp⟩
theorem Alj {P : Program} {o : Oper} {s : Nat→AV} {H : Aac} {N : Nat} (hc : AaY o=true) (t e : Nat) (y : Operand) (ho : o.op = .convert t t y) (hu : P.underlying t=some (.slice e)) (he : P.underlying e=some (.int .u8))
 (id off len : Nat) (full : Bool) (hy : ev s y = .slc id off 1 len full) (hid : id<N) (obj : AaZ) (hob : H id=some obj) (hng : obj ≠ .grow []) (cs : List AV) (hcs : obj.cs? = some cs) :
 Aao P o s H N (.slc id off 1 len full) (upd H id (some obj)) N [id] [id] :=
 Aao.write id obj obj hid hob hng _ [id] (by simpa using hid) (by simp) fun n c s1 H1 a w hrel hu' hT b base sz hl hor=>by
  have r1:=Aaj hrel hu' hc (x:=y) (by simp [ho,Op.operands])
  rw [hy] at r1
  simp only [Rep] at r1
  obtain ⟨cap,o',hv,h1,h2,h3,h4,h5⟩:=r1.2.2.2 b base sz hl
  have hk : ∃ cur T fr vs,c.h[b]? = some (.cells cur T fr)∧cur.size=sz∧Ahn sz fr∧base+cs.length≤sz∧AaD c cs vs∧Aaw c.h b base vs:=by
   cases obj with
   | cells l=>cases hcs; exact hor
   | grow l=>cases hcs; exact hor.2
   | mp l=>cases hcs
   | it _ _=>cases hcs
  obtain ⟨cur,T,fr,vs,k1,k2,k3,k4,k5,k6⟩:=hk
  have k1':=k1
  rw [hrel.hr.heap] at k1
  have hlt:=(Array.getElem?_eq_some_iff.1 k1).1
  have hge:=(Array.getElem?_eq_some_iff.1 k1).2
  have hsh : w.shape? b=some (T,cur.size):=by simp [World.shape?,k1]
  have hfz : ∃ fr',Ahn sz fr'∧(w.freeze ⟨b,cur.size,none⟩ 1).heap[b]? = some (.cells cur T fr'):=by
   obtain ⟨lo,hi⟩:=fr
   refine ⟨if lo==hi then (cur.size,cur.size+1) else (min lo cur.size,max hi (cur.size+1)),?_,?_⟩
   ·have hlo : lo=hi∨sz≤lo:=by
     rcases Nat.lt_or_ge lo sz with h | h
     ·left
      have:=k3.2 lo h
      have:=k3.1
      simp at *; omega
     ·exact .inr h
    by_cases h : lo=hi
    ·simp only [h,beq_self_eq_true,if_true]
     exact ⟨by simp,fun q hq=>by simp; omega⟩
    ·have hb : (lo==hi)=false:=by simpa using h
     simp only [hb,Bool.false_eq_true,if_false]
     refine ⟨?_,fun q hq=>?_⟩
     ·simp; omega
     ·simp; omega
   ·simp only [World.freeze,Nat.succ_ne_zero,if_false,Array.getElem?_modify]
    simp [k1]
  obtain ⟨fr',q1,q2⟩:=hfz
  refine ⟨w.freeze ⟨b,cur.size,none⟩ 1,_,.slice (some ⟨b,o',none⟩) len cap,.inr rfl,?_,?_,?_,rfl,rfl,rfl,fun L=>⟨?_,?_⟩⟩
  ·have hbeq : (t==t)=true:=by simp
   simp only [execOp,ho,convert,Sem.run_bind,run_underlying hu,Result.andThen_ok,hv,run_underlying he,hbeq,markStringish,run_shape,hsh,run_freeze,Sem.run_pure]
  ·simp [World.freeze]
  ·intro k hne
   simp only [World.freeze,Nat.succ_ne_zero,if_false,Array.getElem?_modify]
   rw [if_neg (by simpa using fun h=>hne h.symm)]
  ·cases obj with
   | cells l =>
    cases hcs
    refine ⟨cur,T,fr',vs,q2,k2,q1,k4,k5.mono L,fun j hj=>?_⟩
    have:=k6 j hj
    simp only [Aa6,k1'] at this
    simp only [Aa6,q2]; exact this
   | grow l =>
    cases hcs
    refine ⟨hor.1,cur,T,fr',vs,q2,k2,q1,k4,k5.mono L,fun j hj=>?_⟩
    have:=k6 j hj
    simp only [Aa6,k1'] at this
    simp only [Aa6,q2]; exact this
   | mp l=>cases hcs
   | it _ _=>cases hcs
  ·simp only [Rep]
   refine ⟨r1.1,rfl,fun he=>(by rw [hl] at he; cases he),fun b' base' sz' hl'=>?_⟩
   rw [hl] at hl'
   cases hl'
   exact ⟨cap,o',rfl,h1,h2,h3,h4,h5⟩
def AuU (k : IntKind) (a b : Int) : AV := .int k (if a<b then b else a)
def AuT (k : IntKind) (a b : Int) : AV := .int k (if b<a then b else a)
theorem AtG {P : Program} {o : Oper} {s : Nat→AV} {H : Aac} {N : Nat} (hc : AaY o=true) (ts : Array TypeId) (y z : Operand) (ho : o.op = .call { callee := .builtin .max,args := #[y,z],argTypes:=ts }) (k : IntKind) (a b : Int)
 (hy : ev s y = .int k a) (hz : ev s z = .int k b) : Aao P o s H N (AuU k a b) H N [] [] :=
 Aao.pure hc fun ρ w c hh hrep=>by
  have h1:=hrep y (by simp [ho,Op.operands,Call.operands])
  have h2:=hrep z (by simp [ho,Op.operands,Call.operands])
  rw [hy] at h1; rw [hz] at h2
  simp only [Rep] at h1 h2
  refine ⟨.int k (if a<b then b else a),?_,?_⟩
  ·simp [execOp,ho,resolve,invoke,builtin,Builtin.max_,h1.1,h2.1,Builtin.max2]
  ·simp only [AuU,Rep]; refine ⟨trivial,?_⟩; split
   ·exact h2.2
   ·exact h1.2
theorem AtF {P : Program} {o : Oper} {s : Nat→AV} {H : Aac} {N : Nat} (hc : AaY o=true) (ts : Array TypeId) (y z : Operand) (ho : o.op = .call { callee := .builtin .min,args := #[y,z],argTypes:=ts }) (k : IntKind) (a b : Int)
 (hy : ev s y = .int k a) (hz : ev s z = .int k b) : Aao P o s H N (AuT k a b) H N [] [] :=
 Aao.pure hc fun ρ w c hh hrep=>by
  have h1:=hrep y (by simp [ho,Op.operands,Call.operands])
  have h2:=hrep z (by simp [ho,Op.operands,Call.operands])
  rw [hy] at h1; rw [hz] at h2
  simp only [Rep] at h1 h2
  refine ⟨.int k (if b<a then b else a),?_,?_⟩
  ·simp [execOp,ho,resolve,invoke,builtin,Builtin.min_,h1.1,h2.1,Builtin.min2]
  ·simp only [AuT,Rep]; refine ⟨trivial,?_⟩; split
   ·exact h2.2
   ·exact h1.2
end Go.Abs
