import Derived.Test.YthiodjlppahmkaaGreatExtPla30
set_option linter.unusedVariables false
set_option linter.unusedSimpArgs false
namespace Go.Abs
noncomputable section

section
variable {P : Program} {s : Nat→AV} {H : Aac} {r : AV}
def AfD (P : Program) (s : Nat→AV) (H : Aac) : ResultVar→Option AV
  | .tmp t=>some (s t)
  | .cell a t=>match s a with
    | .ptr id off=>match oCs (H id) with
      | some q=>if q.2.isEmpty then none else AeL P t (q.2.drop off)
      | none=>none
    | _=>none
theorem Ad9 {x : ResultVar} (e : AfD P s H x=some r) : Ad1 P s H x r:=by
  cases x with
  | tmp t=>simp only [AfD,Option.some.injEq] at e; exact e
  | cell a t =>
    simp only [AfD] at e
    simp only [Ad1]
    split at e
    · rename_i id off hs
      simp only [hs]
      split at e
      · rename_i q hq
        simp only [hq]
        split at e
        · cases e
        · rename_i hc
          exact ⟨by intro h0; exact hc (by simp [h0]),e⟩
      · cases e
    · cases e
def Ajl (P : Program) (s : Nat→AV) (H : Aac) : List ResultVar→Option AV
  | []=>some (.tup [])
  | [x]=>AfD P s H x
  | [x,y]=>match AfD P s H x,AfD P s H y with
    | some a,some b=>some (.tup [a,b])
    | _,_=>none
  | [x,y,z]=>match AfD P s H x,AfD P s H y,AfD P s H z with
    | some a,some b,some c=>some (.tup [a,b,c])
    | _,_,_=>none
  | _=>none
theorem Aic {rs : List ResultVar} (e : Ajl P s H rs=some r) : Ad2 P s H rs r:=by
  match rs,e with
  | [],e=>simp only [Ajl,Option.some.injEq] at e; exact e.symm
  | [x],e=>exact Ad9 e
  | [x,y],e =>
    simp only [Ajl] at e
    split at e
    · rename_i a b ha hb
      cases e
      exact ⟨a,b,rfl,Ad9 ha,Ad9 hb⟩
    · cases e
  | [x,y,z],e =>
    simp only [Ajl] at e
    split at e
    · rename_i a b c ha hb hc
      cases e
      exact ⟨a,b,c,rfl,Ad9 ha,Ad9 hb,Ad9 hc⟩
    · cases e
  | _::_::_::_::_,e=>cases e
end

def Alv : List Nat→Bool
  | []=>true
  | x::xs => !xs.contains x&&Alv xs
theorem Ain : ∀ {xs : List Nat},Alv xs=true→xs.Nodup
  | [],_=>List.nodup_nil
  | x::xs,e=>by
    simp only [Alv,Bool.and_eq_true,Bool.not_eq_true',List.contains_eq_mem,decide_eq_false_iff_not] at e
    exact List.nodup_cons.2 ⟨e.1,Ain e.2⟩

def qOf (ρ : List (Nat×Nat)) (τ : Nat→Nat) (id : Nat) : Bool:=(AdS ρ (τ id)==id)&&(AfP ρ (τ id)).isSome
def AvP (q : Nat→Bool) : Option AaZ→Bool
  | some o=>Awj q o
  | none=>false
def Axi (P : Program) (rs : List ResultVar) (m M : Nat) (ks : List Nat) (ρ : List (Nat×Nat)) (τ : Nat→Nat) (l : SL) (h : HL) : Option (AV×HL) :=
  if Alv (ρ.map (·.2))&&ρ.all (fun p=>decide (p.1<M)&&(decide (m≤p.1)||(p.1==p.2))&&(AdS ρ p.1==p.2)&&AvP (qOf ρ τ) (hpF h p.2))&&ks.all (fun t=>gdF (qOf ρ τ) (slF l t))&&decide (m≤M) then
    match Ajl P (mkS (ks.map fun t=>(t,renF τ (slF l t)))) (mkH (ρ.map fun p=>(p.1,Amv τ ((hpF h p.2).getD (.grow []))))) rs with
    | some r=>some (r,(List.range M).map (mkH (ρ.map fun p=>(p.1,Amv τ ((hpF h p.2).getD (.grow []))))))
    | none=>none
  else none

section
variable {P : Program} {n : Nat} {c0 : Cx} {w0 : World} {r : AV} {O : HL}
theorem Atj {rs : List ResultVar} {m M : Nat} {ks : List Nat} {ρ : List (Nat×Nat)} {τ : Nat→Nat} {l : SL} {h : HL} (e : Axi P rs m M ks ρ τ l h=some (r,O)) (h0 : AcF c0 m) (Q : AcH)
    (hQ : ∀ s H N,Ad2 P s H rs r→(∀ i,i<O.length→H i=nth O i)→Q .ret s H N) : AW P n c0 w0 .ret Q (slF l) (hpF h) h.length:=by
  unfold Axi at e
  simp only [Amw,Akg,Asg] at e
  split at e
  · rename_i hc
    simp only [Bool.and_eq_true,decide_eq_true_eq] at hc
    obtain ⟨⟨⟨c1,c2⟩,c3⟩,c4⟩:=hc
    have c2' : ∀ p ∈ ρ,((p.1<M∧(m≤p.1∨p.1=p.2))∧AdS ρ p.1=p.2)∧AvP (qOf ρ τ) (hpF h p.2)=true:=by
      intro p hp
      have:=List.all_eq_true.1 c2 p hp
      simpa only [Bool.and_eq_true,Bool.or_eq_true,decide_eq_true_eq,beq_iff_eq] using this
    have hS : ∀ id,qOf ρ τ id=true→(AfP ρ (τ id)).isSome=true:=by
      intro id hq; simp only [qOf,Bool.and_eq_true] at hq; exact hq.2
    have hσ : ∀ id,qOf ρ τ id=true→AdS ρ (τ id)=id:=by
      intro id hq; simp only [qOf,Bool.and_eq_true,beq_iff_eq] at hq; exact hq.1
    split at e
    · rename_i r' hr
      cases e
      refine AW.rnm h0 ρ (ks.map fun t=>(t,ren τ (slF l t))) (ρ.map fun p=>(p.1,AeR τ ((hpF h p.2).getD (.grow [])))) M (Ain c1) ?_ c4 (by simp) ?_ ?_ (AW.ret (hQ _ _ _ (Aic hr) ?_))
      · intro p hp
        have:=(c2' p hp).1.1
        exact ⟨this.1,fun hlt=>this.2.resolve_left (by omega)⟩
      · intro p hp
        obtain ⟨t,ht,rfl⟩:=List.mem_map.1 hp
        have:=AdI (S:=fun i=>(AfP ρ i).isSome=true) hS hσ (slF l t) (List.all_eq_true.1 c3 t ht)
        exact ⟨this.1.symm,this.2⟩
      · intro p hp
        obtain ⟨p0,hp0,rfl⟩:=List.mem_map.1 hp
        obtain ⟨⟨_,k1⟩,k2⟩:=c2' p0 hp0
        simp only [k1]
        cases ho : hpF h p0.2 with
        | none=>rw [ho] at k2; cases k2
        | some o =>
          rw [ho] at k2
          simp only [AvP,Ap8] at k2
          have:=An8 (S:=fun i=>(AfP ρ i).isSome=true) hS hσ k2
          simp only [Option.getD_some]
          exact ⟨by rw [this.1],this.2⟩
      · intro i hi
        simp only [List.length_map,List.length_range] at hi
        simp [nth,hi]
    · cases e
  · cases e

def Au3 : ResultVar→Nat
  | .tmp t=>t
  | .cell a _=>a
def AtY : List Nat→Nat→Nat
  | [],_=>0
  | y::ys,x=>if y=x then 0 else AtY ys x+1
def AyO (P : Program) (rs : List ResultVar) (m : Nat) (l : SL) (h : HL) : Option (AV×HL) :=
  let ks:=rs.map Au3
  let old:=(List.range m).filter fun i=>(hpF h i).isSome
  let new:=(AlZ h 100000 0 (Afn (ks.map (slF l)) old)).filter fun i=>decide (m≤i)
  Axi P rs m (m+new.length) ks (old.map (fun i=>(i,i))++new.zipIdx.map fun p=>(m+p.2,p.1)) (fun id=>if id<m then id else m+AtY new id) l h
theorem Ati {rs : List ResultVar} {m : Nat} {l : SL} {h : HL} (e : AyO P rs m l h=some (r,O)) (h0 : AcF c0 m) (Q : AcH)
    (hQ : ∀ s H N,Ad2 P s H rs r→(∀ i,i<O.length→H i=nth O i)→Q .ret s H N) : AW P n c0 w0 .ret Q (slF l) (hpF h) h.length:=Atj e h0 Q hQ
end

def AmU (es : Nat) : Nat→List AV→List AV
  | 0,_=>[]
  | k+1,cs=>(if es=1 then cs.headD .undef else .agg (cs.take es))::AmU es k (cs.drop es)
theorem AmT {es : Nat} : ∀ (k : Nat) (cs : List AV),(AmU es k cs).length=k
  | 0,_=>rfl
  | k+1,cs=>by simp [AmU,AmT k]
theorem cells_one {x : AV} (h : x.one=true) : x.cells = [x]:=by cases x <;> first | rfl | cases h
theorem Aj5 {es : Nat} (he : 0<es) : ∀ (k : Nat) (cs : List AV),k*es≤cs.length→(∀ x ∈ cs,x.one=true)→AaI (AmU es k cs)=cs.take (k*es)
  | 0,_,_,_=>by simp [AmU,AaI]
  | k+1,cs,hl,ho=>by
    have hl' : es≤cs.length:=by rw [Nat.succ_mul] at hl; omega
    have ih:=Aj5 he k (cs.drop es) (by rw [List.length_drop,Nat.succ_mul] at *; omega) (fun x hx=>ho x (List.mem_of_mem_drop hx))
    have e1 : (k+1)*es=es+k*es:=by rw [Nat.succ_mul,Nat.add_comm]
    have e2 : cs.take (es+k*es)=cs.take es++(cs.drop es).take (k*es):=by rw [List.take_add]
    rw [e1,e2]
    simp only [AmU,AaI,List.flatMap_cons] at ih ⊢
    rw [ih]
    congr 1
    split
    · rename_i h1
      subst h1
      cases cs with
      | nil=>simp at hl'
      | cons x cs=>simp only [List.headD_cons,List.take_succ_cons,List.take_zero]; exact cells_one (ho x (by simp))
    · rfl
def Aua (id : Nat) (cs : List AV) : AV→AV
  | .slc id' off es len full=>if id'=id then .lst false false (AmU es len (cs.drop off)) else .slc id' off es len full
  | x=>x
def Aov (id : Nat) (cs : List AV) : AV→Bool
  | .slc id' off es len full=>if id'=id then decide (0<es)&&decide (off+len*es≤cs.length)&&Ag4 es (AmU es len (cs.drop off)) else true
  | _=>true
def AyM (id : Nat) (cs : List AV) : AV→AV
  | .agg xs => .agg (xs.map (Aua id cs))
  | x=>Aua id cs x
def AyN (id : Nat) (cs : List AV) : AV→Bool
  | .agg xs=>xs.all (Aov id cs)
  | x=>Aov id cs x
section
variable {id : Nat} {o : AaZ} {cs : List AV}
theorem AqF (h1 : ∀ x ∈ cs,x.one=true) {x : AV} (e : Aov id cs x=true) : Frz id o cs x (Aua id cs x):=by
  cases x <;> try exact .same _
  rename_i id' off es len full
  simp only [Aov] at e
  simp only [Aua]
  split
  · rename_i hid
    subst hid
    simp only [if_true,Bool.and_eq_true,decide_eq_true_eq] at e
    obtain ⟨⟨e1,e2⟩,e3⟩:=e
    exact .lst (fun h=>by cases h) (AeI e3) (AmT _ _) (Aj5 e1 _ _ (by rw [List.length_drop]; omega) (fun x hx=>h1 x (List.mem_of_mem_drop hx))) rfl
  · exact .same _
theorem AnG (h1 : ∀ x ∈ cs,x.one=true) : ∀ {xs : List AV},xs.all (Aov id cs)=true→Ah5 id o cs xs (xs.map (Aua id cs))
  | [],_ => .nil
  | x::xs,e=>by
    simp only [List.all_cons,Bool.and_eq_true] at e
    exact .cons (AqF h1 e.1) (AnG h1 e.2)
theorem Atc (h1 : ∀ x ∈ cs,x.one=true) {x : AV} (e : AyN id cs x=true) : Frz id o cs x (AyM id cs x):=by
  cases x <;> first | exact .agg (AnG h1 e) | exact AqF h1 e
end
end
end Go.Abs
set_option linter.unusedVariables false
set_option linter.unusedSimpArgs false
namespace Go.Abs
noncomputable section

def Anq (l : SL) : List (Nat×AV)→SL
  | []=>l
  | p::ps=>putL (Anq l ps) p.1 p.2
theorem Aji (l : SL) : ∀ ps,slF (Anq l ps)=ApG (slF l) ps
  | []=>rfl
  | p::ps=>by simp only [Anq,ApO,Aji l ps]; rfl
def Ajj (h : HL) : List (Nat×AaZ)→HL
  | []=>h
  | p::ps=>(Ajj h ps).set p.1 (some p.2)
theorem AhW (h : HL) : ∀ ps,(Ajj h ps).length=h.length
  | []=>rfl
  | p::ps=>by simp [Ajj,AhW h ps]
theorem Ajv (h : HL) : ∀ ps,(∀ p ∈ ps,p.1<h.length)→hpF (Ajj h ps)=AkN (hpF h) ps
  | [],_=>rfl
  | p::ps,hp=>by
    simp only [Ajj]
    rw [Afo (by rw [AhW]; exact hp p (by simp)),Ajv h ps (fun q hq=>hp q (by simp [hq]))]
    rfl

section
variable (id : Nat) (cs : List AV) (l : SL) (h : HL)
def Aj6 (a : Nat) : Option (Nat×List AV):=match slF l a with
  | .ptr i _=>match hpF h i with
    | some (.cells xs)=>some (i,xs)
    | _=>none
  | _=>none
def AqE : List ResultVar→List (Nat×AV)
  | []=>[]
  | .tmp t::rs=>(t,AyM id cs (slF l t))::AqE rs
  | .cell _ _::rs=>AqE rs
def AmE : List ResultVar→Bool
  | []=>true
  | .tmp t::rs=>AyN id cs (slF l t)&&AmE rs
  | .cell _ _::rs=>AmE rs
def Ak2 : List ResultVar→List (Nat×AaZ)
  | []=>[]
  | .tmp _::rs=>Ak2 rs
  | .cell a _::rs=>match Aj6 l h a with
    | some p=>(p.1,.cells (p.2.map (Aua id cs)))::Ak2 rs
    | none=>Ak2 rs
def AmF : List ResultVar→Bool
  | []=>true
  | .tmp _::rs=>AmF rs
  | .cell a _::rs=>(match Aj6 l h a with
    | some p=>(p.1 !=id)&&p.2.all (Aov id cs)
    | none=>true)&&AmF rs
end
section
variable {id : Nat} {o : AaZ} {cs : List AV} {l : SL} {h : HL}
theorem Ak0 (h1 : ∀ x ∈ cs,x.one=true) : ∀ (rs : List ResultVar),AmE id cs l rs=true→Awz id o cs (slF l) (AqE id cs l rs)
  | [],_=>trivial
  | .tmp t::rs,e=>by
    simp only [AmE,Bool.and_eq_true] at e
    exact ⟨Atc h1 e.1,Ak0 h1 rs e.2⟩
  | .cell _ _::rs,e=>Ak0 h1 rs e
theorem Aqe {a : Nat} {p : Nat×List AV} (e : Aj6 l h a=some p) : hpF h p.1=some (.cells p.2):=by
  unfold Aj6 at e
  split at e
  · split at e
    · rename_i hh; cases e; exact hh
    · cases e
  · cases e
theorem Ak1 (h1 : ∀ x ∈ cs,x.one=true) : ∀ (rs : List ResultVar),AmF id cs l h rs=true→AwH id o cs (hpF h) (Ak2 id cs l h rs)∧∀ p ∈ Ak2 id cs l h rs,p.1<h.length
  | [],_=>⟨trivial,by simp [Ak2]⟩
  | .tmp _::rs,e=>Ak1 h1 rs e
  | .cell a _::rs,e=>by
    simp only [AmF,Bool.and_eq_true] at e
    have ih:=Ak1 h1 rs e.2
    simp only [Ak2]
    cases hc : Aj6 l h a with
    | none=>exact ih
    | some p =>
      have e1:=e.1
      rw [hc] at e1
      simp only [Bool.and_eq_true,bne_iff_ne] at e1
      have hp:=Aqe hc
      refine ⟨⟨⟨e1.1,_,hp,Ao7.mk (AnG h1 e1.2)⟩,ih.1⟩,?_⟩
      intro q hq
      rcases List.mem_cons.1 hq with rfl | hq
      · exact Ahs hp
      · exact ih.2 q hq
end

def AxA (m : Nat) : AV→Option Nat
  | .slc id _ _ _ _=>if m≤id then some id else none
  | _=>none
def AyZ (m : Nat) : AV→Option Nat
  | .agg xs=>xs.findSome? (AxA m)
  | x=>AxA m x
def AtE (m : Nat) (l : SL) (h : HL) : List ResultVar→Option Nat
  | []=>none
  | .tmp t::rs=>match AyZ m (slF l t) with
    | some i=>some i
    | none=>AtE m l h rs
  | .cell a _::rs=>match (Aj6 l h a).bind fun p=>p.2.findSome? (AxA m) with
    | some i=>some i
    | none=>AtE m l h rs
def AqD (id : Nat) (rs : List ResultVar) (l : SL) (h : HL) : Option (SL×HL) :=
  match hpF h id with
  | some o=>match o.cs? with
    | some cs=>if cs.all AV.one&&AmE id cs l rs&&AmF id cs l h rs then some (Anq l (AqE id cs l rs),Ajj (h.set id none) (Ak2 id cs l h rs)) else none
    | none=>none
  | none=>none
def AgE (m : Nat) (l : SL) (h : HL) : List ResultVar→Option Nat
  | []=>none
  | .cell _ _::rs=>AgE m l h rs
  | .tmp t::rs=>match slF l t with
    | .slc id 0 _ 0 _=>match decide (m≤id),hpF h id with
      | true,some (.grow (_::_))=>some id
      | _,_=>AgE m l h rs
    | _=>AgE m l h rs
theorem AfH {m id : Nat} {l : SL} {h : HL} : ∀ (rs : List ResultVar),AgE m l h rs=some id→∃ cs,hpF h id=some (.grow cs)∧cs≠[]
  | [],e=>by cases e
  | .cell _ _::rs,e=>AfH rs e
  | .tmp t::rs,e=>by
    simp only [AgE] at e
    split at e
    · split at e
      · rename_i hh; cases e; exact ⟨_,hh,by simp⟩
      · exact AfH rs e
    · exact AfH rs e
theorem Can.shr0 {n : Nat} {c0 : Cx} {w0 : World} {s : Nat→AV} {H : Aac} {N : Nat} {T : Act→World→Prop} (id : Nat) {cs : List AV} (ho : H id=some (.grow cs)) (hne : cs≠[]) (h : Can n c0 w0 s (upd H id (some (.cells []))) N T) : Can n c0 w0 s H N T:=by
  intro a w ⟨cx,hr,hd,g,hu⟩
  have k5:=hr.hr.reobj id (.cells []) (fun o ho' he=>by
      rw [ho] at ho'; cases ho'
      rw [AaZ.grow.injEq] at he
      exact absurd he hne) (by rw [ho]; rfl) (fun o b base sz ho' hl hor=>by
    rw [ho] at ho'; cases ho'
    obtain ⟨hn0,cur,T,fr,vs,h1,h2,h3,h4,h5,h6⟩:=hor
    exact ⟨cur,T,fr,[],h1,h2,h3,by simp only [List.length_nil]; omega,by simp [AaD],fun i hi=>by simp at hi⟩)
  exact h a w ⟨cx,⟨k5,hr.size,hr.slot⟩,hd,g,hu⟩
def Aub (P : Program) (rs : List ResultVar) (m : Nat) (frz : Bool) : Nat→SL→HL→Option (AV×HL)
  | 0,_,_=>none
  | k+1,l,h=>match (if frz then none else AgE m l h rs) with
   | some id=>Aub P rs m frz k l (h.set id (some (.cells [])))
   | none=>match (if frz then AtE m l h rs else none) with
    | some id=>match AqD id rs l h with
      | some q=>Aub P rs m frz k q.1 q.2
      | none=>none
    | none=>AyO P rs m l h

section
variable {P : Program} {n : Nat} {c0 : Cx} {w0 : World} {r : AV} {O : HL}
theorem AnK {rs : List ResultVar} {m : Nat} {frz : Bool} (h0 : AcF c0 m) (Q : AcH) (hQ : ∀ s H N,Ad2 P s H rs r→(∀ i,i<O.length→H i=nth O i)→Q .ret s H N) :
    ∀ (k : Nat) (l : SL) (h : HL),Aub P rs m frz k l h=some (r,O)→AW P n c0 w0 .ret Q (slF l) (hpF h) h.length
  | 0,_,_,e=>by cases e
  | k+1,l,h,e=>by
    unfold Aub at e
    split at e
    · rename_i id hid
      have ih:=AnK h0 Q hQ k l _ e
      split at hid
      · cases hid
      · obtain ⟨cs,hh,hne⟩:=AfH rs hid
        rw [Afo (Ahs hh),List.length_set] at ih
        exact Can.shr0 id hh hne ih
    split at e
    · rename_i id hid
      split at e
      · rename_i q hq
        have ih:=AnK h0 Q hQ k q.1 q.2 e
        unfold AqD at hq
        split at hq
        · rename_i o ho
          split at hq
          · rename_i cs hcs
            split at hq
            · rename_i hc
              simp only [Bool.and_eq_true] at hc
              cases hq
              have h1 : ∀ x ∈ cs,x.one=true:=fun x hx=>List.all_eq_true.1 hc.1.1 x hx
              have hlo:=Ak1 (o:=o) h1 rs hc.2
              have hl:=Ahs ho
              refine AW.frz id ho hcs (AqE id cs l rs) (Ak2 id cs l h rs) (Ak0 h1 rs hc.1.2) hlo.1 ?_
              rw [Aji,Ajv _ _ (fun p hp=>by rw [List.length_set]; exact hlo.2 p hp),Afo hl,AhW,List.length_set] at ih
              exact ih
            · cases hq
          · cases hq
        · cases hq
      · cases e
    · exact Ati e h0 Q hQ
end

structure Pol where
  frz : Bool
  mks : Bool
  lit : Bool
def AvX (O : HL) (i : Nat) : Bool:=(nth O i).isSome
def Aue (O : List AaZ) (r : AV) (O' : HL) : Bool:=decide (O.length≤O'.length)&&gdB (AvX O') r&&O'.all (fun o=>match o with | some o=>Ase (AvX O') o | none=>true)
theorem Anv {h : HL} {m i : Nat} (hi : i<(h.take m).length) : hpF h i=nth (h.take m) i:=by
  rw [List.length_take] at hi
  unfold hpF nth
  rw [List.getElem?_take,if_pos (by omega)]
def AoD (P : Program) (call : AeT) (pol : Pol) (K : Nat) (f : FuncId) (args : List AV) (O : List AaZ) : Option (AV×HL) :=
  match P.funcs[f]? with
  | some fn=>match fn.body with
    | some code =>
      if decide (args.length≤fn.ntmps)&&AhY fn.ntmps fn.results.toList&&Ajw (fun i=>decide (i<O.length)) args&&O.all (Ase (fun i=>decide (i<O.length))) then
        match evC P call pol.lit pol.mks fn.ntmps (Aub P fn.results.toList O.length pol.frz 1000) K code (slOf args) (O.map some) with
        | some (.ret r O')=>if Aue O r (O'.take O.length) then some (r,O'.take O.length) else if Aue O r O' then some (r,O') else none
        | some (.nrm l h)=>match Ajl P (slF l) (hpF h) fn.results.toList with
          | some r=>if Aue O r (h.take O.length) then some (r,h.take O.length) else if Aue O r h then some (r,h) else none
          | none=>none
        | _=>none
      else none
    | none=>none
  | none=>none

section
variable {P : Program}
theorem Arq (O : List AaZ) : hpF (O.map some)=fun i=>O[i]?:=by
  funext i
  unfold hpF
  rw [List.getElem?_map]
  cases O[i]? <;> rfl
theorem AmN {call : AeT} {pol : Pol} {K : Nat} {f : FuncId} {args : List AV} {O : List AaZ} {r : AV} {O' : HL} (hm : P.follows .mixedOrders=true) (hcall : AeQ P call) (e : AoD P call pol K f args O=some (r,O')) : Aab P f args O r O':=by
  unfold AoD at e
  split at e
  · rename_i fn hf
    split at e
    · rename_i code hb
      split at e
      · rename_i hc
        simp only [Bool.and_eq_true,decide_eq_true_eq] at hc
        obtain ⟨⟨⟨c1,c2⟩,c3⟩,c4⟩:=hc
        have fin : ∀ (out : Out) (r : AV) (O1 O' : HL),evC P call pol.lit pol.mks fn.ntmps (Aub P fn.results.toList O.length pol.frz 1000) K code (slOf args) (O.map some)=some out→Aue O r O'=true→(∀ i,i<O'.length→i<O1.length∧nth O1 i=nth O' i) →
            (∀ Q : AcH,(∀ s H N,Ad2 P s H fn.results.toList r→(∀ i,i<O1.length→H i=nth O1 i)→Q .ret s H N∧Q .normal s H N)→Aq8 Q r O1 out)→Aab P f args O r O':=by
          intro out r O1 O' hev hd hO hg
          simp only [Aue,Bool.and_eq_true,decide_eq_true_eq] at hd
          obtain ⟨⟨d1,d2⟩,d3⟩:=hd
          refine Aab.enter hf hb c1 c2 d1 (Agg (fun i hi=>by simpa using hi) args c3) (fun o ho=>Ap9 (fun i hi=>by simpa using hi) (List.all_eq_true.1 c4 o ho)) (Ai2 (fun i hi=>hi) _ d2) (fun o ho=>Ap9 (fun i hi=>hi) (List.all_eq_true.1 d3 _ ho)) ?_
          intro c0 w0 Q h0 hQ
          have key:=(Asj (n:=fn.ntmps) (c0:=c0) (w0:=w0) (r0:=r) (O0:=O1) (fun s H N=>Ad2 P s H fn.results.toList r∧∀ i,i<O1.length→H i=nth O1 i) hm hcall
            (fun l h e2 Q' hQ'=>AnK h0 Q' (fun s H N a b=>hQ' s H N ⟨a,b⟩) _ l h e2) K code (slOf args) (O.map some) _ Q hev (hg Q fun s H N a b=>hQ s H N a fun i hi=>(b i (hO i hi).1).trans (hO i hi).2) (fun s H N a=>(hQ s H N a.1 fun i hi=>(a.2 i (hO i hi).1).trans (hO i hi).2).1)).1
          rw [Arq,List.length_map,show slF (slOf args)=Aqy args from funext fun t=>Au4 args t] at key
          exact key
        split at e
        · rename_i r1 O1 hev
          split at e
          · rename_i hd
            cases e
            exact fin _ _ O1 _ hev hd (fun i hi=>⟨by rw [List.length_take] at hi; omega,Anv hi⟩) fun Q hQ=>⟨rfl,rfl⟩
          · split at e
            · rename_i hd
              cases e
              exact fin _ _ _ _ hev hd (fun i hi=>⟨hi,rfl⟩) fun Q hQ=>⟨rfl,rfl⟩
            · cases e
        · rename_i l1 h1 hev
          split at e
          · rename_i r1 hr1
            split at e
            · rename_i hd
              cases e
              exact fin _ _ _ _ hev hd (fun i hi=>⟨hi,rfl⟩) fun Q hQ=>(hQ _ _ _ (Aic hr1) (fun i hi=>Anv hi)).2
            · split at e
              · rename_i hd
                cases e
                exact fin _ _ _ _ hev hd (fun i hi=>⟨hi,rfl⟩) fun Q hQ=>(hQ _ _ _ (Aic hr1) (fun i hi=>rfl)).2
              · cases e
          · cases e
        · cases e
      · cases e
    · cases e
  · cases e
end
end
end Go.Abs
set_option linter.unusedVariables false
set_option linter.unusedSimpArgs false
namespace Go.Abs
noncomputable section

def AjT (ρ : Nat→Nat) (h : HL) : List Nat→List (Option AaZ)→HL
  | j::js,o::os=>(AjT ρ h js os).set j (o.map (Amv ρ))
  | _,_=>h
theorem Aie (ρ : Nat→Nat) (h : HL) : ∀ js os,(AjT ρ h js os).length=h.length
  | [],_=>by simp [AjT]
  | _::_,[]=>by simp [AjT]
  | j::js,o::os=>by simp [AjT,Aie ρ h js os]
theorem Al9 (ρ : Nat→Nat) (h : HL) : ∀ js os,(∀ j ∈ js,j<h.length)→hpF (AjT ρ h js os)=Ah1 ρ (hpF h) js os
  | [],_,_=>by simp [AjT,Ah1]
  | _::_,[],_=>by simp [AjT,Ah1]
  | j::js,o::os,hj=>by
    simp only [AjT,Ah1,Akg]
    rw [Afo (by rw [Aie]; exact hj j (by simp)),Al9 ρ h js os (fun x hx=>hj x (by simp [hx]))]
theorem Arr (h : HL) (k : Nat) : hpF (h++List.replicate k none)=hpF h:=by
  funext i
  unfold hpF
  by_cases h1 : i<h.length
  · rw [List.getElem?_append_left h1]
  · rw [List.getElem?_append_right (by omega),List.getElem?_replicate,List.getElem?_eq_none (by omega : h.length≤i)]
    split <;> rfl

def qC (σ : List Nat) (id : Nat) : Bool:=(nm σ (AtY σ id)==id)&&decide (AtY σ id<σ.length)
def AqM (P : Program) (body : FuncId→List AV→List AaZ→Option (AV×HL)) (σ : List Nat) (f : FuncId) (args : List AV) (h : HL) : ER :=
  if AaN P f&&Alv σ&&σ.all (fun j=>AvP (qC σ) (hpF h j))&&Axh (qC σ) args then
    match body f (As7 (AtY σ) args) (σ.map fun j=>Amv (AtY σ) ((hpF h j).getD (.grow []))) with
    | some q=>if decide (σ.length≤q.2.length) then
        some (renF (nm (σ++Acx h.length (q.2.length-σ.length))) q.1,AjT (nm (σ++Acx h.length (q.2.length-σ.length))) (h++List.replicate (q.2.length-σ.length) none) (σ++Acx h.length (q.2.length-σ.length)) q.2,σ,σ++Acx h.length (q.2.length-σ.length)) else none
    | none=>none
  else none
def AqN (P : Program) (body : FuncId→List AV→List AaZ→Option (AV×HL)) : AeT:=fun f args h=>AqM P body (AlZ h 100000 0 (Afn args [])) f args h

section
variable {P : Program}
theorem AjA {H : Aac} {σ τ : Nat→Nat} {q : Nat→Bool} (hσ : ∀ id,q id=true→σ (τ id)=id) : ∀ (xs : List AV),Ajw q xs=true→AjI H σ xs (AdP τ xs) []
  | [],_ => .nil
  | x::xs,e=>by
    simp only [Ajw,Bool.and_eq_true] at e
    exact .cons (T:=[]) (U:=[]) (.same (AdI (S:=fun _=>True) (fun _ _=>trivial) hσ x e.1).1.symm) (AjA hσ xs e.2)

theorem AqL {body : FuncId→List AV→List AaZ→Option (AV×HL)} (hb : ∀ f a O r O',body f a O=some (r,O')→Aab P f a O r O') : AeQ P (AqN P body):=by
  intro f az h r e K k
  unfold AqN at e
  generalize AlZ h 100000 0 (Afn az [])=σ at e
  unfold AqM at e
  simp only [Amw,ArS,Akg,Atb] at e
  split at e
  · rename_i hc
    simp only [Bool.and_eq_true] at hc
    obtain ⟨⟨⟨c1,c2⟩,c3⟩,c4⟩:=hc
    split at e
    · rename_i q hq
      split at e
      · rename_i hl
        have hσ : ∀ id,qC σ id=true→nm σ (AtY σ id)=id:=by
          intro id hq; simp only [qC,Bool.and_eq_true,beq_iff_eq] at hq; exact hq.1
        have hF:=hb f _ _ q.1 q.2 hq
        have hobj : ∀ j ∈ σ,∃ o,hpF h j=some o∧Ase (qC σ) o=true:=by
          intro j hj
          have:=List.all_eq_true.1 c3 j hj
          cases ho : hpF h j with
          | none=>rw [ho] at this; cases this
          | some o=>rw [ho] at this; simp only [AvP,Ap8] at this; exact ⟨o,rfl,this⟩
        have hσN : ∀ j ∈ σ,j<h.length:=fun j hj=>by
          obtain ⟨o,ho,_⟩:=hobj j hj
          exact Ahs ho
        cases e
        refine Aq5 hF c1 σ [] σ (by simp) (AjA hσ az c4) ?_ (Ain c2) hσN (by simp) (.inl rfl) (fun j hj=>hj) ?_ ?_
        · intro i hi
          have hi' : i<σ.length:=by simpa using hi
          have e1 : nm σ i=σ[i]:=by simp [nm,List.getD_eq_getElem?_getD,hi']
          obtain ⟨o,ho,hg⟩:=hobj σ[i] (List.getElem_mem hi')
          rw [e1,ho]
          simp only [List.getElem_map,ho,Option.getD_some]
          rw [(An8 (S:=fun _=>True) (fun _ _=>trivial) hσ hg).1]
        · intro i hi
          have hi' : i<σ.length:=by simpa using hi
          left
          have e1 : nm σ i=σ[i]:=by simp [nm,List.getD_eq_getElem?_getD,hi']
          rw [e1]; exact List.getElem_mem hi'
        · have k':=k
          simp only [Ok] at k'
          rw [Al9 _ _ _ _ ?_,Arr,Aie,List.length_append,List.length_replicate] at k'
          · simpa only [List.length_map,List.append_nil] using k'
          · intro j hj
            rw [List.length_append,List.length_replicate]
            rcases List.mem_append.1 hj with hj | hj
            · have:=hσN j hj; omega
            · simp only [Acx,List.mem_map,List.mem_range] at hj
              obtain ⟨i,hi,rfl⟩:=hj
              omega
      · cases e
    · cases e
  · cases e

def evF (P : Program) (orc : AeT) (pol : FuncId→Pol) (K : Nat) : Nat→AeT
  | 0=>fun _ _ _=>none
  | d+1=>fun f args h=>match orc f args h with
    | some r=>some r
    | none=>AqN P (fun f a O=>AoD P (evF P orc pol K d) (pol f) K f a O) f args h
theorem Asi {orc : AeT} {pol : FuncId→Pol} {K : Nat} (hm : P.follows .mixedOrders=true) (ho : AeQ P orc) : ∀ d,AeQ P (evF P orc pol K d)
  | 0=>fun _ _ _ _ e=>by cases e
  | d+1=>by
    intro f az h r e K' k
    simp only [evF] at e
    split at e
    · rename_i r' hr; cases e; exact ho f az h _ hr K' k
    · exact AqL (fun f a O r O' hb=>AmN hm (Asi hm ho d) hb) f az h r e K' k
theorem Acz {orc : AeT} {pol : FuncId→Pol} {K d : Nat} {f : FuncId} {args : List AV} {O : List AaZ} {r : AV} {O' : HL} (hm : P.follows .mixedOrders=true) (ho : AeQ P orc)
    (e : AoD P (evF P orc pol K d) (pol f) K f args O=some (r,O')) : Aab P f args O r O':=AmN hm (Asi hm ho d) e
end
end
end Go.Abs
set_option linter.unusedVariables false
set_option linter.unusedSimpArgs false
namespace Go.Abs
noncomputable section

mutual
def eqB : AV→AV→Bool
  | .undef,_=>false
  | .skip,_=>false
  | .bool a,y=>match y with | .bool b=>a==b | _=>false
  | .int k a,y=>match y with | .int l b=>decide (k=l)&&decide (a=b) | _=>false
  | .str a,y=>match y with | .str b=>a.data.toList==b.data.toList | _=>false
  | .lst n f xs,y=>match y with | .lst m g ys=>(n==m)&&(f==g)&&ArE xs ys | _=>false
  | .agg xs,y=>match y with | .agg ys=>ArE xs ys | _=>false
  | .tup xs,y=>match y with | .tup ys=>ArE xs ys | _=>false
  | .cptr _,_=>false
  | .ptr _ _,_=>false
  | .nilptr,_=>false
  | .slc _ _ _ _ _,_=>false
  | .fn _ _,_=>false
  | .nilfn,_=>false
  | .map _,_=>false
  | .nilmap,_=>false
  | .ifc _ _,_=>false
  | .nilifc,_=>false
  | .nn _,_=>false
  | .rm _,_=>false
def ArE : List AV→List AV→Bool
  | [],[]=>true
  | [],_::_=>false
  | x::xs,y=>match y with | y::ys=>eqB x y&&ArE xs ys | []=>false
end
mutual
theorem Avk : ∀ (x y : AV),eqB x y=true→x=y
  | .bool a,y,e=>by cases y <;> simp_all [eqB]
  | .int k a,y,e=>by cases y <;> simp_all [eqB]
  | .str a,y,e=>by
    cases y <;> simp only [eqB,Bool.false_eq_true,beq_iff_eq] at e
    rename_i b
    cases a; cases b
    rename_i a b
    cases a; cases b
    simp_all
  | .lst n f xs,y,e=>by
    cases y <;> simp only [eqB,Bool.false_eq_true,Bool.and_eq_true,beq_iff_eq] at e
    obtain ⟨⟨rfl,rfl⟩,e⟩:=e
    rw [Ahi xs _ e]
  | .agg xs,y,e=>by
    cases y <;> simp only [eqB,Bool.false_eq_true] at e
    rw [Ahi xs _ e]
  | .tup xs,y,e=>by
    cases y <;> simp only [eqB,Bool.false_eq_true] at e
    rw [Ahi xs _ e]
  | .undef,_,e=>by simp [eqB] at e
  | .skip,_,e=>by simp [eqB] at e
  | .cptr _,_,e=>by simp [eqB] at e
  | .ptr _ _,_,e=>by simp [eqB] at e
  | .nilptr,_,e=>by simp [eqB] at e
  | .slc _ _ _ _ _,_,e=>by simp [eqB] at e
  | .fn _ _,_,e=>by simp [eqB] at e
  | .nilfn,_,e=>by simp [eqB] at e
  | .map _,_,e=>by simp [eqB] at e
  | .nilmap,_,e=>by simp [eqB] at e
  | .ifc _ _,_,e=>by simp [eqB] at e
  | .nilifc,_,e=>by simp [eqB] at e
  | .nn _,_,e=>by simp [eqB] at e
  | .rm _,_,e=>by simp [eqB] at e
theorem Ahi : ∀ (xs ys : List AV),ArE xs ys=true→xs=ys
  | [],ys,e=>by cases ys <;> simp_all [ArE]
  | x::xs,ys,e=>by
    cases ys with
    | nil=>simp [ArE] at e
    | cons y ys =>
      simp only [ArE,Bool.and_eq_true] at e
      rw [Avk x y e.1,Ahi xs ys e.2]
end
structure Abw (P : Program) where
  f : FuncId
  az : List AV
  r : AV
  ok : Aab P f az [] r []
def Abw.orc {P : Program} (T : List (Abw P)) : AeT:=fun f az h=>match T with
  | []=>none
  | t::T=>if t.f==f&&ArE t.az az&&AaN P f&&Ajo az&&noB t.r then some (t.r,h,[],[]) else Abw.orc T f az h
theorem Abw.orc_ok {P : Program} : ∀ (T : List (Abw P)),AeQ P (Abw.orc T)
  | []=>fun _ _ _ _ e=>by cases e
  | t::T=>by
    intro f az h r e K k
    simp only [Abw.orc] at e
    split at e
    · rename_i hc
      cases e
      simp only [Bool.and_eq_true,beq_iff_eq] at hc
      obtain ⟨⟨⟨⟨rfl,c2⟩,c3⟩,c4⟩,c5⟩:=hc
      have c2:=Ahi _ _ c2
      subst c2
      refine Aq6 t.ok c3 [] ?_ (by simp) (.inl rfl) ?_
      · have h1:=AjA (H:=hpF h) (σ:=nm []) (τ:=id) (q:=fun _=>false) (fun _ h=>by cases h) t.az (AdF (σ:=id) t.az c4).2
        rwa [(AdF (q:=fun _=>true) t.az c4).1] at h1
      · simp only [List.length_nil,Nat.add_zero]
        rw [(AfO (q:=fun _=>true) t.r c5).1]
        exact k
    · exact Abw.orc_ok T f az h r e K k
def ApR (xs : List AV) (es len off : Nat) (cs : List AV) : Bool:=decide (xs.length=len)&&Ag4 es xs&&ArE (AaI xs) ((cs.drop off).take (len*es))
def Abw.orcS {P : Program} (t : Abw P) : AeT:=fun f az h=>match az,t.az with
  | [.slc id off es len _],[.lst false false xs]=>match oCs (hpF h id) with
    | some q=>if t.f==f&&AaN P f&&Ajo xs&&noB t.r&&fresh t.r&&ApR xs es len off q.2 then some (t.r,h,[id],[]) else none
    | none=>none
  | _,_=>none
theorem Abw.orcS_ok {P : Program} (t : Abw P) : AeQ P t.orcS:=by
  intro f az h r e K k
  unfold Abw.orcS at e
  split at e
  · rename_i id off es len full xs hx
    split at e
    · rename_i q hq
      split at e
      · rename_i hc
        cases e
        simp only [Bool.and_eq_true,beq_iff_eq,ApR,decide_eq_true_eq] at hc
        obtain ⟨⟨⟨⟨⟨rfl,c2⟩,c3⟩,c4⟩,c5⟩,⟨c6,c7⟩,c8⟩:=hc
        have hid : ∃ o,hpF h id=some o∧o.cs? = some q.2:=by
          cases ho : hpF h id with
          | none=>rw [ho] at hq; cases hq
          | some o =>
            rw [ho] at hq
            cases hcs : o.cs? with
            | none=>rw [oCs,Option.bind_some,hcs] at hq; cases hq
            | some cs=>rw [oCs,Option.bind_some,hcs] at hq; cases hq; exact ⟨o,rfl,hcs⟩
        obtain ⟨o,ho,hcs⟩:=hid
        have F:=t.ok
        rw [hx] at F
        refine Aq6 F c2 [id] (AjI.cons (T:=[id]) (U:=[]) (.lst ho hcs (AeI c7) (AeJ xs c3) c6 (Ahi _ _ c8)) .nil) (by simpa using Ahs ho) (.inr ⟨c5,fun o h=>by cases h⟩) ?_
        simp only [List.length_nil,Nat.add_zero]
        rw [(AfO (q:=fun _=>true) t.r c4).1]
        exact k
      · cases e
    · cases e
  · cases e
def AtK (a b : AeT) : AeT:=fun f az h=>match a f az h with
  | some r=>some r
  | none=>b f az h
theorem Arb {P : Program} {a b : AeT} (ha : AeQ P a) (hb : AeQ P b) : AeQ P (AtK a b):=by
  intro f az h r e K k
  unfold AtK at e
  split at e
  · rename_i r' hr; cases e; exact ha f az h _ hr K k
  · exact hb f az h _ e K k
end
end Go.Abs
