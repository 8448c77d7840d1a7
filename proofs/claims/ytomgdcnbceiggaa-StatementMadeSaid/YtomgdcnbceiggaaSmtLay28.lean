import Derived.Test.YtomgdcnbceiggaaSmtLay27
import Derived.Recover
import Derived.Defers
set_option linter.unusedVariables false
set_option linter.unusedSimpArgs false
namespace Go.Abs
open Go.RowKit (Below)
def OpP (P : Program) (o : Oper) (ch : List PanicEntry) (s : Nat→AV) (H : Aah) (T W : List Nat) : Prop :=
 ∀ (n : Nat) (c : Cx) (s1 : Nat→AV) (H1 : Aah) (a : Act) (w : World),Rel n c s1 H1 a w→(∀ t ∈ AdN o,s1 t=s t∧t<n)→(∀ id ∈ T,H1 id=H id) →
  ∀ (K : Act→World→Prop) (Q : Exit→Act→World→Prop),
   (∀ c' w',AcU c' (fun id=>if id ∈ W then none else H1 id) w'→Ad0 c w c' w'→(∀ id,c.ι id = .unused→c'.ι id = .unused)→Q (.panic ch) a w')→o.wp P a w K Q
theorem AjK {l : List Oper} (hb : Ady l=true) (i k : Nat) (h : ((AdC l).getD i 0).testBit k=true) : k<i:=by
 induction i using Nat.strongRecOn with
 | _ i ih =>
  by_cases hi : i<l.length
  ·obtain ⟨e,_,_,h2,h3⟩:=AgT l i l[i] (by simp [hi]) hb k h
   rcases h3 with rfl | h3
   ·exact h2
   ·have:=ih e.on h2 h3; omega
  ·rw [List.getD_eq_getElem?_getD,List.getElem?_eq_none (by rw [Ag2]; omega)] at h
   simp at h
theorem Al1 {P : Program} {L l : List Oper} {n : Nat} {s s' : Nat→AV} {H H' : Aah} {N N' : Nat} {st : List AgY} {c0 : Cx} {w0 : World} {df : List Deferred} {Q : Exit→Act→World→Prop} {ch : List PanicEntry} {T W : List Nat}
 (p : Nat) (op : Oper) (hop : L[p]? = some op) (hLl : L.length=l.length) (haf : ∀ (i : Nat) (x y : Oper),L[i]? = some x→l[i]? = some y→x.after=y.after) (hsm : ∀ i,i<l.length→i≠p→L[i]? = l[i]?∨((AdC l).getD i 0).testBit p=true)
 (hgs : ∀ (i : Nat) (x : Oper),L[i]? = some x→x.guard=none) (hok : Ait n l=true) (hb : Ady l=true) (hso : AhW l=true) (hio : Adi l (st.map fun t=>(t.T,t.W))=true)
 (htr : Tr P l.toArray l s H N st s' H' N') (hpn : ∀ t ∈ AdN op,t<n) (hps : ∀ (i : Nat) (x : Oper),l[i]? = some x→∀ t ∈ AdN op,x.dst=some t→((AdC l).getD p 0).testBit i=true)
 (hpi : ∀ (i : Nat) (t : AgY),st[i]? = some t→∀ id ∈ T,id ∈ t.W→((AdC l).getD p 0).testBit i=true)
 (hO : OpP P op ch s' H' T W)
 (hk : ∀ c a w Hx,AcU c Hx w→(∀ t,t<n→(∀ x ∈ l,x.dst≠some t)→Rep c (s t) (a.tmps.getD t Go.undef))→a.tmps.size=n→a.defers=df→Ad0 c0 w0 c w→Ab0 c N'→(∀ id,(∀ t ∈ st,id ∉ t.W)→id ∉ W→Hx id=H id)→Q (.panic ch) a w) :
 ∀ (fuel : Nat) (listed : Array Bool) (c : Cx) (a : Act) (w : World),listed.size=l.length→fuel+cnt (Aaj listed) l.length=l.length→Aaj listed p=false →
  AoW P l st s H N' n c0 w0 df (Aaj listed) c a w→wpAny P .any L.toArray Q fuel listed a w:=by
 obtain ⟨hlen,hS,hH,hN,hat⟩:=Al6 l s H N st s' H' N' htr
 have hSok:=AeB hok
 have textS : ∀ t i,i≤l.length→Ad9 (s t) (fun k=>(l[k]?.bind (·.dst))==some t) (fun k=>(st[k]?.map (·.x)).getD .undef) (fun _=>true) i=stS l st s i t:=by
  intro t i
  induction i with
  | zero=>intro _; rfl
  | succ i ih =>
   intro hi
   have hl' : l[i]? = some l[i]:=by simp [show i<l.length from by omega]
   have hst : st[i]? = some (st[i]'(by omega)):=by simp [show i<st.length from by omega]
   have:=ih (by omega)
   simp only [Ad9,Bool.true_and,stS,hl',hst,Option.bind_some,Option.map_some,Option.getD_some]
   cases hd : l[i].dst with
   | none=>simp [AfE,this]
   | some d =>
    by_cases e : d=t
    ·subst e; simp [AfE]
    ·have e' : t≠d:=fun x=>e x.symm
     simp [AfE,upd,e,e',this]
 have textH : ∀ id i,i≤l.length→Ad9 (H id) (fun k=>((st[k]?.map (·.W)).getD []).contains id) (fun k=>stH st H (k+1) id) (fun _=>true) i=stH st H i id:=by
  intro id i
  induction i with
  | zero=>intro _; rfl
  | succ i ih =>
   intro hi
   have hl' : l[i]? = some l[i]:=by simp [show i<l.length from by omega]
   have hst : st[i]? = some (st[i]'(by omega)):=by simp [show i<st.length from by omega]
   have:=ih (by omega)
   simp only [Ad9,Bool.true_and,hst,Option.map_some,Option.getD_some]
   by_cases e : id ∈ (st[i]'(by omega)).W
   ·simp [e]
   ·have hr:=(hat i _ _ hl' hst).rest id e
    have hc : (st[i]'(by omega)).W.contains id=false:=by simp [e]
    simp only [hc,Bool.false_eq_true,if_false]
    rw [this,← hr]
    simp [stH,hst]
 have hord : ∀ i j x y,i<j→j<l.length→l[i]? = some x→l[j]? = some y→Ad3 l x y=true→((AdC l).getD j 0).testBit i=true:=by
  intro i j x y hij hj hx hy hc
  have:=List.all_eq_true.1 (List.all_eq_true.1 hso j (by simpa using hj)) i (by simpa using hij)
  simp only [hx,hy,hc,Bool.not_true,Bool.false_or] at this
  exact this
 have hidord : ∀ i j t u,i<j→j<l.length→st[i]? = some t→st[j]? = some u→AeK (t.T,t.W) (u.T,u.W)=true→((AdC l).getD j 0).testBit i=true:=by
  intro i j t u hij hj ht hu hc
  simp only [Adi,Bool.or_eq_true] at hio
  rcases hio with hio | hio
  ·exfalso
   have h1:=List.all_eq_true.1 hio (t.T,t.W) (List.mem_map.2 ⟨t,List.mem_of_getElem? ht,rfl⟩)
   have h2:=List.all_eq_true.1 hio (u.T,u.W) (List.mem_map.2 ⟨u,List.mem_of_getElem? hu,rfl⟩)
   simp only [List.isEmpty_iff] at h1 h2
   simp [AeK,h1,h2] at hc
  ·have:=List.all_eq_true.1 (List.all_eq_true.1 hio j (by simpa using hj)) i (by simpa using hij)
   have e1 : (st.map fun t=>(t.T,t.W)).getD i ([],[])=(t.T,t.W):=by simp [List.getD_eq_getElem?_getD,ht]
   have e2 : (st.map fun t=>(t.T,t.W)).getD j ([],[])=(u.T,u.W):=by simp [List.getD_eq_getElem?_getD,hu]
   rw [e1,e2,hc] at this
   simpa using this
 intro fuel
 induction fuel with
 | zero =>
  intro listed c a w hsz hcnt hpE inv
  have hpl : p<l.length:=by rw [← hLl]; exact (List.getElem?_eq_some_iff.1 hop).1
  have:=AhM (Aaj listed) l.length (by omega) p hpl
  rw [hpE] at this; cases this
 | succ fuel ih =>
  intro listed c a w hsz hcnt hpE inv
  have hpl : p<l.length:=by rw [← hLl]; exact (List.getElem?_eq_some_iff.1 hop).1
  have hclosed:=Ag3 l hb (Aaj listed) inv.closed
  refine ⟨fun hnil=>?_,fun i hi=>?_⟩
  ·exfalso
   obtain ⟨i,h1,h2,h3⟩:=Ahv (Aaj listed) l.length (by omega)
   have hmem : i ∈ Region.ready .any L.toArray listed:=by
    have h1L : i<L.length:=by rw [hLl]; exact h1
    simp only [Region.ready,List.mem_filter,List.mem_range,List.size_toArray,Bool.and_eq_true,h1L,true_and]
    simp only [Aaj] at h2
    refine ⟨by simp [h2],?_⟩
    have ho : L.toArray[i]? = some L[i]:=by simp [h1L]
    simp only [ho,Option.map_some,Option.getD_some]
    refine Array.all_eq_true_iff_forall_mem.2 fun e he=>?_
    rw [haf i L[i] l[i] (by simp [h1L]) (by simp [h1])] at he
    have hback:=List.all_eq_true.1 hb i (by simpa using h1)
    have ho' : l[i]? = some l[i]:=by simp [h1]
    simp only [ho'] at hback
    have hback:=Array.all_eq_true_iff_forall_mem.1 hback e he
    cases hbd : Region.binds .any e with
    | false=>simp
    | true =>
     simp only [hbd,Bool.not_true,Bool.false_or,decide_eq_true_eq] at hback ⊢
     have:=h3 e.on hback
     simp only [Aaj] at this
     have hlt : e.on<listed.size:=by omega
     simp only [Array.getD,hlt] at this ⊢
     simpa using this
   rw [hnil] at hmem; simp at hmem
  ·simp only [Region.ready,List.mem_filter,List.mem_range,List.size_toArray,Bool.and_eq_true] at hi
   obtain ⟨hilL,hnl,hedge⟩:=hi
   have hil : i<l.length:=by rw [← hLl]; exact hilL
   have hnl' : Aaj listed i=false:=by simpa [Aaj] using hnl
   have ho : l[i]? = some l[i]:=by simp [hil]
   have hst : st[i]? = some (st[i]'(by omega)):=by simp [show i<st.length from by omega]
   have ho' : L.toArray[i]? = some L[i]:=by simp [hilL]
   have haf':=haf i L[i] l[i] (by simp [hilL]) ho
   have A:=hat i _ _ ho hst
   simp only [ho',Option.map_some,Option.getD_some] at hedge
   have hedge' : ∀ e ∈ l[i].after.toList,Region.binds .any e=true→Aaj listed e.on=true:=by
    intro e he hbd
    have:=Array.all_eq_true_iff_forall_mem.1 hedge e (by rw [haf']; simpa using he)
    simp only [hbd,Bool.not_true,Bool.false_or] at this
    have hback:=List.all_eq_true.1 hb i (by simpa using hil)
    simp only [ho] at hback
    have hback:=Array.all_eq_true_iff_forall_mem.1 hback e (by simpa using he)
    simp only [hbd,Bool.not_true,Bool.false_or,decide_eq_true_eq] at hback
    have hlt : e.on<listed.size:=by omega
    simp only [Aaj,Array.getD,hlt] at this ⊢
    simpa using this
   have hpre : ∀ k,((AdC l).getD i 0).testBit k=true→Aaj listed k=true:=by
    intro k hk
    obtain ⟨e,he,h1,h2,h3⟩:=AgT l i _ ho hb k hk
    have hE:=hedge' e he h1
    rcases h3 with rfl | h3
    ·exact hE
    ·exact hclosed e.on (by omega) hE k h3
   have hpost : ∀ k,i<k→k<l.length→((AdC l).getD k 0).testBit i=true→Aaj listed k=false:=by
    intro k h1 h2 h3
    cases hk : Aaj listed k with
    | false=>rfl
    | true=>have:=hclosed k h2 hk i h3; rw [hnl'] at this; cases this
   by_cases hip : i=p
   ·subst hip
    have hLo : L[i]=op:=by
     have : L[i]? = some L[i]:=by simp [hilL]
     rw [hop] at this; exact (Option.some.inj this).symm
    have hlt : ∀ k,((AdC l).getD i 0).testBit k=true→k<i:=fun k hk=>AjK hb i k hk
    unfold wpOp
    simp only [ho',hLo]
    have hw : Region.wanted op (yielded L.toArray a.tmps)=true:=by unfold Region.wanted; rw [hgs i op hop]
    rw [hw]
    simp only [if_true]
    refine .inl (hO n c _ _ a w inv.rel ?_ ?_ _ Q ?_)
    ·intro t ht
     refine ⟨?_,hpn t ht⟩
     show Ad9 (s t) _ _ (Aaj listed) l.length=_
     rw [Ad8 _ _ _ _ l.length ?_,textS t l.length (Nat.le_refl _),hS]
     intro k hk hw
     have hk' : l[k]? = some l[k]:=by simp [hk]
     simp only [hk',Option.bind_some,beq_iff_eq] at hw
     exact hpre k (hps k _ hk' t ht hw)
    ·intro id hid
     show Ad9 (H id) _ _ (Aaj listed) l.length=_
     rw [Ad8 _ _ _ _ l.length ?_,textH id l.length (Nat.le_refl _),hH]
     intro k hk hw
     have hk' : st[k]? = some (st[k]'(by omega)):=by simp [show k<st.length from by omega]
     simp only [hk',Option.map_some,Option.getD_some,List.contains_eq_mem,decide_eq_true_eq] at hw
     exact hpre k (hpi k _ hk' id hid hw)
    ·intro c' w' hr' hg' hun'
     refine hk c' a w' _ hr' (fun t ht hx=>?_) inv.rel.size inv.df (inv.grow.trans hg') (fun id hid=>hun' id (inv.unN id hid)) fun id h1 h2=>?_
     ·have:=(inv.rel.slot t ht).mono hg'.le
      have e : Ad9 (s t) (fun k=>(l[k]?.bind (·.dst))==some t) (fun k=>(st[k]?.map (·.x)).getD .undef) (Aaj listed) l.length=s t:=Acv _ _ _ _ 0 l.length (by omega) fun k _ hk hw=>by
       have hk' : l[k]? = some l[k]:=by simp [hk]
       simp only [hk',Option.bind_some,beq_iff_eq] at hw
       exact absurd hw (hx _ (List.getElem_mem hk))
      rw [← e]; exact this
     rw [if_neg h2]
     exact Acv _ _ _ _ 0 l.length (by omega) fun k _ hk hw=>by
      have hk' : st[k]? = some (st[k]'(by omega)):=by simp [show k<st.length from by omega]
      simp only [hk',Option.map_some,Option.getD_some,List.contains_eq_mem,decide_eq_true_eq] at hw
      exact absurd hw (h1 _ (List.getElem_mem _))
   have hsame : L[i]=l[i]:=by
    rcases hsm i hil hip with h | h
    ·simpa [hilL,hil] using h
    ·have:=hpre p h; rw [hpE] at this; cases this
   have slotEq : ∀ t,Adu l l[i] t=true→Ad9 (s t) (fun k=>(l[k]?.bind (·.dst))==some t) (fun k=>(st[k]?.map (·.x)).getD .undef) (Aaj listed) l.length=stS l st s i t:=by
    intro t ht
    rw [Acv _ _ _ _ i l.length (by omega) ?_,Ad8 _ _ _ _ i ?_,textS t i (by omega)]
    ·intro k hk hw
     have hk' : l[k]? = some l[k]:=by simp [show k<l.length from by omega]
     simp only [hk',Option.bind_some,beq_iff_eq] at hw
     exact hpre k (hord k i _ _ hk hil hk' ho (by simp [Ad3,hw,ht]))
    ·intro k h1 h2 hw
     have hk' : l[k]? = some l[k]:=by simp [h2]
     simp only [hk',Option.bind_some,beq_iff_eq] at hw
     by_cases e : k=i
     ·subst e; exact hnl'
     ·exact hpost k (by omega) h2 (hord i k _ _ (by omega) h2 ho hk' (by
       simp only [Ad3,hw,ht,Bool.or_true]))
   have idEq : ∀ id,id ∈ (st[i]'(by omega)).T→Ad9 (H id) (fun k=>((st[k]?.map (·.W)).getD []).contains id) (fun k=>stH st H (k+1) id) (Aaj listed) l.length=stH st H i id:=by
    intro id hid
    rw [Acv _ _ _ _ i l.length (by omega) ?_,Ad8 _ _ _ _ i ?_,textH id i (by omega)]
    ·intro k hk hw
     have hk' : st[k]? = some (st[k]'(by omega)):=by simp [show k<st.length from by omega]
     simp only [hk',Option.map_some,Option.getD_some,List.contains_eq_mem,decide_eq_true_eq] at hw
     refine hpre k (hidord k i _ _ hk hil hk' hst ?_)
     simp only [AeK,Bool.or_eq_true,List.any_eq_true]
     exact .inl ⟨id,hw,.inl (by simpa using hid)⟩
    ·intro k h1 h2 hw
     have hk' : st[k]? = some (st[k]'(by omega)):=by simp [show k<st.length from by omega]
     simp only [hk',Option.map_some,Option.getD_some,List.contains_eq_mem,decide_eq_true_eq] at hw
     by_cases e : k=i
     ·subst e; exact hnl'
     ·refine hpost k (by omega) h2 (hidord i k _ _ (by omega) h2 hst hk' ?_)
      simp only [AeK,Bool.or_eq_true,List.any_eq_true]
      exact .inr ⟨id,hw,by simpa using hid⟩
   unfold wpOp
   simp only [ho',hsame]
   have hgl : l[i].guard=none:=by rw [← hsame]; exact hgs i _ (by simp [hilL])
   have hgd : AcK L.toArray l[i] (fun t=>Ad9 (s t) (fun k=>(l[k]?.bind (·.dst))==some t) (fun k=>(st[k]?.map (·.x)).getD .undef) (Aaj listed) l.length) (st[i]'(by omega)).ex:=by
    have hg:=A.guard
    unfold AcK at hg ⊢
    rw [hgl] at hg ⊢
    exact hg
   refine Aip (t:=st[i]'(by omega)) (s:=stS l st s i) (H:=stH st H i) (⟨(hSok _ (List.mem_of_getElem? ho)).uses,(hSok _ (List.mem_of_getElem? ho)).dst,fun j want hg=>by rw [hgl] at hg; cases hg⟩) inv.rel hgd A.op A.skip ?_ ?_ ?_ _ _ ?_
   ·intro _ u hu
    exact slotEq u (by simp [Adu,hu])
   ·intro id hid
    exact idEq id hid
   ·intro id h1 h2
    exact inv.un i _ hst hnl' id h1 h2
   ·intro c' a' w' hrel' hdf' hgr' hun'
    refine ih _ c' a' w' (by simpa using hsz) ?_ (by rw [AcS (by omega)]; simp only [if_neg (fun e : p=i=>hip e.symm)]; exact hpE) ?_
    ·rw [AcS (by omega),Akj _ _ hnl',if_pos hil]; omega
    ·refine ⟨?_,hdf'.trans inv.df,inv.grow.trans hgr',?_,?_,?_⟩
     ·rw [AcS (by omega)]
      have e1 : AfE (fun t=>Ad9 (s t) (fun k=>(l[k]?.bind (·.dst))==some t) (fun k=>(st[k]?.map (·.x)).getD .undef) (Aaj listed) l.length) l[i].dst (st[i]'(by omega)).x =
       (fun t=>Ad9 (s t) (fun k=>(l[k]?.bind (·.dst))==some t) (fun k=>(st[k]?.map (·.x)).getD .undef) (fun k=>if k=i then true else Aaj listed k) l.length):=by
       funext t
       by_cases hd : l[i].dst=some t
       ·rw [AhL _ _ _ _ i l.length hil (by simp [ho,hd]) ?_]
        ·simp [AfE,hd,hst]
        ·intro k h1 h2 hw
         have hk' : l[k]? = some l[k]:=by simp [h2]
         simp only [hk',Option.bind_some,beq_iff_eq] at hw
         exact hpost k h1 h2 (hord i k _ _ h1 h2 ho hk' (by simp [Ad3,hd,hw]))
       ·have : AfE (fun t=>Ad9 (s t) (fun k=>(l[k]?.bind (·.dst))==some t) (fun k=>(st[k]?.map (·.x)).getD .undef) (Aaj listed) l.length) l[i].dst (st[i]'(by omega)).x t =
         Ad9 (s t) (fun k=>(l[k]?.bind (·.dst))==some t) (fun k=>(st[k]?.map (·.x)).getD .undef) (Aaj listed) l.length:=by
         cases hdd : l[i].dst with
         | none=>rfl
         | some d =>
          have : t≠d:=fun e=>hd (by rw [hdd,e])
          simp [AfE,upd,this]
        rw [this]
        refine Aeu _ _ _ _ _ _ (fun k hk hw=>?_)
        have : k≠i:=by
         intro e; subst e
         simp only [ho,Option.bind_some,beq_iff_eq] at hw
         exact hd hw
        simp [this]
      have e2 : (fun id=>if id ∈ (st[i]'(by omega)).W then (st[i]'(by omega)).H id else Ad9 (H id) (fun k=>((st[k]?.map (·.W)).getD []).contains id) (fun k=>stH st H (k+1) id) (Aaj listed) l.length) =
       (fun id=>Ad9 (H id) (fun k=>((st[k]?.map (·.W)).getD []).contains id) (fun k=>stH st H (k+1) id) (fun k=>if k=i then true else Aaj listed k) l.length):=by
       funext id
       by_cases hid : id ∈ (st[i]'(by omega)).W
       ·rw [if_pos hid,AhL _ _ _ _ i l.length hil (by simp [hst,hid]) ?_]
        ·simp [stH,hst]
        ·intro k h1 h2 hw
         have hk' : st[k]? = some (st[k]'(by omega)):=by simp [show k<st.length from by omega]
         simp only [hk',Option.map_some,Option.getD_some,List.contains_eq_mem,decide_eq_true_eq] at hw
         refine hpost k h1 h2 (hidord i k _ _ h1 h2 hst hk' ?_)
         simp only [AeK,Bool.or_eq_true,List.any_eq_true]
         exact .inl ⟨id,hid,.inr (by simpa using hw)⟩
       ·rw [if_neg hid]
        refine Aeu _ _ _ _ _ _ (fun k hk hw=>?_)
        have : k≠i:=by
         intro e; subst e
         simp only [hst,Option.map_some,Option.getD_some,List.contains_eq_mem,decide_eq_true_eq] at hw
         exact hid hw
        simp [this]
      rw [← e1,← e2]; exact hrel'
     ·rw [AcS (by omega)]
      intro j t ht hj id h1 h2
      have hji : j≠i:=by intro e; subst e; simp at hj
      simp only [hji,if_false] at hj
      refine hun' id (inv.un j t ht hj id h1 h2) (fun hw=>?_)
      have hjl : j<l.length:=by have:=(List.getElem?_eq_some_iff.1 ht).1; omega
      have hlo : l[j]? = some l[j]:=by simp [hjl]
      have B:=hat j _ _ hlo ht
      have hnb:=(B.wn id h1).2 h2
      have hna:=(A.wn id hw).1
      by_cases hlt : i<j
      ·have:=AeT hlen hat (i+1) j (by omega) (by omega)
       have e : stN st N (i+1)=(st[i]'(by omega)).N:=by simp only [stN,hst]
       omega
      ·have hc : AeK (t.T,t.W) ((st[i]'(by omega)).T,(st[i]'(by omega)).W)=true:=by
        simp only [AeK,Bool.or_eq_true,List.any_eq_true]
        exact .inl ⟨id,h1,.inr (by simpa using hw)⟩
       have:=hpre j (hidord j i _ _ (by omega) hil ht hst hc)
       rw [hj] at this; cases this
     ·intro id hid
      refine hun' id (inv.unN id hid) (fun hw=>?_)
      have:=(A.wn id hw).1
      have h2:=AeT hlen hat (i+1) l.length (by omega) (by omega)
      have e : stN st N (i+1)=(st[i]'(by omega)).N:=by simp only [stN,hst]
      rw [hN] at h2
      omega
     ·rw [AcS (by omega)]
      intro j o hjo hj e he hbd
      by_cases hji : j=i
      ·subst hji
       rw [ho] at hjo; cases hjo
       have:=hedge' e he hbd
       by_cases h3 : e.on=j
       ·simp [h3]
       ·simp [h3,this]
      ·simp only [hji,if_false] at hj
       have:=inv.closed j o hjo hj e he hbd
       by_cases h3 : e.on=i
       ·simp [h3]
       ·simp [h3,this]
theorem AiH {P : Program} {ops : Array Oper} {n : Nat} {c0 : Cx} {w0 : World} {df : List Deferred} {Q : Exit→Act→World→Prop} {ch : List PanicEntry} {T W : List Nat} {op : Oper} {l2 : List Oper} (hg0 : op.guard=none) (hpn : ∀ t ∈ AdN op,t<n) :
 ∀ (l : List Oper) (s : Nat→AV) (H : Aah) (N : Nat) (st : List AgY) (s' : Nat→AV) (H' : Aah) (N' : Nat),(∀ o ∈ l,Ahy n ops o)→Tr P ops l s H N st s' H' N'→OpP P op ch s' H' T W →
 (∀ c a w Hx,AcU c Hx w→(∀ t,t<n→Rep c (s' t) (a.tmps.getD t Go.undef))→a.tmps.size=n→a.defers=df→Ad0 c0 w0 c w→Ab0 c N'→(∀ id,id ∉ W→Hx id=H' id)→Q (.panic ch) a w) →
 ∀ c a w,Rel n c s H a w→a.defers=df→Ad0 c0 w0 c w→Ab0 c N→wpList P ops Q (l++op::l2) a w
 | [],s,H,N,st,s',H',N',_,htr,hO,hk,c,a,w,hrel,hd,g,hN=>by
  obtain ⟨_,rfl,rfl,rfl⟩:=htr
  have hw : Region.wanted op (yielded ops a.tmps)=true:=by unfold Region.wanted; rw [hg0]
  rw [List.nil_append]
  unfold wpList
  rw [hw]
  simp only [if_true]
  refine .inl (hO n c _ _ a w hrel (fun t ht=>⟨rfl,hpn t ht⟩) (fun _ _=>rfl) _ _ ?_)
  intro c' w' hr' hg' hun'
  exact hk c' a w' _ hr' (fun t ht=>(hrel.slot t ht).mono hg'.le _ _) hrel.size hd (g.trans hg') (fun id hid=>hun' id (hN id hid)) fun id h=>by rw [if_neg h]
 | o::os,s,H,N,st,s',H',N',hok,htr,hO,hk,c,a,w,hrel,hd,g,hN=>by
  obtain ⟨t,rest,rfl,hg,hop,hsk,hNN,hT,hW,htr'⟩:=htr
  rw [List.cons_append]
  unfold wpList
  refine Aip (t:=t) (s:=s) (H:=H) (hok o (by simp)) hrel hg (fun h=>(hop h).1) (fun h=>⟨(hsk h).1,(hsk h).2.2.2⟩) (fun _ u _=>rfl) (fun id _=>rfl) (fun id h1 h2=>hN id ((hW id h1).2 h2)) _ _ ?_
  intro c' a' w' hr' hd' g' hun
  refine AiH hg0 hpn os (AfE s o.dst t.x) t.H t.N rest s' H' N' (fun o ho=>hok o (by simp [ho])) htr' hO hk c' a' w' ?_ (hd'.trans hd) (g.trans g') ?_
  ·have e : (fun id=>if id ∈ t.W then t.H id else H id)=t.H:=by
    funext id
    by_cases hid : id ∈ t.W
    ·simp [hid]
    ·simp only [hid,if_false]
     cases hex : t.ex with
     | true=>exact ((hop hex).2 id hid).symm
     | false=>rw [(hsk hex).2.1]
   rw [e] at hr'; exact hr'
  ·intro id hid
   exact hun id (hN id (by omega)) (fun hw=>by have:=(hW id hw).1; omega)
theorem Tr.app {P : Program} {ops : Array Oper} : ∀ (l r : List Oper) (s : Nat→AV) (H : Aah) (N : Nat) (st : List AgY) (s' : Nat→AV) (H' : Aah) (N' : Nat),Tr P ops (l++r) s H N st s' H' N' →
 ∃ st1 st2 s1 H1 N1,st=st1++st2∧Tr P ops l s H N st1 s1 H1 N1∧Tr P ops r s1 H1 N1 st2 s' H' N'
 | [],r,s,H,N,st,s',H',N',h=>⟨[],st,s,H,N,rfl,⟨rfl,rfl,rfl,rfl⟩,h⟩
 | o::l,r,s,H,N,st,s',H',N',h=>by
  obtain ⟨t,rest,rfl,h1,h2,h3,h4,h5,h6,h7⟩:=h
  obtain ⟨st1,st2,s1,H1,N1,rfl,k1,k2⟩:=Tr.app l r _ _ _ _ _ _ _ h7
  exact ⟨t::st1,st2,s1,H1,N1,rfl,⟨t,st1,rfl,h1,h2,h3,h4,h5,h6,k1⟩,k2⟩
theorem Tr.arr {P : Program} {A B : Array Oper} : ∀ (l : List Oper) (s : Nat→AV) (H : Aah) (N : Nat) (st : List AgY) (s' : Nat→AV) (H' : Aah) (N' : Nat),(∀ o ∈ l,o.guard=none)→Tr P A l s H N st s' H' N'→Tr P B l s H N st s' H' N'
 | [],s,H,N,st,s',H',N',_,h=>h
 | o::l,s,H,N,st,s',H',N',hg,h=>by
  obtain ⟨t,rest,rfl,h1,h2,h3,h4,h5,h6,h7⟩:=h
  have g:=hg o (by simp)
  exact ⟨t,rest,rfl,by unfold AcK at h1 ⊢; rw [g] at h1 ⊢; exact h1,h2,h3,h4,h5,h6,Tr.arr l _ _ _ _ _ _ _ (fun o ho=>hg o (by simp [ho])) h7⟩
theorem Tr.keepS {P : Program} {A : Array Oper} {t : Nat} : ∀ (l : List Oper) (s : Nat→AV) (H : Aah) (N : Nat) (st : List AgY) (s' : Nat→AV) (H' : Aah) (N' : Nat),(∀ o ∈ l,o.dst≠some t)→Tr P A l s H N st s' H' N'→s' t=s t
 | [],s,H,N,st,s',H',N',_,h=>by obtain ⟨_,rfl,_⟩:=h; rfl
 | o::l,s,H,N,st,s',H',N',hg,h=>by
  obtain ⟨u,rest,rfl,h1,h2,h3,h4,h5,h6,h7⟩:=h
  rw [Tr.keepS l _ _ _ _ _ _ _ (fun o ho=>hg o (by simp [ho])) h7]
  have:=hg o (by simp)
  cases hd : o.dst with
  | none=>rfl
  | some d =>
   have : t≠d:=fun e=>this (by rw [hd,e])
   simp [AfE,upd,this]
theorem Tr.keepH {P : Program} {A : Array Oper} {id : Nat} : ∀ (l : List Oper) (s : Nat→AV) (H : Aah) (N : Nat) (st : List AgY) (s' : Nat→AV) (H' : Aah) (N' : Nat),(∀ t ∈ st,id ∉ t.W)→Tr P A l s H N st s' H' N'→H' id=H id
 | [],s,H,N,st,s',H',N',_,h=>by obtain ⟨_,_,rfl,_⟩:=h; rfl
 | o::l,s,H,N,st,s',H',N',hg,h=>by
  obtain ⟨u,rest,rfl,h1,h2,h3,h4,h5,h6,h7⟩:=h
  rw [Tr.keepH l _ _ _ _ _ _ _ (fun o ho=>hg o (by simp [ho])) h7]
  cases hx : u.ex with
  | true=>exact (h2 hx).2 id (hg u (by simp))
  | false=>rw [(h3 hx).2.1]
theorem Tr.mono {P : Program} {A : Array Oper} : ∀ (l : List Oper) (s : Nat→AV) (H : Aah) (N : Nat) (st : List AgY) (s' : Nat→AV) (H' : Aah) (N' : Nat),Tr P A l s H N st s' H' N'→N≤N'
 | [],s,H,N,st,s',H',N',h=>by obtain ⟨_,_,_,rfl⟩:=h; exact Nat.le_refl _
 | o::l,s,H,N,st,s',H',N',h=>by
  obtain ⟨u,rest,rfl,h1,h2,h3,h4,h5,h6,h7⟩:=h
  exact Nat.le_trans h4 (Tr.mono l _ _ _ _ _ _ _ h7)
theorem Tr.len {P : Program} {A : Array Oper} : ∀ (l : List Oper) (s : Nat→AV) (H : Aah) (N : Nat) (st : List AgY) (s' : Nat→AV) (H' : Aah) (N' : Nat),Tr P A l s H N st s' H' N'→st.length=l.length
 | [],s,H,N,st,s',H',N',h=>by obtain ⟨rfl,_⟩:=h; rfl
 | o::l,s,H,N,st,s',H',N',h=>by
  obtain ⟨u,rest,rfl,h1,h2,h3,h4,h5,h6,h7⟩:=h
  simp [Tr.len l _ _ _ _ _ _ _ h7]
def Std (df : List Deferred) (n : Nat) (c0 : Cx) (w0 : World) (s : Nat→AV) (H : Aah) (N : Nat) (a : Act) (w : World) : Prop :=
 ∃ c,Rel n c s H a w∧a.defers=df∧Ad0 c0 w0 c w∧Ab0 c N
def Ac5.reald (df : List Deferred) (n : Nat) (c0 : Cx) (w0 : World) (Q : Ac5) (e : Exit) (a : Act) (w : World) : Prop:=∃ s H N,Q e s H N∧Std df n c0 w0 s H N a w
def AWd (df : List Deferred) (P : Program) (n : Nat) (c0 : Cx) (w0 : World) (code : Code) (Q : Ac5) (s : Nat→AV) (H : Aah) (N : Nat) : Prop :=
 ∀ a w,Std df n c0 w0 s H N a w→code.wp P (Q.reald df n c0 w0) a w
section
variable {df : List Deferred} {P : Program} {n : Nat} {c0 : Cx} {w0 : World} {Q : Ac5} {s : Nat→AV} {H : Aah} {N : Nat}
theorem AWd.to {x : Code} (h : AWd [] P n c0 w0 x Q s H N) : AW P n c0 w0 x Q s H N:=h
theorem AWd.app {x : Code} (h : AWd df P n c0 w0 x Q s H N) {a : Act} {w : World} (hs : Std df n c0 w0 s H N a w) : x.wp P (Q.reald df n c0 w0) a w:=h a w hs
theorem AWd.ret (h : Q .ret s H N) : AWd df P n c0 w0 .ret Q s H N:=fun a w hs=>wp_ret ⟨s,H,N,h,hs⟩
theorem Std.weak {a : Act} {w : World} (hs : Std df n c0 w0 s H N a w) (l : List (Nat×AV)) (hl : List (Nat×Aan)) (N' : Nat) (h1 : ∀ p ∈ l,s p.1=p.2) (h2 : ∀ p ∈ hl,H p.1=some p.2) (hN : N≤N') : Std df n c0 w0 (mkS l) (mkH hl) N' a w:=by
 obtain ⟨c,hr,hd,g,hu⟩:=hs
 have st : St n c0 w0 s H N { a with defers:=[] } w:=⟨c,⟨hr.hr,hr.size,hr.slot⟩,rfl,g,hu⟩
 obtain ⟨c',hr',_,g',hu'⟩:=st.weak l hl N' h1 h2 hN
 exact ⟨c',⟨hr'.hr,hr'.size,hr'.slot⟩,hd,g',hu'⟩
theorem AWd.wk {x : Code} (l : List (Nat×AV)) (hl : List (Nat×Aan)) (N' : Nat) (h1 : ∀ p ∈ l,s p.1=p.2) (h2 : ∀ p ∈ hl,H p.1=some p.2) (hN : N≤N') (h : AWd df P n c0 w0 x Q (mkS l) (mkH hl) N') : AWd df P n c0 w0 x Q s H N :=
 fun a w hs=>h a w (hs.weak l hl N' h1 h2 hN)
theorem AWd.seqR {id : Nat} {ops : List Oper} {y : Code} (mu : List Nat) (gs : List (Option (Nat×Bool))) (hok : Af4 n ops gs=true)
 (h : ∀ (G : Log→Prop) (K : (Nat→AV)→Aah→Nat→Prop),(∀ lg,G lg)→(∀ s' H' N',AWd df P n c0 w0 y Q s' H' N'→K s' H' N')→Aej P mu ops gs s H N [] (fun s' H' N' lg=>G lg∧K s' H' N')) :
 AWd df P n c0 w0 (.seq (.region id ops.toArray false) y) Q s H N:=by
 simp only [Af4,Bool.and_eq_true] at hok
 obtain ⟨⟨⟨⟨h1,h2⟩,h3⟩,h4⟩,h5⟩:=hok
 obtain ⟨st,s',H',N',htr,_,hq⟩:=Adl ops gs s H N [] (fun o ho=>List.all_eq_true.1 h4 o ho) h5 (h (fun _=>True) (fun s' H' N'=>AWd df P n c0 w0 y Q s' H' N') (fun _=>trivial) (fun _ _ _ h=>h))
 intro a w ⟨c,hr,hd,g,hu⟩
 refine wp_seq (wp_region_list (Af9 ops s H N st s' H' N' (AeB h1) htr ?_ c a w hr hd g hu))
 intro c' a' w' hr' hd' g' hu'
 exact hq a' w' ⟨c',hr',hd',g',hu'⟩
theorem Std.of {s2 : Nat→AV} {H2 : Aah} {N2 : Nat} (f : ∀ a w,St n c0 w0 s H N a w→St n c0 w0 s2 H2 N2 a w) {a : Act} {w : World} (hs : Std df n c0 w0 s H N a w) : Std df n c0 w0 s2 H2 N2 a w:=by
 obtain ⟨c,hr,hd,g,hu⟩:=hs
 obtain ⟨c',hr',_,g',hu'⟩:=f { a with defers:=[] } w ⟨c,⟨hr.hr,hr.size,hr.slot⟩,rfl,g,hu⟩
 exact ⟨c',⟨hr'.hr,hr'.size,hr'.slot⟩,hd,g',hu'⟩
theorem AWd.can {x : Code} {s2 : Nat→AV} {H2 : Aah} {N2 : Nat} (h : AWd df P n c0 w0 x Q s2 H2 N2) (f : ∀ T : Act→World→Prop,Can n c0 w0 s2 H2 N2 T→Can n c0 w0 s H N T) : AWd df P n c0 w0 x Q s H N :=
 fun a w hs=>h a w (hs.of fun a w hst=>f (St n c0 w0 s2 H2 N2) (fun _ _ h=>h) a w hst)
theorem Asb {X : Exit→Act→World→Prop} {id : Nat} {ops : List Oper} (mu : List Nat) (gs : List (Option (Nat×Bool))) (hok : Af4 n ops gs=true)
 (h : ∀ K : (Nat→AV)→Aah→Nat→Prop,(∀ s' H' N',(∀ a w,Std df n c0 w0 s' H' N' a w→X .normal a w)→K s' H' N')→Aej P mu ops gs s H N [] (fun s' H' N' _=>K s' H' N')) {a : Act} {w : World} (hs : Std df n c0 w0 s H N a w) :
 (Code.region id ops.toArray false).wp P X a w:=by
 simp only [Af4,Bool.and_eq_true] at hok
 obtain ⟨⟨⟨⟨h1,h2⟩,h3⟩,h4⟩,h5⟩:=hok
 obtain ⟨st,s',H',N',htr,hq⟩:=Adl ops gs s H N [] (fun o ho=>List.all_eq_true.1 h4 o ho) h5 (h (fun s' H' N'=>∀ a w,Std df n c0 w0 s' H' N' a w→X .normal a w) (fun _ _ _ h=>h))
 obtain ⟨c,hr,hd,g,hu⟩:=hs
 refine wp_region_list (Af9 ops s H N st s' H' N' (AeB h1) htr ?_ c a w hr hd g hu)
 intro c' a' w' hr' hd' g' hu'
 exact hq a' w' ⟨c',hr',hd',g',hu'⟩
theorem As8 {X : Exit→Act→World→Prop} {id : Nat} {ops : List Oper} {y : Code} (mu : List Nat) (gs : List (Option (Nat×Bool))) (hok : Af4 n ops gs=true)
 (h : ∀ K : (Nat→AV)→Aah→Nat→Prop,(∀ s' H' N',(∀ a w,Std df n c0 w0 s' H' N' a w→y.wp P X a w)→K s' H' N')→Aej P mu ops gs s H N [] (fun s' H' N' _=>K s' H' N')) {a : Act} {w : World} (hs : Std df n c0 w0 s H N a w) :
 (Code.seq (.region id ops.toArray false) y).wp P X a w:=wp_seq (Asb mu gs hok h hs)
theorem Apx {c : Cx} {a : Act} {w : World} (hr : AcU c H w) (hn : a.tmps.size=n) (hd : a.defers=df) (hu : Ab0 c N) (l : List (Nat×AV)) (hl : ∀ p ∈ l,Rep c p.2 (a.tmps.getD p.1 Go.undef)) : Std df n c w (mkS l) H N a w:=by
 refine ⟨c,⟨hr,hn,fun t ht=>?_⟩,hd,.refl _ _,hu⟩
 unfold mkS
 cases hf : l.find? (fun p=>p.1==t) with
 | none=>simp [Rep]
 | some p =>
  have h3:=List.mem_of_find?_eq_some hf
  have h4 : p.1=t:=by simpa using List.find?_some hf
  subst h4
  exact hl p h3
theorem Al0 {X : Exit→Act→World→Prop} {id : Nat} {g : FuncId} {d1 ta tb : Nat} {o1 o2 : Oper} {y : Code} (ho1 : o1.op = .makeFunc (.func g) #[] #[.tmp ta,.tmp tb]) (hd1 : o1.dst=some d1) (hg1 : o1.guard=none)
 (ho2 : o2.op = .defer { callee := .value (.tmp d1),args := #[],argTypes := #[] }) (hd2 : o2.dst=none) (hg2 : o2.guard=none) (ht : ta<n∧tb<n∧d1<n)
 (h : ∀ c a w v2 v3,Rel n c (upd s d1 .undef) H a w→a.defers = [{ target := .fn (.func g) #[v2,v3],args := #[] }]→Rep c (s ta) v2→Rep c (s tb) v3→Ad0 c0 w0 c w→Ab0 c N→y.wp P X a w) {a : Act} {w : World} (hs : Std [] n c0 w0 s H N a w) :
 (Code.seq (.region id #[o1,o2] false) y).wp P X a w:=by
 obtain ⟨c,hr,hd,gr,hu⟩:=hs
 refine wp_seq (wp_region_list ?_)
 have hmf : ∀ (fn : Fn) (first cap : Array Value) (w : World),(Instr.makeFunc fn first cap).run P w = .ok (.func fn first cap) w:=fun _ _ _ _=>rfl
 have e1 : (execOp a.eval o1).run P w = .ok (.value (.func (.func g) #[] #[a.eval (.tmp ta),a.eval (.tmp tb)])) w:=by simp [execOp,ho1,hmf]
 show wpList P _ _ [o1,o2] a w
 unfold wpList
 rw [show Region.wanted o1 (yielded #[o1,o2] a.tmps)=true by unfold Region.wanted; rw [hg1]]
 simp only [if_true]
 left
 unfold Oper.wp
 rw [e1,Oper.upon_value,hd1]
 unfold wpList
 rw [show Region.wanted o2 (yielded #[o1,o2] _)=true by unfold Region.wanted; rw [hg2]]
 simp only [if_true]
 left
 have hsz : d1<a.tmps.size:=by rw [hr.size]; exact ht.2.2
 have e3 : (a.put (some d1) (.func (.func g) #[] #[a.eval (.tmp ta),a.eval (.tmp tb)])).eval (.tmp d1) = .func (.func g) #[] #[a.eval (.tmp ta),a.eval (.tmp tb)]:=by
  simp [Act.put,Act.eval,Array.getD,hsz]
 have e2 : (execOp (a.put (some d1) (.func (.func g) #[] #[a.eval (.tmp ta),a.eval (.tmp tb)])).eval o2).run P w = .ok (.defer { target := .fn (.func g) #[a.eval (.tmp ta),a.eval (.tmp tb)],args := #[] }) w:=by
  simp [execOp,ho2,e3,Deferred.ofValue,resolve]
 unfold Oper.wp
 rw [e2,Oper.upon_defer,hd2]
 unfold wpList
 refine h c _ w (a.eval (.tmp ta)) (a.eval (.tmp tb)) ?_ ?_ (hr.slot ta ht.1) (hr.slot tb ht.2.1) gr hu
 ·have:=hr.put hr.hr (.refl c) (d:=some d1) (fun t e=>by cases e; exact ht.2.2) (x := .undef) (v := .func (.func g) #[] #[a.eval (.tmp ta),a.eval (.tmp tb)]) (by simp [Rep])
  exact ⟨this.hr,this.size,this.slot⟩
 ·show _::a.defers=_
  rw [hd]
def msk (hs : List Nat) : Nat→List Oper→List Oper
 | _,[]=>[]
 | i,o::os=>(if hs.contains i then { o with op := .move (.const (.bool true)),dst:=none,guard:=none } else o)::msk hs (i+1) os
theorem Ai4 (hs : List Nat) : ∀ (l : List Oper) (k i : Nat),(msk hs k l)[i]? = l[i]?.map fun o=>if hs.contains (k+i) then { o with op := .move (.const (.bool true)),dst:=none,guard:=none } else o
 | [],k,i=>by simp [msk]
 | o::os,k,0=>by simp [msk]
 | o::os,k,i+1=>by
  simp only [msk,List.getElem?_cons_succ]
  rw [Ai4 hs os (k+1) i,show k+1+i=k+(i+1) by omega]
theorem AmT (hs : List Nat) : ∀ (l : List Oper) (k : Nat),(msk hs k l).length=l.length
 | [],k=>rfl
 | o::os,k=>by simp [msk,AmT hs os]
def AmG (draw : Bool) (n : Nat) (ops : List Oper) (p : Nat) (hs ss : List Nat) (gs : List (Option (Nat×Bool))) : Bool :=
 let l:=msk hs 0 ops
 ss.all (fun t=>decide (t<n)&&l.all fun o=>o.dst !=some t) &&
 Af4 n l gs&&hs.all (fun i=>decide (p≤i)&&(i==p || !draw||((AdC l).getD i 0).testBit p))&&ops.all (fun o=>o.guard.isNone) &&
 (match ops[p]? with
  | some o=>(AdN o).all (fun t=>decide (t<n)&&(List.range l.length).all fun i=>match l[i]? with | some x=>x.dst !=some t||((AdC l).getD p 0).testBit i | none=>true)
  | none=>false)
def AiQ (l : List Oper) (p : Nat) (ids : List Nat) (lg : Log) (T W : List Nat) : Bool :=
 lg.all (fun q=>q.2.all fun i => !ids.contains i)&&W.all (fun i => !ids.contains i)&&Adi l lg &&
 (List.range lg.length).all fun i=>(lg.getD i ([],[])).2.all fun id => !T.contains id||((AdC l).getD p 0).testBit i
theorem Aom {sl : List (Nat×AV)} (h : ∀ q ∈ sl,s q.1=q.2) : ∀ q ∈ sl,mkS sl q.1=q.2:=by
 intro q hq
 unfold mkS
 cases hf : sl.find? (fun p=>p.1==q.1) with
 | none =>
  have:=List.find?_eq_none.1 hf q hq
  simp at this
 | some p =>
  have h3:=List.mem_of_find?_eq_some hf
  have h4 : p.1=q.1:=by simpa using List.find?_some hf
  show p.2=q.2
  rw [← h p h3,← h q hq,h4]
theorem Aod {c : Cx} {Hx : Aah} {w : World} {a : Act} (hr : AcU c Hx w) (hn : a.tmps.size=n) (hd : a.defers=df) (g : Ad0 c0 w0 c w) (hu : Ab0 c N) (sl : List (Nat×AV)) (hf : ∀ q ∈ sl,mkS sl q.1=q.2) (hs : ∀ q ∈ sl,Rep c q.2 (a.tmps.getD q.1 Go.undef)) (hl : List (Nat×Aan)) (h : ∀ q ∈ hl,Hx q.1=some q.2) : Std df n c0 w0 (mkS sl) (mkH hl) N a w:=by
 refine Std.weak (s:=mkS sl) (H:=Hx) (N:=N) ⟨c,⟨hr,hn,fun t ht=>?_⟩,hd,g,hu⟩ sl hl N hf h (Nat.le_refl _)
 unfold mkS
 cases hf : sl.find? (fun p=>p.1==t) with
 | none=>simp [Rep]
 | some p =>
  have h3:=List.mem_of_find?_eq_some hf
  have h4 : p.1=t:=by simpa using List.find?_some hf
  subst h4
  exact hs p h3
theorem AWd.panR {id : Nat} {ops : List Oper} {draw : Bool} {ch : List PanicEntry} (hm : P.follows .mixedOrders=true) (mu : List Nat) (gs : List (Option (Nat×Bool))) (p : Nat) (hs : List Nat) (sl : List (Nat×AV)) (hl : List (Nat×Aan)) (op : Oper) (hop : ops[p]? = some op) (hok : AmG draw n ops p hs (sl.map (·.1)) gs=true)
 (hsl : ∀ q ∈ sl,s q.1=q.2)
 (hkp : ∀ q ∈ hl,H q.1=some q.2) (hQ : ∀ M,Q (.panic ch) (mkS sl) (mkH hl) M)
 (h : ∀ K : (Nat→AV)→Aah→Log→Prop,(∀ s' H' lg T W,OpP P op ch s' H' T W→AiQ (msk hs 0 ops) p (hl.map (·.1)) lg T W=true→K s' H' lg)→Aej P mu (msk hs 0 ops) gs s H N [] (fun s' H' _ lg=>K s' H' lg)) :
 AWd df P n c0 w0 (.region id ops.toArray draw) Q s H N:=by
 simp only [AmG,hop,Bool.and_eq_true] at hok
 obtain ⟨⟨⟨⟨hss,hreg⟩,hhs⟩,hgd⟩,huse⟩:=hok
 simp only [Af4,Bool.and_eq_true] at hreg
 obtain ⟨⟨⟨⟨h1,h2⟩,h3⟩,h4⟩,h5⟩:=hreg
 obtain ⟨st,s',H',N',htr,T,W,hO,hlog⟩:=Adl (msk hs 0 ops) gs s H N [] (fun o ho=>List.all_eq_true.1 h4 o ho) h5 (h (fun s' H' lg=>∃ T W,OpP P op ch s' H' T W∧AiQ (msk hs 0 ops) p (hl.map (·.1)) lg T W=true) (fun _ _ _ T W h1 h2=>⟨T,W,h1,h2⟩))
 simp only [List.reverse_nil,List.nil_append,AiQ,Bool.and_eq_true] at hlog
 obtain ⟨⟨⟨g1,g2⟩,g3⟩,g4⟩:=hlog
 have hLl:=(AmT hs ops 0).symm
 have haf : ∀ (i : Nat) (x y : Oper),ops[i]? = some x→(msk hs 0 ops)[i]? = some y→x.after=y.after:=by
  intro i x y hx hy
  rw [Ai4,hx,Option.map_some,Option.some.injEq] at hy
  rw [← hy]; split <;> rfl
 have hsm : draw=true→∀ i,i<(msk hs 0 ops).length→i≠p→ops[i]? = (msk hs 0 ops)[i]?∨((AdC (msk hs 0 ops)).getD i 0).testBit p=true:=by
  intro hdr i hi hip
  rw [Ai4,Nat.zero_add]
  by_cases hc : hs.contains i=true
  ·right
   have:=List.all_eq_true.1 hhs i (by simpa using hc)
   simp only [hdr,Bool.and_eq_true,Bool.or_eq_true,beq_iff_eq,Bool.not_true,Bool.false_eq_true,or_false] at this
   exact this.2.resolve_left hip
  ·left
   cases ops[i]? with
   | none=>rfl
   | some x=>rw [Option.map_some,if_neg hc]
 have hgs : ∀ (i : Nat) (x : Oper),ops[i]? = some x→x.guard=none:=by
  intro i x hx
  have:=List.all_eq_true.1 hgd x (List.mem_of_getElem? hx)
  simpa using this
 have hpn : ∀ t ∈ AdN op,t<n:=fun t ht=>by
  have:=List.all_eq_true.1 huse t ht
  simp only [Bool.and_eq_true,decide_eq_true_eq] at this
  exact this.1
 have hps : ∀ (i : Nat) (x : Oper),(msk hs 0 ops)[i]? = some x→∀ t ∈ AdN op,x.dst=some t→((AdC (msk hs 0 ops)).getD p 0).testBit i=true:=by
  intro i x hx t ht hd
  have:=List.all_eq_true.1 huse t ht
  simp only [Bool.and_eq_true] at this
  have:=List.all_eq_true.1 this.2 i (List.mem_range.2 (List.getElem?_eq_some_iff.1 hx).1)
  simpa [hx,hd] using this
 have lget : ∀ (i : Nat) (t : AgY),st[i]? = some t→(st.map fun t=>(t.T,t.W)).getD i ([],[])=(t.T,t.W):=by
  intro i t ht; simp [List.getD_eq_getElem?_getD,ht]
 have hpi : ∀ (i : Nat) (t : AgY),st[i]? = some t→∀ id ∈ T,id ∈ t.W→((AdC (msk hs 0 ops)).getD p 0).testBit i=true:=by
  intro i t ht id hid hw
  have:=List.all_eq_true.1 g4 i (List.mem_range.2 (by rw [List.length_map]; exact (List.getElem?_eq_some_iff.1 ht).1))
  rw [lget i t ht] at this
  have:=List.all_eq_true.1 this id hw
  simpa [hid] using this
 have keep : ∀ q ∈ hl,(∀ t ∈ st,q.1 ∉ t.W)∧q.1 ∉ W:=by
  intro q hq
  have hin : q.1 ∈ hl.map (·.1):=List.mem_map.2 ⟨q,hq,rfl⟩
  constructor
  ·intro t ht hw
   have:=List.all_eq_true.1 (List.all_eq_true.1 g1 (t.T,t.W) (List.mem_map.2 ⟨t,ht,rfl⟩)) q.1 hw
   simp at this
   exact this _ hq
  ·intro hw
   have:=List.all_eq_true.1 g2 q.1 hw
   simp at this
   exact this _ hq
 intro a w hst
 have fin : ∀ c a w Hx,AcU c Hx w→(∀ t,t<n→(∀ x ∈ msk hs 0 ops,x.dst≠some t)→Rep c (s t) (a.tmps.getD t Go.undef))→a.tmps.size=n→a.defers=df→Ad0 c0 w0 c w→Ab0 c N'→(∀ id,(∀ t ∈ st,id ∉ t.W)→id ∉ W→Hx id=H id)→(Q.reald df n c0 w0) (.panic ch) a w:=by
  intro c a w Hx hr hsl' hn hd g hu hx
  refine ⟨_,_,N',hQ N',Aod hr hn hd g hu sl (Aom hsl) (fun q hq=>?_) hl fun q hq=>by rw [hx q.1 (keep q hq).1 (keep q hq).2]; exact hkp q hq⟩
  have:=List.all_eq_true.1 hss q.1 (List.mem_map.2 ⟨q,hq,rfl⟩)
  simp only [Bool.and_eq_true,decide_eq_true_eq] at this
  rw [← hsl q hq]
  exact hsl' q.1 this.1 fun x hx=>by have:=List.all_eq_true.1 this.2 x hx; simpa using this
 cases draw with
 | false =>
  obtain ⟨c,hr,hd,g,hu⟩:=hst
  have hpl : p<ops.length:=(List.getElem?_eq_some_iff.1 hop).1
  have hpe : ops[p]=op:=(List.getElem?_eq_some_iff.1 hop).2
  have hsplit : ops=ops.take p++op::ops.drop (p+1):=by
   rw [← hpe,List.getElem_cons_drop]; exact (List.take_append_drop p ops).symm
  have hm1 : (msk hs 0 ops).take p=ops.take p:=by
   refine List.ext_getElem? fun i=>?_
   rw [List.getElem?_take,List.getElem?_take]
   split
   ·rename_i hi
    rw [Ai4,Nat.zero_add]
    have : hs.contains i=false:=by
     cases hc : hs.contains i with
     | false=>rfl
     | true =>
      have:=List.all_eq_true.1 hhs i (by simpa using hc)
      simp only [Bool.and_eq_true,decide_eq_true_eq] at this
      omega
    rw [this]
    cases ops[i]? <;> rfl
   ·rfl
  have hml : msk hs 0 ops=ops.take p++(msk hs 0 ops).drop p:=by rw [← hm1]; exact (List.take_append_drop p _).symm
  have hSok:=AeB h1
  rw [hml] at htr
  obtain ⟨st1,st2,s1,H1,N1,rfl,t1,t2⟩:=Tr.app _ _ _ _ _ _ _ _ _ htr
  have hg1 : ∀ o ∈ ops.take p,o.guard=none:=fun o ho=>by
   obtain ⟨i,hi,rfl⟩:=List.getElem_of_mem (List.mem_of_mem_take ho)
   exact hgs i _ (by simp [hi])
  have t1' : Tr P ops.toArray (ops.take p) s H N st1 s1 H1 N1:=Tr.arr _ _ _ _ _ _ _ _ hg1 t1
  have hlen1 : st1.length=p:=by rw [Tr.len _ _ _ _ _ _ _ _ t1,List.length_take]; omega
  have hO1 : OpP P op ch s1 H1 T W:=by
   intro n c s2 H2 a w hrel hu hT
   refine hO n c s2 H2 a w hrel (fun t ht=>⟨?_,(hu t ht).2⟩) (fun id hid=>?_)
   ·rw [(hu t ht).1]
    refine (Tr.keepS _ _ _ _ _ _ _ _ (fun o ho hd=>?_) t2).symm
    obtain ⟨i,hi,rfl⟩:=List.getElem_of_mem ho
    rw [List.length_drop] at hi
    have:=AjK h2 p (p+i) (hps (p+i) _ (by rw [List.getElem?_eq_getElem (by omega),List.getElem_drop]) t ht hd)
    omega
   ·rw [hT id hid]
    refine (Tr.keepH _ _ _ _ _ _ _ _ (fun t ht hw=>?_) t2).symm
    obtain ⟨i,hi,rfl⟩:=List.getElem_of_mem ht
    have:=AjK h2 p (p+i) (hpi (p+i) _ (by rw [List.getElem?_append_right (by omega),hlen1,Nat.add_sub_cancel_left,List.getElem?_eq_getElem hi]) id hid hw)
    omega
  refine wp_region_list ?_
  have hN1:=Tr.mono _ _ _ _ _ _ _ _ t2
  have hSok' : ∀ o ∈ ops.take p,Ahy n ops.toArray o:=fun o ho=>by
   have ho' : o ∈ msk hs 0 ops:=by rw [hml]; exact List.mem_append.2 (.inl ho)
   exact ⟨(hSok o ho').uses,(hSok o ho').dst,fun j want hg=>by rw [hg1 o ho] at hg; cases hg⟩
  have key:=AiH (ops:=ops.toArray) (l2:=ops.drop (p+1)) (hgs p op hop) hpn (ops.take p) s H N st1 s1 H1 N1 hSok' t1' hO1 (Q:=Q.reald df n c0 w0) (ch:=ch) (fun c a w Hx hr hsl' hn hd g hu hx=>?_) c a w hr hd g hu
  ·rw [← hsplit] at key; exact key
  ·refine fin c a w Hx hr (fun t ht hx=>?_) hn hd g (fun i hi=>hu i (by omega)) fun id h1' h2'=>?_
   ·rw [← Tr.keepS _ _ _ _ _ _ _ _ (fun o ho=>hx o (by rw [hml]; exact List.mem_append.2 (.inl ho))) t1]
    exact hsl' t ht
   rw [hx id h2']
   exact Tr.keepH _ _ _ _ _ _ _ _ (fun t ht=>h1' t (by simp [ht])) t1
 | true =>
  have hst' : Std df n c0 w0 s H N a { w with drawn:=w.drawn+1 } := by
   obtain ⟨c,hr,hd,g,hu⟩:=hst
   exact ⟨c,⟨hr.hr.world rfl,hr.size,hr.slot⟩,hd,g.trans (Ad0.world rfl rfl rfl rfl),hu⟩
  obtain ⟨c,hr,hd,g,hu⟩:=hst'
  refine wp_region_any hm ?_
  simp only [List.size_toArray]
  rw [hLl]
  have hsm:=hsm rfl
  generalize hlm : msk hs 0 ops=l at *
  have hE : ∀ k,k<l.length→Aaj (Array.replicate l.length false) k=false:=by
   intro k hk; simp [Aaj,Array.getD,hk]
  have hcnt : ∀ m,m≤l.length→cnt (Aaj (Array.replicate l.length false)) m=0:=by
   intro m
   induction m with
   | zero=>intro _; rfl
   | succ m ih=>intro hm; simp [cnt,ih (by omega),hE m (by omega)]
  obtain ⟨t1,t2,t3,t4,t5⟩:=Al6 l s H N st s' H' N' htr
  have hNN:=AeT t1 t5 0 l.length (by omega) (Nat.le_refl _)
  rw [t4] at hNN
  have hpl : p<l.length:=by rw [← hLl]; exact (List.getElem?_eq_some_iff.1 hop).1
  refine Al1 p op hop hLl haf hsm hgs h1 h2 h3 g3 htr hpn hps hpi hO (c0:=c0) (w0:=w0) (df:=df) (fun c a w Hx hr hs' hn hd g hu hx=>fin c a w Hx hr hs' hn hd g hu hx) l.length _ c a _ (by simp) (by rw [hcnt _ (Nat.le_refl _)]; omega) (hE p hpl) ?_
  refine ⟨?_,hd,g,?_,fun i hi=>hu i (by simp only [stN] at hNN; omega),?_⟩
  ·have e1 : (fun t=>Ad9 (s t) (fun k=>(l[k]?.bind (·.dst))==some t) (fun k=>(st[k]?.map (·.x)).getD .undef) (Aaj (Array.replicate l.length false)) l.length)=s:=by
    funext t
    rw [Acv _ _ _ _ 0 l.length (by omega) (fun k _ hk _=>hE k hk)]; rfl
   have e2 : (fun id=>Ad9 (H id) (fun k=>((st[k]?.map (·.W)).getD []).contains id) (fun k=>stH st H (k+1) id) (Aaj (Array.replicate l.length false)) l.length)=H:=by
    funext t
    rw [Acv _ _ _ _ 0 l.length (by omega) (fun k _ hk _=>hE k hk)]; rfl
   rw [e1,e2]; exact hr
  ·intro i t ht hi id k1 k2
   have hil : i<l.length:=by have:=(List.getElem?_eq_some_iff.1 ht).1; omega
   have A:=(t5 i l[i] t (by simp [hil]) ht).wn id k1
   have:=AeT t1 t5 0 i (by omega) (by omega)
   simp only [stN] at this
   exact hu id (by have:=A.2 k2; omega)
  ·intro j o' hj hjE
   have hjl : j<l.length:=(List.getElem?_eq_some_iff.1 hj).1
   rw [hE j hjl] at hjE; cases hjE
theorem AWd.pan {id : Nat} {ops : List Oper} {draw : Bool} {y : Code} {ch : List PanicEntry} (hm : P.follows .mixedOrders=true) (mu : List Nat) (gs : List (Option (Nat×Bool))) (p : Nat) (hs : List Nat) (sl : List (Nat×AV)) (hl : List (Nat×Aan)) (op : Oper) (hop : ops[p]? = some op) (hok : AmG draw n ops p hs (sl.map (·.1)) gs=true)
 (hsl : ∀ q ∈ sl,s q.1=q.2)
 (hkp : ∀ q ∈ hl,H q.1=some q.2) (hQ : ∀ M,Q (.panic ch) (mkS sl) (mkH hl) M)
 (h : ∀ K : (Nat→AV)→Aah→Log→Prop,(∀ s' H' lg T W,OpP P op ch s' H' T W→AiQ (msk hs 0 ops) p (hl.map (·.1)) lg T W=true→K s' H' lg)→Aej P mu (msk hs 0 ops) gs s H N [] (fun s' H' _ lg=>K s' H' lg)) :
 AWd df P n c0 w0 (.seq (.region id ops.toArray draw) y) Q s H N:=by
 intro a w hst
 have key:=AWd.panR (df:=df) (id:=id) (draw:=draw) (Q:=fun e s H N=>e = .panic ch∧Q e s H N) hm mu gs p hs sl hl op hop hok hsl hkp (fun M=>⟨rfl,hQ M⟩) h a w hst
 refine wp_seq (wp_mono key fun e a w ⟨s,H,N,⟨he,h1⟩,h2⟩=>?_)
 subst he
 exact ⟨s,H,N,h1,h2⟩
end
theorem AW.pan {n : Nat} {c0 : Cx} {w0 : World} {Q : Ac5} {s : Nat→AV} {H : Aah} {N : Nat} {P : Program} {id : Nat} {ops : List Oper} {draw : Bool} {y : Code} {ch : List PanicEntry} (hm : P.follows .mixedOrders=true) (mu : List Nat) (gs : List (Option (Nat×Bool))) (p : Nat) (hs : List Nat) (op : Oper) (hop : ops[p]? = some op) (hok : AmG draw n ops p hs [] gs=true)
 (hQ : ∀ M,Q (.panic ch) (mkS []) (mkH []) M)
 (h : ∀ K : (Nat→AV)→Aah→Log→Prop,(∀ s' H' lg T W,OpP P op ch s' H' T W→AiQ (msk hs 0 ops) p [] lg T W=true→K s' H' lg)→Aej P mu (msk hs 0 ops) gs s H N [] (fun s' H' _ lg=>K s' H' lg)) :
 AW P n c0 w0 (.seq (.region id ops.toArray draw) y) Q s H N:=AWd.to (AWd.pan hm mu gs p hs [] [] op hop hok (by simp) (by simp) hQ h)
theorem AW.panE {n : Nat} {c0 : Cx} {w0 : World} {Q : Ac5} {s : Nat→AV} {H : Aah} {N : Nat} {P : Program} {id : Nat} {ops : List Oper} {draw : Bool} {ch : List PanicEntry} (hm : P.follows .mixedOrders=true) (mu : List Nat) (gs : List (Option (Nat×Bool))) (p : Nat) (hs : List Nat) (op : Oper) (hop : ops[p]? = some op) (hok : AmG draw n ops p hs [] gs=true)
 (hQ : ∀ M,Q (.panic ch) (mkS []) (mkH []) M)
 (h : ∀ K : (Nat→AV)→Aah→Log→Prop,(∀ s' H' lg T W,OpP P op ch s' H' T W→AiQ (msk hs 0 ops) p [] lg T W=true→K s' H' lg)→Aej P mu (msk hs 0 ops) gs s H N [] (fun s' H' _ lg=>K s' H' lg)) :
 AW P n c0 w0 (.region id ops.toArray draw) Q s H N:=AWd.to (AWd.panR hm mu gs p hs [] [] op hop hok (by simp) (by simp) hQ h)
def pn1 {α : Type} (x : Option α) (y : Option Unit) (f : α→Option Unit) : Option Unit:=match x with | some a=>f a | none=>y
def pn2 {α β : Type} (x : Option (α×β)) (y : Option Unit) (f : α→β→Option Unit) : Option Unit:=match x with | some a=>f a.1 a.2 | none=>y
theorem AhG {α : Type} {x : Option α} {y : Option Unit} {f : α→Option Unit} (h : pn1 x y f=some ()) : (x=none∧y=some ())∨∃ a,x=some a∧f a=some ():=by
 cases x with
 | none=>exact .inl ⟨rfl,h⟩
 | some a=>exact .inr ⟨a,rfl,h⟩
theorem Aca {α β : Type} {x : Option (α×β)} {y : Option Unit} {f : α→β→Option Unit} (h : pn2 x y f=some ()) : (x=none∧y=some ())∨∃ a b,x=some (a,b)∧f a b=some ():=by
 cases x with
 | none=>exact .inl ⟨rfl,h⟩
 | some a=>exact .inr ⟨a.1,a.2,rfl,h⟩
theorem ArX.enter {P : Program} {f : FuncId} {fn : Func} {code : Code} {args : List AV} {O : List Aan} {ch : List PanicEntry} (hf : P.funcs[f]? = some fn) (hb : fn.body=some code) (hm : args.length≤fn.ntmps)
 (ga : gdL (· < O.length) args) (gO : ∀ o ∈ O,gdO (· < O.length) o)
 (h : ∀ (c0 : Cx) (w0 : World) (Q : Ac5),Ab0 c0 O.length→(∀ M,Q (.panic ch) (mkS []) (mkH []) M)→AW P fn.ntmps c0 w0 code Q (Am8 args) (fun i=>O[i]?) O.length) : Afd (fun _ => .panicked ch) P f args O .undef (List.replicate O.length none) where
 len:=by simp
 ga:=ga
 gO:=gO
 gr:=trivial
 gO':=fun o ho=>by simp at ho
 call:=by
  intro c w vs hr hu ha
  have hl : vs.size=args.length:=by simpa using ha.length
  refine calls_of_wp hf hb ?_
  have:=h c w (fun e s H N=>e = .panic ch∧H=mkH []) hu (fun M=>⟨rfl,rfl⟩)
  refine wp_mono (this _ w ⟨c,⟨hr,by simp; omega,fun t ht=>AjJ ha hm t ht⟩,rfl,.refl _ _,hu⟩) ?_
  intro e a w' ⟨s,H',N',⟨he,hH⟩,c',hrel,hd,g,hu'⟩
  subst he; subst hH
  refine ⟨hd,Go.undef,c',_,rfl,hrel.hr,fun i hi=>?_,by simp [Rep],g⟩
  simp [nth,List.getElem?_replicate,mkH]
  split <;> rfl
theorem OpP.call {P : Program} {o : Oper} {s : Nat→AV} {H : Aah} {ch : List PanicEntry} (hc : Aak o=true) (g : Operand) (as : Array Operand) (ts : Array TypeId) (ho : o.op = .call { callee := .value g,args:=as,argTypes:=ts })
 (f : FuncId) (caps : List AV) (hg : ev s g = .fn f caps) (hcal : AaY P f=true) {args0 : List AV} {O : List Aan} (hF : Afd (fun _ => .panicked ch) P f args0 O .undef (List.replicate O.length none)) (σ : List Nat) (hlen : σ.length=O.length)
 (hco : AlM H (nm σ) (as.toList.map (ev s)++caps) args0 []) (hO' : AqZ H (nm σ) σ O) (hnd : σ.Nodup) : OpP P o ch s H σ σ:=by
 have hO:=Ahq hO'
 intro n c s1 H1 a w hrel hu hT K Q hk
 obtain ⟨vs,h1,h2⟩:=Ahw hc ho hg hcal hrel hu
 have hs0 : ∀ (l : List Nat) (j : Nat),j ∈ l→j≤l.sum:=by
  intro l
  induction l with
  | nil=>intro j hj; simp at hj
  | cons x l ih =>
   intro j hj
   rcases List.mem_cons.1 hj with rfl | hj
   ·simp
   ·have:=ih j hj; simp; omega
 have hz : (List.replicate O.length (none : Option Aan)).length-O.length=0:=by simp
 have hn0 : Ad5 (σ.sum+1) ((List.replicate O.length (none : Option Aan)).length-O.length) = []:=by rw [hz]; rfl
 have key:=Ahs (N:=σ.sum+1) (H:=H) hF σ [] hlen hco hO hnd (fun j hj=>by have:=hs0 σ j hj; omega) (by simp) (.inl rfl) σ (fun j h=>h) (fun i hi => .inl (Ae8 (by omega))) c H1 w vs hrel.hr (by simpa using hT) (by rw [hn0]; simp) h2
 unfold Oper.wp
 rw [h1,Oper.upon_enter]
 refine Calls.mono key fun e w' hR=>?_
 obtain ⟨v,c',rfl,hr',_,g',hun⟩:=hR
 rw [hn0,List.append_nil] at hr' hun
 refine hk c' w' (hr'.eqH ?_) g' fun id hid=>?_
 ·funext id
  by_cases h : id ∈ σ
  ·rw [if_pos h,if_pos h]
   obtain ⟨i,hi,rfl⟩:=Agw h
   rw [Ahc hnd (by simpa using hlen) hi]
   simp [nth,List.getElem?_replicate]
   split <;> rfl
  ·rw [if_neg h,if_neg h]
 ·refine hun id hid fun h=>?_
  obtain ⟨i,hi,rfl⟩:=Agw h
  have:=hrel.hr.non _ (by rw [hid]; simp) (by rw [hid]; simp)
  rw [hT _ h,hO i (by omega)] at this
  cases this
end Go.Abs
