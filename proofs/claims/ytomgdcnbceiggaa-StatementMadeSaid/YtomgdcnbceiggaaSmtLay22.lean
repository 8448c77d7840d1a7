import Derived.Test.YtomgdcnbceiggaaSmtLay21
import Derived.Laws.Externs
set_option linter.unusedVariables false
set_option linter.unusedSimpArgs false
namespace Go.Abs
open Go.RowKit (Below)
def chk {α : Type} (c : Prop) [Decidable c] (x : Option α) : Option α:=if c then x else none
def idx {α β : Type} (l : List α) (i : Int) (f : α→Option β) : Option β:=if 0≤i then (match l[i.toNat]? with | some x=>f x | none=>none) else none
def AbI {α γ : Type} (x : Option α) (f : α→Option γ) : Option γ:=match x with | some a=>f a | none=>none
def Acy {α β γ : Type} (x : Option (α×β)) (f : α→β→Option γ) : Option γ:=match x with | some a=>f a.1 a.2 | none=>none
def AfB {α β δ γ : Type} (x : Option (α×β×δ)) (f : α→β→δ→Option γ) : Option γ:=match x with | some a=>f a.1 a.2.1 a.2.2 | none=>none
def AtI {α β δ ε γ : Type} (x : Option (α×β×δ×ε)) (f : α→β→δ→ε→Option γ) : Option γ:=match x with | some a=>f a.1 a.2.1 a.2.2.1 a.2.2.2 | none=>none
def Att {α β δ ε ζ γ : Type} (x : Option (α×β×δ×ε×ζ)) (f : α→β→δ→ε→ζ→Option γ) : Option γ:=match x with | some a=>f a.1 a.2.1 a.2.2.1 a.2.2.2.1 a.2.2.2.2 | none=>none
def Ats {α β δ ε ζ η γ : Type} (x : Option (α×β×δ×ε×ζ×η)) (f : α→β→δ→ε→ζ→η→Option γ) : Option γ:=match x with | some a=>f a.1 a.2.1 a.2.2.1 a.2.2.2.1 a.2.2.2.2.1 a.2.2.2.2.2 | none=>none
def Atr {α β δ ε ζ η θ γ : Type} (x : Option (α×β×δ×ε×ζ×η×θ)) (f : α→β→δ→ε→ζ→η→θ→Option γ) : Option γ:=match x with | some a=>f a.1 a.2.1 a.2.2.1 a.2.2.2.1 a.2.2.2.2.1 a.2.2.2.2.2.1 a.2.2.2.2.2.2 | none=>none
def Atq {α β δ ε ζ η θ κ γ : Type} (x : Option (α×β×δ×ε×ζ×η×θ×κ)) (f : α→β→δ→ε→ζ→η→θ→κ→Option γ) : Option γ:=match x with | some a=>f a.1 a.2.1 a.2.2.1 a.2.2.2.1 a.2.2.2.2.1 a.2.2.2.2.2.1 a.2.2.2.2.2.2.1 a.2.2.2.2.2.2.2 | none=>none
def Ano {α γ : Type} (x : α) (f : α→Option γ) : Option γ:=f x
theorem AaP {α : Type} {c : Prop} [Decidable c] {x : Option α} {r : α} (h : chk c x=some r) : c∧x=some r:=by
 unfold chk at h; split at h
 ·exact ⟨by assumption,h⟩
 ·cases h
theorem Aai {α β : Type} {l : List α} {i : Int} {f : α→Option β} {r : β} (h : idx l i f=some r) : ∃ x,0≤i∧i.toNat<l.length∧l[i.toNat]? = some x∧f x=some r:=by
 unfold idx at h; split at h
 ·split at h
  ·rename_i x hx
   exact ⟨x,by assumption,(List.getElem?_eq_some_iff.1 hx).1,hx,h⟩
  ·cases h
 ·cases h
theorem Amc {α : Type} {l : List α} {x : α} (h : l[Int.toNat 0]? = some x) : l.head? = some x:=by rw [List.head?_eq_getElem?]; exact h
theorem AmU {α β : Type} (f : α→β) {l : List α} {n : Nat} {x : α} (h : l[n]? = some x) : (l.map f)[n]? = some (f x):=by simp [h]
theorem AbA {α : Type} {l : List α} {n : Nat} {x : α} (h : l[n]? = some x) : l[n]'(List.getElem?_eq_some_iff.1 h).1=x:=(List.getElem?_eq_some_iff.1 h).2
theorem AaG {α γ : Type} {x : Option α} {f : α→Option γ} {r : γ} (h : AbI x f=some r) : ∃ a,x=some a∧f a=some r:=by
 cases x with
 | none=>cases h
 | some a=>exact ⟨a,rfl,h⟩
theorem Aaa {α β γ : Type} {x : Option (α×β)} {f : α→β→Option γ} {r : γ} (h : Acy x f=some r) : ∃ a b,x=some (a,b)∧f a b=some r:=by
 cases x with
 | none=>cases h
 | some a=>exact ⟨_,_,rfl,h⟩
theorem AbK {α β δ γ : Type} {x : Option (α×β×δ)} {f : α→β→δ→Option γ} {r : γ} (h : AfB x f=some r) : ∃ a b c,x=some (a,b,c)∧f a b c=some r:=by
 cases x with
 | none=>cases h
 | some a=>exact ⟨_,_,_,rfl,h⟩
def Atd {α γ : Type} (x : Option α) (f : α→Option γ) (g : Option γ) : Option γ:=match x with | some a=>f a | none=>g
theorem AeJ {α γ : Type} {x : α} {f : α→Option γ} {r : γ} (h : Ano x f=some r) : ∃ a,x=a∧f a=some r:=⟨x,rfl,h⟩
theorem AaU {α : Type} {c : Prop} [Decidable c] {x y : Option α} {r : α} (hc : c) (h : (if c then x else y)=some r) : x=some r:=by rwa [if_pos hc] at h
theorem AaV {α : Type} {c : Prop} [Decidable c] {x y : Option α} {r : α} (hc : ¬ c) (h : (if c then x else y)=some r) : y=some r:=by rwa [if_neg hc] at h
abbrev sl {α : Type} (f : α→AV) (l : List α) : AV := .lst false false (l.map f)
def AqZ (H : Aah) (ρ : Nat→Nat) : List Nat→List Aan→Prop
 | [],[]=>True
 | j::js,o::os=>H j=some (Agr ρ o)∧AqZ H ρ js os
 | _,_=>False
theorem Ahq {H : Aah} {ρ : Nat→Nat} : ∀ {σ : List Nat} {O : List Aan},AqZ H ρ σ O→∀ i (h : i<O.length),H (nm σ i)=some (Agr ρ O[i])
 | [],[],_,i,hi=>absurd hi (by simp)
 | j::js,o::os,h,0,_=>h.1
 | j::js,o::os,h,i+1,hi=>by
  have:=Ahq h.2 i (by simpa using hi)
  simpa [nm] using this
 | [],_::_,h,_,_=>h.elim
 | _::_,[],h,_,_=>h.elim
def Apw (W : List Nat) : List Nat→List Aan→List (Option Aan)→Prop
 | [],[],_=>True
 | j::js,o::os,o'::os'=>(j ∈ W∨o'=some o)∧Apw W js os os'
 | _,_,_=>False
theorem AjW {W : List Nat} : ∀ {σ : List Nat} {O : List Aan} {O' : List (Option Aan)},Apw W σ O O'→∀ i (h : i<O.length),nm σ i ∈ W∨nth O' i=some O[i]
 | [],[],_,_,i,hi=>absurd hi (by simp)
 | j::js,o::os,o'::os',h,0,_=>h.1
 | j::js,o::os,o'::os',h,i+1,hi=>by
  have:=AjW h.2 i (by simpa using hi)
  simpa [nm,nth] using this
 | [],_::_,_,h,_,_=>h.elim
 | _::_,[],_,h,_,_=>h.elim
 | _::_,_::_,[],h,_,_=>h.elim
def AlC (H : Aah) : Nat→List (Option Aan)→Prop
 | _,[]=>True
 | i,o::os=>H i=o∧AlC H (i+1) os
theorem Ahl {H : Aah} : ∀ {O : List (Option Aan)} {j : Nat},AlC H j O→∀ i,i<O.length→H (j+i)=nth O i
 | [],_,_,i,hi=>absurd hi (by simp)
 | o::os,j,h,0,_=>h.1
 | o::os,j,h,i+1,hi=>by
  have:=Ahl h.2 i (by simpa using hi)
  rw [show j+(i+1)=j+1+i by omega,this]
  simp [nth]
theorem AaE {H : Aah} {O : List (Option Aan)} (h : AlC H 0 O) : ∀ i,i<O.length→H i=nth O i:=fun i hi=>by simpa using Ahl h i hi
theorem Coe.fl {H : Aah} {σ : Nat→Nat} {nl fl : Bool} {xs ys : List AV} (h : xs=ys) : Coe H σ (.lst nl fl xs) (.lst false false ys) []:=h ▸ .flags
theorem Coe.l {H : Aah} {σ : Nat→Nat} {id es len : Nat} {full : Bool} {o : Aan} {cs xs : List AV} (ho : H id=some o) (hc : o.cs? = some cs) (hel : okEls es xs) (hn : AcA xs) (hl : xs.length=len) (hcs : AaM xs=cs) : Coe H σ (.slc id 0 es len full) (.lst false false xs) [id]:=by
 cases Frz.l (id:=id) (o:=o) (full:=full) (fl:=false) (fun h=>by cases h) hel hl hcs with
 | lst _ _ _ he _=>exact .lst ho hc hel hn hl he
theorem Aa8 {α : Type} {l : List α} {n : Nat} (h : n<l.length) : ¬ l = []:=by rintro rfl; simp at h
section
variable {P : Program} {n : Nat} {c0 : Cx} {w0 : World} {Q : Ac5} {s : Nat→AV} {H : Aah} {N : Nat}
theorem AaO {f : FuncId} {args : List AV} {K : CK} {args0 : List AV} {O : List Aan} {r : AV} {O' : List (Option Aan)} (hF : AbP P f args0 O r O') (hcal : AaY P f=true) (σ T1 W0 : List Nat) (hlen : σ.length=O.length)
 (hco : AlM H (nm σ) args args0 T1) (hO : AqZ H (nm σ) σ O) (hnd : σ.Nodup) (hσN : ∀ j ∈ σ,j<N) (hT1 : ∀ j ∈ T1,j<N∧j ∉ σ)
 (hfr : T1 = []∨(fresh r=true∧∀ o,some o ∈ O'→Ahr o=true)) (hW0 : ∀ j ∈ W0,j ∈ σ) (hun : Apw W0 σ O O')
 (hk : K (ren (nm (σ++Ad5 N (O'.length-O.length))) r) (AjQ (nm (σ++Ad5 N (O'.length-O.length))) H (σ++Ad5 N (O'.length-O.length)) O') (N+(O'.length-O.length)) (σ++T1) (W0++Ad5 N (O'.length-O.length))) : Alt P f args H N K :=
 ⟨_,_,_,_,_,fun o s g as ts caps hc ho hg ha=>AmN hc g as ts ho f caps hg hcal hF σ T1 hlen (by rw [ha]; exact hco) (Ahq hO) hnd hσN hT1 hfr W0 hW0 (AjW hun),hk⟩
theorem AW.condT {t : Nat} {x y : Code} (ht : decide (t<n)=true) (hb : s t = .bool true) (h : AW P n c0 w0 x Q s H N) : AW P n c0 w0 (.cond (.tmp t) x y) Q s H N :=
 AW.cond ht true hb (fun _=>h) (fun e=>by cases e)
theorem AW.condF {t : Nat} {x y : Code} (ht : decide (t<n)=true) (hb : s t = .bool false) (h : AW P n c0 w0 y Q s H N) : AW P n c0 w0 (.cond (.tmp t) x y) Q s H N :=
 AW.cond ht false hb (fun e=>by cases e) (fun _=>h)
theorem AW.loopF {c : Code} {α : Type} (F : Nat→α→Prop) (L : α→List (Nat×AV)) (O : α→List (Nat×Aan)) (M k : Nat) (x0 : α) (h0 : F k x0) (h1 : ∀ p ∈ L x0,s p.1=p.2) (h2 : ∀ p ∈ O x0,H p.1=some p.2) (hN : N≤M)
 (round : ∀ k x,F k x→∀ K : (Nat→AV)→Aah→Nat→Prop,(∀ s' H' N',Can n c0 w0 s' H' N' (fun a w=>∃ k' y,k'<k∧F k' y∧St n c0 w0 (mkS (L y)) (mkH (O y)) M a w)→K s' H' N') →
  AW P n c0 w0 c (Ac5.then K Q) (mkS (L x)) (mkH (O x)) M) : AW P n c0 w0 (.loop c) Q s H N:=by
 classical
 intro a w hs
 let J : Nat→Act→World→Prop:=fun k a w=>∃ x,F k x∧St n c0 w0 (mkS (L x)) (mkH (O x)) M a w
 have key : ∀ k a w,J k a w→(Code.loop c).wp P (Q.real n c0 w0) a w:=by
  intro k0 a w hJ
  let μ : Act→World→Nat:=fun a w=>if h : ∃ k,J k a w then Classical.choose (Alg _ h) else 0
  have hμ : ∀ a w,(∃ k,J k a w)→J (μ a w) a w∧∀ j,J j a w→μ a w≤j:=by
   intro a w h
   have : μ a w=Classical.choose (Alg _ h):=by simp only [μ,h,dif_pos]
   rw [this]
   exact Classical.choose_spec (Alg _ h)
  refine wp_loop (fun a w=>∃ k,J k a w) μ ⟨k0,hJ⟩ ?_
  intro a w hk
  obtain ⟨x,hx,hst⟩:=(hμ a w hk).1
  refine wp_mono (round _ x hx (fun s' H' N'=>Can n c0 w0 s' H' N' (fun a' w'=>∃ k' y,k'<μ a w∧F k' y∧St n c0 w0 (mkS (L y)) (mkH (O y)) M a' w')) (fun s' H' N' h=>h) a w hst) ?_
  intro e a' w' ⟨s',H',N',q,st⟩
  cases e with
  | normal =>
   obtain ⟨k',y,k1,k2,k3⟩:=q a' w' st
   have hJy : J k' a' w':=⟨y,k2,k3⟩
   refine ⟨⟨k',hJy⟩,?_⟩
   have:=(hμ a' w' ⟨_,hJy⟩).2 _ hJy
   omega
  | _=>exact ⟨s',H',N',q,st⟩
 exact key k a w ⟨x0,h0,hs.weak (L x0) (O x0) M h1 h2 hN⟩
theorem Can.next {α : Type} {F : Nat→α→Prop} {L : α→List (Nat×AV)} {O : α→List (Nat×Aan)} {M k k' : Nat} (y : α) (hk : k'<k) (hF : F k' y) (h1 : ∀ p ∈ L y,s p.1=p.2) (h2 : ∀ p ∈ O y,H p.1=some p.2) (hN : N≤M) :
 Can n c0 w0 s H N (fun a w=>∃ k' y,k'<k∧F k' y∧St n c0 w0 (mkS (L y)) (mkH (O y)) M a w) :=
 fun a w hs=>⟨k',y,hk,hF,hs.weak (L y) (O y) M h1 h2 hN⟩
theorem AW.midF {x y : Code} {α : Type} (F : α→Prop) (L : α→List (Nat×AV)) (O : α→List (Nat×Aan)) (M : Nat)
 (h1 : ∀ K : (Nat→AV)→Aah→Nat→Prop,(∀ s' H' N',Can n c0 w0 s' H' N' (fun a w=>∃ z,F z∧St n c0 w0 (mkS (L z)) (mkH (O z)) M a w)→K s' H' N')→AW P n c0 w0 x (Ac5.then K Q) s H N)
 (h2 : ∀ z,F z→AW P n c0 w0 y Q (mkS (L z)) (mkH (O z)) M) : AW P n c0 w0 (.seq x y) Q s H N:=by
 intro a w hs
 refine wp_seq (wp_mono (h1 (fun s' H' N'=>Can n c0 w0 s' H' N' (fun a w=>∃ z,F z∧St n c0 w0 (mkS (L z)) (mkH (O z)) M a w)) (fun _ _ _ h=>h) a w hs) fun e a w ⟨s',H',N',q,st⟩=>?_)
 cases e with
 | normal =>
  obtain ⟨z,k1,k2⟩:=q a w st
  exact h2 z k1 a w k2
 | _=>exact ⟨s',H',N',q,st⟩
theorem Can.join {α : Type} {F : α→Prop} {L : α→List (Nat×AV)} {O : α→List (Nat×Aan)} {M : Nat} (y : α) (hF : F y) (h1 : ∀ p ∈ L y,s p.1=p.2) (h2 : ∀ p ∈ O y,H p.1=some p.2) (hN : N≤M) :
 Can n c0 w0 s H N (fun a w=>∃ y,F y∧St n c0 w0 (mkS (L y)) (mkH (O y)) M a w) :=
 fun a w hs=>⟨y,hF,hs.weak (L y) (O y) M h1 h2 hN⟩
theorem AW.nilSplit {x : Code} (t : Nat) (ht : decide (t<n)=true) {fl : Bool} {xs : List AV} (hs : s t = .lst false fl xs) (h1 : xs = []→AW P n c0 w0 x Q (upd s t (.lst true fl [])) H N) (h2 : AW P n c0 w0 x Q (upd s t (.nn (.lst false fl xs))) H N) : AW P n c0 w0 x Q s H N:=by
 intro a w ⟨cx,hr,hd,g,hu⟩
 have hv:=hr.slot t (by simpa using ht)
 rw [hs] at hv
 have key : ∀ y,Rep cx y (a.tmps.getD t undef)→St n c0 w0 (upd s t y) H N a w:=fun y hy =>
  ⟨cx,⟨hr.hr,hr.size,fun t' ht'=>by
   by_cases e : t'=t
   ·subst e; rw [Abg]; exact hy
   ·rw [Acr _ _ e]; exact hr.slot t' ht'⟩,hd,g,hu⟩
 have hv2:=hv
 simp only [Rep] at hv2
 rcases hv2 with ⟨hx,hv2⟩ | ⟨_,ad,b,off,cap,es,vs,hv2,_⟩
 ·exact h1 hx a w (key _ (by simp only [Rep]; exact .inl ⟨trivial,hv2⟩))
 ·refine h2 a w (key _ ?_)
  rw [Rep]
  exact ⟨hv,ad,_,_,hv2⟩
theorem AW.roomSplit {x : Code} (t : Nat) (ht : decide (t<n)=true) {id off es len : Nat} {f : Bool} {o : Aan} (hs : s t = .slc id off es len f) (ho : H id=some o) (hne : o ≠ .grow []) (h1 : AW P n c0 w0 x Q (upd s t (.slc id off es len true)) H N)
 (h2 : AW P n c0 w0 x Q (upd s t (.rm (.slc id off es len f))) H N) : AW P n c0 w0 x Q s H N:=by
 intro a w ⟨cx,hr,hd,g,hu⟩
 have hv:=hr.slot t (by simpa using ht)
 rw [hs] at hv
 have key : ∀ y,Rep cx y (a.tmps.getD t undef)→St n c0 w0 (upd s t y) H N a w:=fun y hy =>
  ⟨cx,⟨hr.hr,hr.size,fun t' ht'=>by
   by_cases e : t'=t
   ·subst e; rw [Abg]; exact hy
   ·rw [Acr _ _ e]; exact hr.slot t' ht'⟩,hd,g,hu⟩
 obtain ⟨b,base,sz,hl,hor⟩:=hr.hr.live_of ho hne
 obtain ⟨cap,o',hv',ho',c1,c2,c3,c4⟩:=Abi hv hl
 by_cases hc : cap=len
 ·refine h1 a w (key _ ?_)
  simp only [Rep] at hv ⊢
  refine ⟨hv.1,hv.2.1,hv.2.2.1,fun b' base' sz' hl'=>?_⟩
  rw [hl] at hl'
  simp only [AeY.live.injEq] at hl'
  obtain ⟨rfl,rfl,rfl⟩:=hl'
  exact ⟨cap,o',hv',ho',c1,c2,c3,fun _=>hc⟩
 ·refine h2 a w (key _ ?_)
  rw [Rep]
  exact ⟨hv,_,_,_,hv',by omega⟩
theorem AW.wk {x : Code} (l : List (Nat×AV)) (hl : List (Nat×Aan)) (N' : Nat) (h1 : ∀ p ∈ l,s p.1=p.2) (h2 : ∀ p ∈ hl,H p.1=some p.2) (hN : N≤N') (h : AW P n c0 w0 x Q (mkS l) (mkH hl) N') : AW P n c0 w0 x Q s H N:=AW.weak l hl N' h1 h2 hN h
theorem AW.own' {x : Code} (t es : Nat) (fl : Bool) (hs : s t = .lst true fl []) (ht : decide (t<n)=true) (h : AW P n c0 w0 x Q (upd s t (.slc N 0 es 0 false)) (upd H N (some (.grow []))) (N+1)) : AW P n c0 w0 x Q s H N:=Can.own t es fl hs ht h
theorem AW.frz {x : Code} (id : Nat) {o : Aan} {cs : List AV} (ho : H id=some o) (hc : o.cs? = some cs) (l : List (Nat×AV)) (lo : List (Nat×Aan)) (hl : AsZ id o cs s l) (hlo : ArV id o cs H lo)
 (h : AW P n c0 w0 x Q (AnJ s l) (Ah4 (upd H id none) lo) N) : AW P n c0 w0 x Q s H N:=Can.freeze id ho hc l lo hl hlo h
theorem AW.flg {x : Code} (l : List (Nat×AV)) (lo : List (Nat×Aan)) (hl : FlS s l) (hlo : FlH H lo) (hn : (lo.map (·.1)).Nodup) (h : AW P n c0 w0 x Q (AnJ s l) (Ah4 H lo) N) : AW P n c0 w0 x Q s H N:=Can.flg l lo hl hlo hn h
theorem AW.rnm {x : Code} {m : Nat} (h0 : Ab0 c0 m) (ρ : List (Nat×Nat)) (l : List (Nat×AV)) (o : List (Nat×Aan)) (M : Nat)
 (hρ1 : (ρ.map (·.2)).Nodup) (hρ2 : ∀ p ∈ ρ,p.1<M∧(p.1<m→p.1=p.2)) (hM : m≤M) (hk : o.map (·.1)=ρ.map (·.1))
 (h1 : ∀ p ∈ l,s p.1=Abs.ren (AfF ρ) p.2∧gd (fun i=>(Af8 ρ i).isSome=true) p.2)
 (h2 : ∀ p ∈ o,H (AfF ρ p.1)=some (Agr (AfF ρ) p.2)∧gdO (fun i=>(Af8 ρ i).isSome=true) p.2)
 (h : AW P n c0 w0 x Q (mkS l) (mkH o) M) : AW P n c0 w0 x Q s H N:=Can.ren h0 ρ l o M hρ1 hρ2 hM hk h1 h2 h
end
attribute [simp] List.take_of_length_le
@[simp] theorem ApV (σ : Nat→Nat) (cs : List AV) : Agr σ (.cells cs) = .cells (Afv σ cs):=rfl
@[simp] theorem AqD (σ : Nat→Nat) (cs : List AV) : Agr σ (.grow cs) = .grow (Afv σ cs):=rfl
@[simp] theorem Aqa (S : Nat→Prop) (cs : List AV) : gdO S (.cells cs)=gdL S cs:=rfl
@[simp] theorem ArM (S : Nat→Prop) (cs : List AV) : gdO S (.grow cs)=gdL S cs:=rfl
@[simp] theorem AoM (cs : List AV) : Ahr (.cells cs)=Adx cs:=rfl
@[simp] theorem Aos (cs : List AV) : Ahr (.grow cs)=Adx cs:=rfl
attribute [simp] ren Afv gd gdL fresh Adx AjQ AqZ Apw AlC Af8 AfF
@[simp] theorem Atj (a : Nat) (σ : List Nat) : nm (a::σ) 0=a:=rfl
@[simp] theorem Ate (a : Nat) (σ : List Nat) (i : Nat) : nm (a::σ) (i+1)=nm σ i:=by simp [nm]
@[simp] theorem Ati (a b : Nat) (σ : List Nat) : nm (a::b::σ) 1=b:=rfl
@[simp] theorem Ath (a b c : Nat) (σ : List Nat) : nm (a::b::c::σ) 2=c:=rfl
@[simp] theorem Atg (a b c d : Nat) (σ : List Nat) : nm (a::b::c::d::σ) 3=d:=rfl
@[simp] theorem Atf (a b c d e : Nat) (σ : List Nat) : nm (a::b::c::d::e::σ) 4=e:=rfl
@[simp] theorem AtG (a : Option Aan) (σ : List (Option Aan)) : nth (a::σ) 0=a:=rfl
@[simp] theorem AtB (a : Option Aan) (σ : List (Option Aan)) (i : Nat) : nth (a::σ) (i+1)=nth σ i:=by simp [nth]
@[simp] theorem AtF (a b : Option Aan) (σ : List (Option Aan)) : nth (a::b::σ) 1=b:=rfl
@[simp] theorem AtE (a b c : Option Aan) (σ : List (Option Aan)) : nth (a::b::c::σ) 2=c:=rfl
@[simp] theorem AtD (a b c d : Option Aan) (σ : List (Option Aan)) : nth (a::b::c::d::σ) 3=d:=rfl
@[simp] theorem AtC (a b c d e : Option Aan) (σ : List (Option Aan)) : nth (a::b::c::d::e::σ) 4=e:=rfl
@[simp] theorem Ar5 (i : Nat) : nth [] i=none:=by simp [nth]
@[simp] theorem Asp (N : Nat) : Ad5 N 0 = []:=rfl
@[simp] theorem Aso (N : Nat) : Ad5 N 1 = [N]:=rfl
@[simp] theorem Asn (N : Nat) : Ad5 N 2 = [N,N+1]:=rfl
@[simp] theorem Asm (N : Nat) : Ad5 N 3 = [N,N+1,N+2]:=rfl
@[simp] theorem Asl (N : Nat) : Ad5 N 4 = [N,N+1,N+2,N+3]:=rfl
def bI (b : ByteArray) : List Int:=b.data.toList.map fun x=>(x.toNat : Int)
def ofI (l : List Int) : ByteArray:=⟨(l.map fun n=>UInt8.ofNat n.toNat).toArray⟩
@[simp] theorem ArS (b : ByteArray) : bytes b.data.toList=(bI b).map (AV.int .u8):=by simp [bytes,bI]
@[simp] theorem Als (l : List Int) : AeO (l.map (AV.int .u8))=true:=by
 induction l with
 | nil=>rfl
 | cons x l ih=>simpa [AeO] using ih
@[simp] theorem AnX (l : List Int) : sOf (l.map (AV.int .u8))=ofI l:=by simp [sOf,ofI,ApT]
@[simp] theorem ArA (n : Nat) (l : List Int) : sOf ((l.map (AV.int .u8)).take n)=ofI (l.take n):=by rw [← List.map_take,AnX]
@[simp] theorem Aqp (b : ByteArray) : (bI b).length=b.size:=by simp [bI]
theorem Alj {α : Type} (S : Nat→Prop) (f : α→AV) (l : List α) : Abn S (l.map f)↔∀ x ∈ l,idsIn S (f x):=by
 simp [AcB]
theorem AiT {α : Type} {S : Nat→Prop} {f : α→AV} (h : ∀ x,idsIn S (f x)) (l : List α) : Abn S (l.map f):=(Alj S f l).2 fun x _=>h x
theorem Aor {α : Type} (S : Nat→Prop) (f : α→AV) (l : List α) : gdL S (l.map f)↔∀ x ∈ l,gd S (f x):=by
 induction l with
 | nil=>simp
 | cons x l ih=>simp [ih]
theorem AnZ {α : Type} (σ : Nat→Nat) (f : α→AV) (h : ∀ x,ren σ (f x)=f x) (l : List α) : Afv σ (l.map f)=l.map f:=by
 induction l with
 | nil=>simp
 | cons x l ih=>simp [ih,h]
theorem Alk {α : Type} (f : α→AV) (h : ∀ x,fresh (f x)=true) (l : List α) : Adx (l.map f)=true:=by
 induction l with
 | nil=>simp
 | cons x l ih=>simp [ih,h]
@[simp] theorem ArN (S : Nat→Prop) (k : IntKind) (l : List Int) : gdL S (l.map (AV.int k))↔True:=by simp [Aor]
@[simp] theorem AqE (σ : Nat→Nat) (k : IntKind) (l : List Int) : Afv σ (l.map (AV.int k))=l.map (AV.int k):=AnZ _ _ (by simp) _
@[simp] theorem Aot (k : IntKind) (l : List Int) : Adx (l.map (AV.int k))=true:=Alk _ (by simp) _
@[simp] theorem Aob (σ : Nat→Nat) (a b : List AV) : Afv σ (a++b)=Afv σ a++Afv σ b:=by
 induction a with
 | nil=>simp
 | cons x l ih=>simp [ih]
@[simp] theorem Apf (S : Nat→Prop) (a b : List AV) : gdL S (a++b)↔gdL S a∧gdL S b:=by
 induction a with
 | nil=>simp
 | cons x l ih=>simp [ih,and_assoc]
@[simp] theorem Ans (S : Nat→Prop) (a b : List AV) : Abn S (a++b)↔Abn S a∧Abn S b:=by
 induction a with
 | nil=>simp
 | cons x l ih=>simp [ih,and_assoc]
theorem AkQ (σ : Nat→Nat) (l : List AV) : Afv σ l=l.map (ren σ):=by
 induction l with
 | nil=>rfl
 | cons x l ih=>simp [ih]
theorem Amd (S : Nat→Prop) (l : List AV) : gdL S l↔∀ x ∈ l,gd S x:=by
 induction l with
 | nil=>simp
 | cons x l ih=>simp [ih]
theorem AiU (l : List AV) : Adx l=l.all fresh:=by
 induction l with
 | nil=>rfl
 | cons x l ih=>simp [ih]
def toB : AV→Bool
 | .bool b=>b
 | _=>false
def isB : AV→Bool
 | .bool _=>true
 | _=>false
def toI : AV→Int
 | .int _ n=>n
 | _=>0
def isI : AV→Bool
 | .int _ _=>true
 | _=>false
theorem AfU {α : Type} {l : List α} {n : Nat} (h : l.length=n) (hn : 0<n) : ¬ l = []:=by rintro rfl; simp at h; omega
@[simp] theorem Aq5 (cs : List AV) (off : Nat) (x : AV) : Ah2 cs off [x]=cs.set off x:=rfl
@[simp] theorem Aq4 (cs : List AV) (off : Nat) (x y : AV) (zs : List AV) : Ah2 cs off (x::y::zs)=cs.take off++(x::y::zs)++cs.drop (off+(zs.length+2)):=rfl
@[simp] theorem Aq6 {α : Type} (f : α→AV) (l : List α) (cs : List AV) (h : l.length=cs.length) : Ah2 cs 0 (l.map f)=l.map f:=by
 rw [AhX _ _ _ (by simp [h])]
 simp [h]
attribute [simp] toB isB IntKind.bits IntKind.signed
attribute [simp] AqS AqR
@[simp] theorem AnW (n : Nat) (x : Int) : sOf (List.replicate n (.int .u8 x))=ofI (List.replicate n x):=by simp [sOf,ofI,ApT]
@[simp] theorem AnB (n : Nat) (x : Int) : AeO (List.replicate n (.int .u8 x))=true:=by
 induction n with
 | zero=>rfl
 | succ n ih=>exact ih
@[simp] theorem Aqs : AeO []=true:=rfl
@[simp] theorem Apk (n : Int) (l : List AV) : AeO (.int .u8 n::l)=AeO l:=rfl
attribute [simp] An3 AcI.has AnT Acu
@[simp] theorem Aqt : AfG [] []=true:=rfl
@[simp] theorem Apl (x y : AV) (xs ys : List AV) : AfG (x::xs) (y::ys)=(AkN x y&&AfG xs ys):=rfl
@[simp] theorem Aq9 (k k' : IntKind) (a b : Int) : AkN (.int k a) (.int k' b)=(a==b):=rfl
@[simp] theorem Apy (a b : Bool) : AkN (.bool a) (.bool b)=(a==b):=rfl
@[simp] theorem Aq8 (a b : ByteArray) : AkN (.str a) (.str b)=Abo a b:=rfl
theorem AnC (l : List AV) : AeO l=true↔∀ x ∈ l,∃ n,x = .int .u8 n:=by
 induction l with
 | nil=>simp [AeO]
 | cons x l ih =>
  constructor
  ·exact fun h=>AfZ h
  ·intro h
   obtain ⟨n,rfl⟩:=h x (by simp)
   simp only [AeO]
   exact ih.2 fun y hy=>h y (by simp [hy])
@[simp] theorem AnA (n : Nat) (l : List Int) : AeO ((l.map (AV.int .u8)).take n)=true:=by rw [← List.map_take,Als]
theorem AjA {S : Nat→Prop} {a b : List AV} (h : ∀ x ∈ a,x ∈ b) (hb : Abn S b) : Abn S a:=AcB.2 fun x hx=>AcB.1 hb x (h x hx)
theorem Abf {α : Type} [BEq α] [LawfulBEq α] {a b : α} (h : a=b) : (a==b)=true:=beq_iff_eq.2 h
theorem Aba {α : Type} [BEq α] [LawfulBEq α] {a b : α} (h : ¬ a=b) : (a==b)=false:=beq_eq_false_iff_ne.2 h
theorem Abd {α : Type} [BEq α] [LawfulBEq α] {a b : α} (h : ¬ a=b) : (a !=b)=true:=by simp [bne,Aba h]
theorem Abe {α : Type} [BEq α] [LawfulBEq α] {a b : α} (h : a=b) : (a !=b)=false:=by simp [bne,h]
@[simp] theorem ArL {S : Nat→Prop} {n : Nat} {l : List AV} (h : Abn S l=True) : Abn S (l.take n)=True:=eq_true (AjA (fun _=>List.mem_of_mem_take) (of_eq_true h))
@[simp] theorem Aoi {es n : Nat} {l : List AV} (h : okEls es l=True) : okEls es (l.take n)=True:=eq_true (okEls.take (of_eq_true h) n)
theorem Amg {l : List AV} (h : l.all AV.one=true) : AaM l=l:=by
 induction l with
 | nil=>rfl
 | cons x l ih =>
  simp only [List.all_cons,Bool.and_eq_true] at h
  have h1 : x.cells = [x]:=by cases x <;> simp_all [AV.cells,AV.one]
  rw [Aet,h1,ih h.2]; rfl
theorem An4 {l : List AV} {n : Nat} (h : l.all AV.one=true) : (l.take n).all AV.one=true:=List.all_eq_true.2 fun x hx=>List.all_eq_true.1 h x (List.mem_of_mem_take hx)
@[simp] theorem Aou {n : Nat} {l : List AV} (h : l.all AV.one=true) : AaM (l.take n)=l.take n:=Amg (An4 h)
def mgI {α β : Type} [BEq α] (l : List (α×β)) (k : α) : Option Nat:=l.findIdx? fun p=>k==p.1
def Atm {α β : Type} [BEq α] (l : List (α×β)) (k : α) : Option β:=(mgI l k).bind fun j=>l[j]?.map (·.2)
def Atl {α β : Type} [BEq α] (l : List (α×β)) (k : α) (v : β) : List (α×β) :=
 match mgI l k with
 | some j=>l.set j (k,v)
 | none=>l++[(k,v)]
def mpA {α β : Type} (f : α→AV) (g : β→AV) (l : List (α×β)) : List (AV×AV):=l.map fun p=>(f p.1,g p.2)
@[simp] theorem Ar6 {α β : Type} (f : α→AV) (g : β→AV) : mpA f g [] = []:=rfl
theorem Afn {α : Type} {F : α→AV} {es : Nat} (hF : ∀ x,(F x).cells.length=es) (l : List α) : (AaM (l.map F)).length=l.length*es:=by
 induction l with
 | nil=>simp
 | cons x l ih=>rw [List.map_cons,Aet,List.length_append,hF,ih,List.length_cons,Nat.succ_mul,Nat.add_comm]
theorem AlS {c : Cx} {fl : Bool} {v : Value} (h : Rep c (.lst true fl []) v) : v = .slice none 0 0:=by
 simp only [Rep] at h
 rcases h with ⟨_,h⟩ | ⟨h,_⟩
 ·exact h
 ·cases h
theorem AaF.set {c : Cx} {xs : List AV} {vs : List Value} {x y : AV} {j : Nat} (hr : AaF c xs vs) (hj : xs[j]? = some x) (hy : ∀ v,Rep c x v→Rep c y v) : AaF c (xs.set j y) vs:=by
 refine AaF.of_get (by rw [List.length_set]; exact hr.length) fun i h1 h2=>?_
 rw [List.getElem_set]
 have hi : i<xs.length:=by simpa using h1
 split
 ·rename_i e; subst e
  have:=hr.get j hi h2
  obtain ⟨_,e2⟩:=List.getElem?_eq_some_iff.1 hj
  rw [e2] at this
  exact hy _ this
 ·exact hr.get i hi h2
theorem Can.ownC {n : Nat} {c0 : Cx} {w0 : World} {s : Nat→AV} {H : Aah} {N : Nat} {T : Act→World→Prop} (id j es : Nat) (fl : Bool) {cs : List AV} (ho : H id=some (.cells cs)) (hj : cs[j]? = some (.lst true fl []))
 (h : Can n c0 w0 s (upd (upd H N (some (.grow []))) id (some (.cells (cs.set j (.slc N 0 es 0 false))))) (N+1) T) : Can n c0 w0 s H N T:=by
 intro a w ⟨cx,hr,hd,g,hu⟩
 obtain ⟨c',k1,k2,k3,k4⟩:=hr.hr.adopt (.refl cx w) (hu N (Nat.le_refl _)) (hu N (Nat.le_refl _)) (es:=es) (len:=0) (o := .grow []) (v := .slice none 0 0) (.inl ⟨rfl,rfl,_,rfl⟩)
 have hne : id≠N:=by
  rintro rfl
  obtain ⟨b,x,y,hl,_⟩:=hr.hr.live_of ho (by simp)
  rw [hu id (Nat.le_refl _)] at hl; cases hl
 have hid : upd H N (some (.grow [])) id=some (.cells cs):=by rw [Acr _ _ hne]; exact ho
 have k5:=k1.reobj id (.cells (cs.set j (.slc N 0 es 0 false))) (fun o ho' he=>by rw [hid] at ho'; cases ho'; cases he) (by rw [hid]; rfl) (fun o b base sz ho' hl hor=>by
  rw [hid] at ho'; cases ho'
  obtain ⟨cur,T,fr,vs,h1,h2,h3,h4,h5,h6⟩:=hor
  exact ⟨cur,T,fr,vs,h1,h2,h3,by rw [List.length_set]; exact h4,h5.set hj (fun v hv=>by rw [AlS hv]; exact k3),h6⟩)
 exact h a w ⟨c',⟨k5,hr.size,fun t ht=>(hr.slot t ht).mono k2.le _ _⟩,hd,g.trans k2,fun i hi=>by rw [k4 i (by omega)]; exact hu i (by omega)⟩
theorem AW.ownC {P : Program} {n : Nat} {c0 : Cx} {w0 : World} {Q : Ac5} {s : Nat→AV} {H : Aah} {N : Nat} {x : Code} (id j es : Nat) (fl : Bool) {cs : List AV} (ho : H id=some (.cells cs)) (hj : cs[j]? = some (.lst true fl []))
 (h : AW P n c0 w0 x Q s (upd (upd H N (some (.grow []))) id (some (.cells (cs.set j (.slc N 0 es 0 false))))) (N+1)) : AW P n c0 w0 x Q s H N:=Can.ownC id j es fl ho hj h
def AtM (P : Program) (f : FuncId) : Prop:=∃ fn,P.funcs[f]? = some fn∧(fn.name == "runtime.NumGoroutine")=false∧fn.body.isNone=true∧Extern.findNext fn=none∧Extern.find fn=some Go.Extern.BytealgCompare.compare
end Go.Abs
