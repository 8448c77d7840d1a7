import Derived.Test.YtomgdcnbceiggaaBazLay21
import Derived.Laws.Externs
set_option linter.unusedVariables false
set_option linter.unusedSimpArgs false
namespace Go.Abs
open Go.RowKit (Below)
def chk {α : Type} (c : Prop) [Decidable c] (x : Option α) : Option α:=if c then x else none
def idx {α β : Type} (l : List α) (i : Int) (f : α→Option β) : Option β:=if 0≤i then (match l[i.toNat]? with | some x=>f x | none=>none) else none
def Aba {α γ : Type} (x : Option α) (f : α→Option γ) : Option γ:=match x with | some a=>f a | none=>none
def AeX {α β γ : Type} (x : Option (α×β)) (f : α→β→Option γ) : Option γ:=match x with | some a=>f a.1 a.2 | none=>none
def Arn {α β δ γ : Type} (x : Option (α×β×δ)) (f : α→β→δ→Option γ) : Option γ:=match x with | some a=>f a.1 a.2.1 a.2.2 | none=>none
def Arl {α β δ ε γ : Type} (x : Option (α×β×δ×ε)) (f : α→β→δ→ε→Option γ) : Option γ:=match x with | some a=>f a.1 a.2.1 a.2.2.1 a.2.2.2 | none=>none
def AsH {α β δ ε ζ γ : Type} (x : Option (α×β×δ×ε×ζ)) (f : α→β→δ→ε→ζ→Option γ) : Option γ:=match x with | some a=>f a.1 a.2.1 a.2.2.1 a.2.2.2.1 a.2.2.2.2 | none=>none
def AsG {α β δ ε ζ η γ : Type} (x : Option (α×β×δ×ε×ζ×η)) (f : α→β→δ→ε→ζ→η→Option γ) : Option γ:=match x with | some a=>f a.1 a.2.1 a.2.2.1 a.2.2.2.1 a.2.2.2.2.1 a.2.2.2.2.2 | none=>none
def AsF {α β δ ε ζ η θ γ : Type} (x : Option (α×β×δ×ε×ζ×η×θ)) (f : α→β→δ→ε→ζ→η→θ→Option γ) : Option γ:=match x with | some a=>f a.1 a.2.1 a.2.2.1 a.2.2.2.1 a.2.2.2.2.1 a.2.2.2.2.2.1 a.2.2.2.2.2.2 | none=>none
def Aom {α β δ ε ζ η θ κ γ : Type} (x : Option (α×β×δ×ε×ζ×η×θ×κ)) (f : α→β→δ→ε→ζ→η→θ→κ→Option γ) : Option γ:=match x with | some a=>f a.1 a.2.1 a.2.2.1 a.2.2.2.1 a.2.2.2.2.1 a.2.2.2.2.2.1 a.2.2.2.2.2.2.1 a.2.2.2.2.2.2.2 | none=>none
def ApN {α γ : Type} (x : α) (f : α→Option γ) : Option γ:=f x
theorem AaJ {α : Type} {c : Prop} [Decidable c] {x : Option α} {r : α} (h : chk c x=some r) : c∧x=some r:=by
 unfold chk at h; split at h
 ·exact ⟨by assumption,h⟩
 ·cases h
theorem AaM {α β : Type} {l : List α} {i : Int} {f : α→Option β} {r : β} (h : idx l i f=some r) : ∃ x,0≤i∧i.toNat<l.length∧l[i.toNat]? = some x∧f x=some r:=by
 unfold idx at h; split at h
 ·split at h
  ·rename_i x hx
   exact ⟨x,by assumption,(List.getElem?_eq_some_iff.1 hx).1,hx,h⟩
  ·cases h
 ·cases h
theorem Afv {α : Type} {l : List α} {x : α} (h : l[Int.toNat 0]? = some x) : l.head? = some x:=by rw [List.head?_eq_getElem?]; exact h
theorem AiO {α β : Type} (f : α→β) {l : List α} {n : Nat} {x : α} (h : l[n]? = some x) : (l.map f)[n]? = some (f x):=by simp [h]
theorem Aaf {α : Type} {l : List α} {n : Nat} {x : α} (h : l[n]? = some x) : l[n]'(List.getElem?_eq_some_iff.1 h).1=x:=(List.getElem?_eq_some_iff.1 h).2
theorem AaH {α γ : Type} {x : Option α} {f : α→Option γ} {r : γ} (h : Aba x f=some r) : ∃ a,x=some a∧f a=some r:=by
 cases x with
 | none=>cases h
 | some a=>exact ⟨a,rfl,h⟩
theorem Aax {α β γ : Type} {x : Option (α×β)} {f : α→β→Option γ} {r : γ} (h : AeX x f=some r) : ∃ a b,x=some (a,b)∧f a b=some r:=by
 cases x with
 | none=>cases h
 | some a=>exact ⟨_,_,rfl,h⟩
theorem Afx {α β δ ε ζ η θ κ γ : Type} {x : Option (α×β×δ×ε×ζ×η×θ×κ)} {f : α→β→δ→ε→ζ→η→θ→κ→Option γ} {r : γ} (h : Aom x f=some r) : ∃ a b c d e g i j,x=some (a,b,c,d,e,g,i,j)∧f a b c d e g i j=some r:=by
 cases x with
 | none=>cases h
 | some a=>exact ⟨_,_,_,_,_,_,_,_,rfl,h⟩
def Ar4 {α γ : Type} (x : Option α) (f : α→Option γ) (g : Option γ) : Option γ:=match x with | some a=>f a | none=>g
theorem Ahc {α γ : Type} {x : α} {f : α→Option γ} {r : γ} (h : ApN x f=some r) : ∃ a,x=a∧f a=some r:=⟨x,rfl,h⟩
theorem AaN {α : Type} {c : Prop} [Decidable c] {x y : Option α} {r : α} (hc : c) (h : (if c then x else y)=some r) : x=some r:=by rwa [if_pos hc] at h
theorem AaO {α : Type} {c : Prop} [Decidable c] {x y : Option α} {r : α} (hc : ¬ c) (h : (if c then x else y)=some r) : y=some r:=by rwa [if_neg hc] at h
abbrev sl {α : Type} (f : α→AV) (l : List α) : AV := .lst false false (l.map f)
def ApQ (H : AaY) (ρ : Nat→Nat) : List Nat→List Aaj→Prop
 | [],[]=>True
 | j::js,o::os=>H j=some (Afn ρ o)∧ApQ H ρ js os
 | _,_=>False
theorem Ahg {H : AaY} {ρ : Nat→Nat} : ∀ {σ : List Nat} {O : List Aaj},ApQ H ρ σ O→∀ i (h : i<O.length),H (nm σ i)=some (Afn ρ O[i])
 | [],[],_,i,hi=>absurd hi (by simp)
 | j::js,o::os,h,0,_=>h.1
 | j::js,o::os,h,i+1,hi=>by
  have:=Ahg h.2 i (by simpa using hi)
  simpa [nm] using this
 | [],_::_,h,_,_=>h.elim
 | _::_,[],h,_,_=>h.elim
def Anp (W : List Nat) : List Nat→List Aaj→List (Option Aaj)→Prop
 | [],[],_=>True
 | j::js,o::os,o'::os'=>(j ∈ W∨o'=some o)∧Anp W js os os'
 | _,_,_=>False
theorem AhG {W : List Nat} : ∀ {σ : List Nat} {O : List Aaj} {O' : List (Option Aaj)},Anp W σ O O'→∀ i (h : i<O.length),nm σ i ∈ W∨nth O' i=some O[i]
 | [],[],_,_,i,hi=>absurd hi (by simp)
 | j::js,o::os,o'::os',h,0,_=>h.1
 | j::js,o::os,o'::os',h,i+1,hi=>by
  have:=AhG h.2 i (by simpa using hi)
  simpa [nm,nth] using this
 | [],_::_,_,h,_,_=>h.elim
 | _::_,[],_,h,_,_=>h.elim
 | _::_,_::_,[],h,_,_=>h.elim
def Air (H : AaY) : Nat→List (Option Aaj)→Prop
 | _,[]=>True
 | i,o::os=>H i=o∧Air H (i+1) os
theorem Afs {H : AaY} : ∀ {O : List (Option Aaj)} {j : Nat},Air H j O→∀ i,i<O.length→H (j+i)=nth O i
 | [],_,_,i,hi=>absurd hi (by simp)
 | o::os,j,h,0,_=>h.1
 | o::os,j,h,i+1,hi=>by
  have:=Afs h.2 i (by simpa using hi)
  rw [show j+(i+1)=j+1+i by omega,this]
  simp [nth]
theorem AaE {H : AaY} {O : List (Option Aaj)} (h : Air H 0 O) : ∀ i,i<O.length→H i=nth O i:=fun i hi=>by simpa using Afs h i hi
theorem Coe.fl {H : AaY} {σ : Nat→Nat} {nl fl : Bool} {xs ys : List AV} (h : xs=ys) : Coe H σ (.lst nl fl xs) (.lst false false ys) []:=h ▸ .flags
theorem Coe.l {H : AaY} {σ : Nat→Nat} {id es len : Nat} {full : Bool} {o : Aaj} {cs xs : List AV} (ho : H id=some o) (hc : o.cs? = some cs) (hel : okEls es xs) (hn : Aes xs) (hl : xs.length=len) (hcs : Aag xs=cs) : Coe H σ (.slc id 0 es len full) (.lst false false xs) [id]:=by
 cases Frz.l (id:=id) (o:=o) (full:=full) (fl:=false) (fun h=>by cases h) hel hl hcs with
 | lst _ _ _ he _=>exact .lst ho hc hel hn hl he
theorem Aal {α : Type} {l : List α} {n : Nat} (h : n<l.length) : ¬ l = []:=by rintro rfl; simp at h
section
variable {P : Program} {n : Nat} {c0 : Cx} {w0 : World} {Q : AcK} {s : Nat→AV} {H : AaY} {N : Nat}
theorem Aa6 {f : FuncId} {args : List AV} {K : CK} {args0 : List AV} {O : List Aaj} {r : AV} {O' : List (Option Aaj)} (hF : AbA P f args0 O r O') (hcal : AaT P f=true) (σ T1 W0 : List Nat) (hlen : σ.length=O.length)
 (hco : AjX H (nm σ) args args0 T1) (hO : ApQ H (nm σ) σ O) (hnd : σ.Nodup) (hσN : ∀ j ∈ σ,j<N) (hT1 : ∀ j ∈ T1,j<N∧j ∉ σ)
 (hfr : T1 = []∨(fresh r=true∧∀ o,some o ∈ O'→AgO o=true)) (hW0 : ∀ j ∈ W0,j ∈ σ) (hun : Anp W0 σ O O')
 (hk : K (ren (nm (σ++Aeb N (O'.length-O.length))) r) (Ah8 (nm (σ++Aeb N (O'.length-O.length))) H (σ++Aeb N (O'.length-O.length)) O') (N+(O'.length-O.length)) (σ++T1) (W0++Aeb N (O'.length-O.length))) : AjV P f args H N K :=
 ⟨_,_,_,_,_,fun o s g as ts caps hc ho hg ha=>Ajx hc g as ts ho f caps hg hcal hF σ T1 hlen (by rw [ha]; exact hco) (Ahg hO) hnd hσN hT1 hfr W0 hW0 (AhG hun),hk⟩
theorem AW.condT {t : Nat} {x y : Code} (ht : decide (t<n)=true) (hb : s t = .bool true) (h : AW P n c0 w0 x Q s H N) : AW P n c0 w0 (.cond (.tmp t) x y) Q s H N :=
 AW.cond ht true hb (fun _=>h) (fun e=>by cases e)
theorem AW.condF {t : Nat} {x y : Code} (ht : decide (t<n)=true) (hb : s t = .bool false) (h : AW P n c0 w0 y Q s H N) : AW P n c0 w0 (.cond (.tmp t) x y) Q s H N :=
 AW.cond ht false hb (fun e=>by cases e) (fun _=>h)
theorem AW.loopF {c : Code} {α : Type} (F : Nat→α→Prop) (L : α→List (Nat×AV)) (O : α→List (Nat×Aaj)) (M : Nat) (k : Nat) (x0 : α) (h0 : F k x0) (h1 : ∀ p ∈ L x0,s p.1=p.2) (h2 : ∀ p ∈ O x0,H p.1=some p.2) (hN : N≤M)
 (round : ∀ k x,F k x→∀ K : (Nat→AV)→AaY→Nat→Prop,(∀ s' H' N',Can n c0 w0 s' H' N' (fun a w=>∃ k' y,k'<k∧F k' y∧St n c0 w0 (mkS (L y)) (mkH (O y)) M a w)→K s' H' N') →
  AW P n c0 w0 c (AcK.then K Q) (mkS (L x)) (mkH (O x)) M) : AW P n c0 w0 (.loop c) Q s H N:=by
 classical
 intro a w hs
 let J : Nat→Act→World→Prop:=fun k a w=>∃ x,F k x∧St n c0 w0 (mkS (L x)) (mkH (O x)) M a w
 have key : ∀ k a w,J k a w→(Code.loop c).wp P (Q.real n c0 w0) a w:=by
  intro k0 a w hJ
  let μ : Act→World→Nat:=fun a w=>if h : ∃ k,J k a w then Classical.choose (AjO _ h) else 0
  have hμ : ∀ a w,(∃ k,J k a w)→J (μ a w) a w∧∀ j,J j a w→μ a w≤j:=by
   intro a w h
   have : μ a w=Classical.choose (AjO _ h):=by simp only [μ,h,dif_pos]
   rw [this]
   exact Classical.choose_spec (AjO _ h)
  refine wp_loop (fun a w=>∃ k,J k a w) μ ⟨k0,hJ⟩ ?_
  intro a w hk
  obtain ⟨x,hx,hst⟩:=(hμ a w hk).1
  refine wp_mono (round _ x hx (fun s' H' N'=>Can n c0 w0 s' H' N' (fun a' w'=>∃ k' y,k'<μ a w∧F k' y∧St n c0 w0 (mkS (L y)) (mkH (O y)) M a' w')) (fun s' H' N' h=>h) a w hst) ?_
  intro e a' w' ⟨s',H',N',q,st⟩
  cases e with
  | normal =>
   obtain ⟨k',y,k1,k2,k3⟩:=q a' w' st
   have hJy : J k' a' w':=⟨y,k2,k3⟩
   refine ⟨⟨k',hJy⟩,?_⟩
   have:=(hμ a' w' ⟨_,hJy⟩).2 _ hJy
   omega
  | _=>exact ⟨s',H',N',q,st⟩
 exact key k a w ⟨x0,h0,hs.weak (L x0) (O x0) M h1 h2 hN⟩
theorem Can.next {α : Type} {F : Nat→α→Prop} {L : α→List (Nat×AV)} {O : α→List (Nat×Aaj)} {M k k' : Nat} (y : α) (hk : k'<k) (hF : F k' y) (h1 : ∀ p ∈ L y,s p.1=p.2) (h2 : ∀ p ∈ O y,H p.1=some p.2) (hN : N≤M) :
 Can n c0 w0 s H N (fun a w=>∃ k' y,k'<k∧F k' y∧St n c0 w0 (mkS (L y)) (mkH (O y)) M a w) :=
 fun a w hs=>⟨k',y,hk,hF,hs.weak (L y) (O y) M h1 h2 hN⟩
theorem AW.midF {x y : Code} {α : Type} (F : α→Prop) (L : α→List (Nat×AV)) (O : α→List (Nat×Aaj)) (M : Nat)
 (h1 : ∀ K : (Nat→AV)→AaY→Nat→Prop,(∀ s' H' N',Can n c0 w0 s' H' N' (fun a w=>∃ z,F z∧St n c0 w0 (mkS (L z)) (mkH (O z)) M a w)→K s' H' N')→AW P n c0 w0 x (AcK.then K Q) s H N)
 (h2 : ∀ z,F z→AW P n c0 w0 y Q (mkS (L z)) (mkH (O z)) M) : AW P n c0 w0 (.seq x y) Q s H N:=by
 intro a w hs
 refine wp_seq (wp_mono (h1 (fun s' H' N'=>Can n c0 w0 s' H' N' (fun a w=>∃ z,F z∧St n c0 w0 (mkS (L z)) (mkH (O z)) M a w)) (fun _ _ _ h=>h) a w hs) fun e a w ⟨s',H',N',q,st⟩=>?_)
 cases e with
 | normal =>
  obtain ⟨z,k1,k2⟩:=q a w st
  exact h2 z k1 a w k2
 | _=>exact ⟨s',H',N',q,st⟩
theorem Can.join {α : Type} {F : α→Prop} {L : α→List (Nat×AV)} {O : α→List (Nat×Aaj)} {M : Nat} (y : α) (hF : F y) (h1 : ∀ p ∈ L y,s p.1=p.2) (h2 : ∀ p ∈ O y,H p.1=some p.2) (hN : N≤M) :
 Can n c0 w0 s H N (fun a w=>∃ y,F y∧St n c0 w0 (mkS (L y)) (mkH (O y)) M a w) :=
 fun a w hs=>⟨y,hF,hs.weak (L y) (O y) M h1 h2 hN⟩
theorem AW.wk {x : Code} (l : List (Nat×AV)) (hl : List (Nat×Aaj)) (N' : Nat) (h1 : ∀ p ∈ l,s p.1=p.2) (h2 : ∀ p ∈ hl,H p.1=some p.2) (hN : N≤N') (h : AW P n c0 w0 x Q (mkS l) (mkH hl) N') : AW P n c0 w0 x Q s H N:=AW.weak l hl N' h1 h2 hN h
theorem AW.own' {x : Code} (t : Nat) (es : Nat) (fl : Bool) (hs : s t = .lst true fl []) (ht : decide (t<n)=true) (h : AW P n c0 w0 x Q (upd s t (.slc N 0 es 0 false)) (upd H N (some (.grow []))) (N+1)) : AW P n c0 w0 x Q s H N:=Can.own t es fl hs ht h
theorem AW.frz {x : Code} (id : Nat) {o : Aaj} {cs : List AV} (ho : H id=some o) (hc : o.cs? = some cs) (l : List (Nat×AV)) (lo : List (Nat×Aaj)) (hl : Aqf id o cs s l) (hlo : ApY id o cs H lo)
 (h : AW P n c0 w0 x Q (Akh s l) (Ag9 (upd H id none) lo) N) : AW P n c0 w0 x Q s H N:=Can.freeze id ho hc l lo hl hlo h
theorem AW.flg {x : Code} (l : List (Nat×AV)) (lo : List (Nat×Aaj)) (hl : FlS s l) (hlo : FlH H lo) (hn : (lo.map (·.1)).Nodup) (h : AW P n c0 w0 x Q (Akh s l) (Ag9 H lo) N) : AW P n c0 w0 x Q s H N:=Can.flg l lo hl hlo hn h
theorem AW.rnm {x : Code} {m : Nat} (h0 : Ab1 c0 m) (ρ : List (Nat×Nat)) (l : List (Nat×AV)) (o : List (Nat×Aaj)) (M : Nat)
 (hρ1 : (ρ.map (·.2)).Nodup) (hρ2 : ∀ p ∈ ρ,p.1<M∧(p.1<m→p.1=p.2)) (hM : m≤M) (hk : o.map (·.1)=ρ.map (·.1))
 (h1 : ∀ p ∈ l,s p.1=Abs.ren (Adg ρ) p.2∧gd (fun i=>(Aec ρ i).isSome=true) p.2)
 (h2 : ∀ p ∈ o,H (Adg ρ p.1)=some (Afn (Adg ρ) p.2)∧gdO (fun i=>(Aec ρ i).isSome=true) p.2)
 (h : AW P n c0 w0 x Q (mkS l) (mkH o) M) : AW P n c0 w0 x Q s H N:=Can.ren h0 ρ l o M hρ1 hρ2 hM hk h1 h2 h
end
attribute [simp] List.take_of_length_le
@[simp] theorem AnI (σ : Nat→Nat) (cs : List AV) : Afn σ (.cells cs) = .cells (Ae2 σ cs):=rfl
@[simp] theorem AoA (σ : Nat→Nat) (cs : List AV) : Afn σ (.grow cs) = .grow (Ae2 σ cs):=rfl
@[simp] theorem AoV (S : Nat→Prop) (cs : List AV) : gdO S (.cells cs)=gdL S cs:=rfl
@[simp] theorem ApR (S : Nat→Prop) (cs : List AV) : gdO S (.grow cs)=gdL S cs:=rfl
@[simp] theorem Ala (cs : List AV) : AgO (.cells cs)=Adz cs:=rfl
@[simp] theorem AmI (cs : List AV) : AgO (.grow cs)=Adz cs:=rfl
attribute [simp] ren Ae2 gd gdL fresh Adz Ah8 ApQ Anp Air Aec Adg
@[simp] theorem AsA (a : Nat) (σ : List Nat) : nm (a::σ) 0=a:=rfl
@[simp] theorem Ar5 (a : Nat) (σ : List Nat) (i : Nat) : nm (a::σ) (i+1)=nm σ i:=by simp [nm]
@[simp] theorem Ar9 (a b : Nat) (σ : List Nat) : nm (a::b::σ) 1=b:=rfl
@[simp] theorem Ar8 (a b c : Nat) (σ : List Nat) : nm (a::b::c::σ) 2=c:=rfl
@[simp] theorem Ar7 (a b c d : Nat) (σ : List Nat) : nm (a::b::c::d::σ) 3=d:=rfl
@[simp] theorem Ar6 (a b c d e : Nat) (σ : List Nat) : nm (a::b::c::d::e::σ) 4=e:=rfl
@[simp] theorem ArV (a : Option Aaj) (σ : List (Option Aaj)) : nth (a::σ) 0=a:=rfl
@[simp] theorem ArQ (a : Option Aaj) (σ : List (Option Aaj)) (i : Nat) : nth (a::σ) (i+1)=nth σ i:=by simp [nth]
@[simp] theorem ArU (a b : Option Aaj) (σ : List (Option Aaj)) : nth (a::b::σ) 1=b:=rfl
@[simp] theorem ArT (a b c : Option Aaj) (σ : List (Option Aaj)) : nth (a::b::c::σ) 2=c:=rfl
@[simp] theorem ArS (a b c d : Option Aaj) (σ : List (Option Aaj)) : nth (a::b::c::d::σ) 3=d:=rfl
@[simp] theorem ArR (a b c d e : Option Aaj) (σ : List (Option Aaj)) : nth (a::b::c::d::e::σ) 4=e:=rfl
@[simp] theorem Ap9 (i : Nat) : nth [] i=none:=by simp [nth]
@[simp] theorem Aqp (N : Nat) : Aeb N 0 = []:=rfl
@[simp] theorem Aqo (N : Nat) : Aeb N 1 = [N]:=rfl
@[simp] theorem Aqn (N : Nat) : Aeb N 2 = [N,N+1]:=rfl
@[simp] theorem Aqm (N : Nat) : Aeb N 3 = [N,N+1,N+2]:=rfl
@[simp] theorem Aql (N : Nat) : Aeb N 4 = [N,N+1,N+2,N+3]:=rfl
def bI (b : ByteArray) : List Int:=b.data.toList.map fun x=>(x.toNat : Int)
def ofI (l : List Int) : ByteArray:=⟨(l.map fun n=>UInt8.ofNat n.toNat).toArray⟩
@[simp] theorem ApW (b : ByteArray) : bytes b.data.toList=(bI b).map (AV.int .u8):=by simp [bytes,bI]
@[simp] theorem Anb (l : List Int) : Ac4 (l.map (AV.int .u8))=true:=by
 induction l with
 | nil=>rfl
 | cons x l ih=>simpa [Ac4] using ih
@[simp] theorem ApC (l : List Int) : sOf (l.map (AV.int .u8))=ofI l:=by simp [sOf,ofI,AnH]
@[simp] theorem Aor (b : ByteArray) : (bI b).length=b.size:=by simp [bI]
theorem AjS {α : Type} (S : Nat→Prop) (f : α→AV) (l : List α) : AbH S (l.map f)↔∀ x ∈ l,idsIn S (f x):=by
 simp [AbT]
theorem AjR {α : Type} {S : Nat→Prop} {f : α→AV} (h : ∀ x,idsIn S (f x)) (l : List α) : AbH S (l.map f):=(AjS S f l).2 fun x _=>h x
theorem Aj7 {α : Type} (S : Nat→Prop) (f : α→AV) (l : List α) : gdL S (l.map f)↔∀ x ∈ l,gd S (f x):=by
 induction l with
 | nil=>simp
 | cons x l ih=>simp [ih]
theorem Aik {α : Type} (σ : Nat→Nat) (f : α→AV) (h : ∀ x,ren σ (f x)=f x) (l : List α) : Ae2 σ (l.map f)=l.map f:=by
 induction l with
 | nil=>simp
 | cons x l ih=>simp [ih,h]
@[simp] theorem ApS (S : Nat→Prop) (k : IntKind) (l : List Int) : gdL S (l.map (AV.int k))↔True:=by simp [Aj7]
@[simp] theorem AoW (S : Nat→Prop) (l : List Bool) : gdL S (l.map AV.bool)↔True:=by simp [Aj7]
@[simp] theorem AoB (σ : Nat→Nat) (k : IntKind) (l : List Int) : Ae2 σ (l.map (AV.int k))=l.map (AV.int k):=Aik _ _ (by simp) _
@[simp] theorem AnJ (σ : Nat→Nat) (l : List Bool) : Ae2 σ (l.map AV.bool)=l.map AV.bool:=Aik _ _ (by simp) _
@[simp] theorem Al4 (σ : Nat→Nat) (a b : List AV) : Ae2 σ (a++b)=Ae2 σ a++Ae2 σ b:=by
 induction a with
 | nil=>simp
 | cons x l ih=>simp [ih]
@[simp] theorem AnV (S : Nat→Prop) (a b : List AV) : gdL S (a++b)↔gdL S a∧gdL S b:=by
 induction a with
 | nil=>simp
 | cons x l ih=>simp [ih,and_assoc]
@[simp] theorem AlE (S : Nat→Prop) (a b : List AV) : AbH S (a++b)↔AbH S a∧AbH S b:=by
 induction a with
 | nil=>simp
 | cons x l ih=>simp [ih,and_assoc]
theorem Ahs {α : Type} [BEq α] (f : α→AV) (h : ∀ x y,Ahv (f x) (f y)=(x==y)) : ∀ (l m : List α),Ac2 (l.map f) (m.map f)=(l==m)
 | [],[]=>rfl
 | [],_::_=>rfl
 | _::_,[]=>rfl
 | x::l,y::m=>by simp [Ac2,h,Ahs f h l m]
@[simp] theorem AiW (l m : List Bool) : Ac2 (l.map AV.bool) (m.map AV.bool)=(l==m):=Ahs _ (fun x y=>rfl) l m
def toB : AV→Bool
 | .bool b=>b
 | _=>false
def isB : AV→Bool
 | .bool _=>true
 | _=>false
def toI : AV→Int
 | .int _ n=>n
 | _=>0
def isI : AV→Bool
 | .int _ _=>true
 | _=>false
theorem unB : ∀ (ys : List AV),ys.all isB=true→ys=(ys.map toB).map AV.bool
 | [],_=>rfl
 | y::ys,h=>by
  simp only [List.all_cons,Bool.and_eq_true] at h
  have ih:=unB ys h.2
  cases y <;> simp [isB] at h
  simp only [List.map_cons,toB]
  rw [← ih]
theorem AlQ (l : List Bool) (ys : List AV) (h : ys.all isB=true) : Ac2 (l.map AV.bool) ys=(l==ys.map toB):=by
 rw [← AiW,← unB ys h]
theorem AdR {α : Type} {l : List α} {n : Nat} (h : l.length=n) (hn : 0<n) : ¬ l = []:=by rintro rfl; simp at h; omega
@[simp] theorem AnC (l : List Bool) (y : Bool) (ys : List AV) (h : ys.all isB=true) : Ac2 (l.map AV.bool) (.bool y::ys)=(l==y::ys.map toB):=by
 rw [AlQ _ _ (by rw [List.all_cons,h]; rfl)]; rfl
@[simp] theorem Ao7 (cs : List AV) (off : Nat) (x : AV) : Af0 cs off [x]=cs.set off x:=rfl
@[simp] theorem Ao6 (cs : List AV) (off : Nat) (x y : AV) (zs : List AV) : Af0 cs off (x::y::zs)=cs.take off++(x::y::zs)++cs.drop (off+(zs.length+2)):=rfl
@[simp] theorem Ao8 {α : Type} (f : α→AV) (l : List α) (cs : List AV) (h : l.length=cs.length) : Af0 cs 0 (l.map f)=l.map f:=by
 rw [Afg _ _ _ (by simp [h])]
 simp [h]
attribute [simp] toB isB IntKind.bits IntKind.signed
attribute [simp] AoO AoN
@[simp] theorem ApK {α : Type} [BEq α] (a b : α) : (!(a !=b))=(a==b):=by simp [bne]
@[simp] theorem Aku (n : Nat) (x : Int) : sOf (List.replicate n (.int .u8 x))=ofI (List.replicate n x):=by simp [sOf,ofI,AnH]
@[simp] theorem Akc (n : Nat) (x : Int) : Ac4 (List.replicate n (.int .u8 x))=true:=by
 induction n with
 | zero=>rfl
 | succ n ih=>exact ih
@[simp] theorem Aot : Ac4 []=true:=rfl
@[simp] theorem Anc (n : Int) (l : List AV) : Ac4 (.int .u8 n::l)=Ac4 l:=rfl
attribute [simp] AlN Abg.has Akr Abp
@[simp] theorem Aou : Ac2 [] []=true:=rfl
@[simp] theorem Ane (x y : AV) (xs ys : List AV) : Ac2 (x::xs) (y::ys)=(Ahv x y&&Ac2 xs ys):=rfl
@[simp] theorem ApB (k k' : IntKind) (a b : Int) : Ahv (.int k a) (.int k' b)=(a==b):=rfl
@[simp] theorem Ant (a b : Bool) : Ahv (.bool a) (.bool b)=(a==b):=rfl
@[simp] theorem ApA (a b : ByteArray) : Ahv (.str a) (.str b)=Acj a b:=rfl
theorem Akd (l : List AV) : Ac4 l=true↔∀ x ∈ l,∃ n,x = .int .u8 n:=by
 induction l with
 | nil=>simp [Ac4]
 | cons x l ih =>
  constructor
  ·exact fun h=>Ad5 h
  ·intro h
   obtain ⟨n,rfl⟩:=h x (by simp)
   simp only [Ac4]
   exact ih.2 fun y hy=>h y (by simp [hy])
theorem Ag1 {S : Nat→Prop} {a b : List AV} (h : ∀ x ∈ a,x ∈ b) (hb : AbH S b) : AbH S a:=AbT.2 fun x hx=>AbT.1 hb x (h x hx)
theorem AbY {α : Type} [BEq α] [LawfulBEq α] {a b : α} (h : a=b) : (a==b)=true:=beq_iff_eq.2 h
theorem AbR {α : Type} [BEq α] [LawfulBEq α] {a b : α} (h : ¬ a=b) : (a==b)=false:=beq_eq_false_iff_ne.2 h
theorem AbW {α : Type} [BEq α] [LawfulBEq α] {a b : α} (h : ¬ a=b) : (a !=b)=true:=by simp [bne,AbR h]
theorem AbX {α : Type} [BEq α] [LawfulBEq α] {a b : α} (h : a=b) : (a !=b)=false:=by simp [bne,h]
@[simp] theorem ApP {S : Nat→Prop} {n : Nat} {l : List AV} (h : AbH S l=True) : AbH S (l.take n)=True:=eq_true (Ag1 (fun _=>List.mem_of_mem_take) (of_eq_true h))
def mgI {α β : Type} [BEq α] (l : List (α×β)) (k : α) : Option Nat:=l.findIdx? fun p=>k==p.1
def AsD {α β : Type} [BEq α] (l : List (α×β)) (k : α) : Option β:=(mgI l k).bind fun j=>l[j]?.map (·.2)
def AsB {α β : Type} [BEq α] (l : List (α×β)) (k : α) (v : β) : List (α×β) :=
 match mgI l k with
 | some j=>l.set j (k,v)
 | none=>l++[(k,v)]
def mpA {α β : Type} (f : α→AV) (g : β→AV) (l : List (α×β)) : List (AV×AV):=l.map fun p=>(f p.1,g p.2)
@[simp] theorem AqA {α β : Type} (f : α→AV) (g : β→AV) : mpA f g [] = []:=rfl
theorem AaB.set {c : Cx} {xs : List AV} {vs : List Value} {x y : AV} {j : Nat} (hr : AaB c xs vs) (hj : xs[j]? = some x) (hy : ∀ v,Rep c x v→Rep c y v) : AaB c (xs.set j y) vs:=by
 refine AaB.of_get (by rw [List.length_set]; exact hr.length) fun i h1 h2=>?_
 rw [List.getElem_set]
 have hi : i<xs.length:=by simpa using h1
 split
 ·rename_i e; subst e
  have:=hr.get j hi h2
  obtain ⟨_,e2⟩:=List.getElem?_eq_some_iff.1 hj
  rw [e2] at this
  exact hy _ this
 ·exact hr.get i hi h2
def Arr (P : Program) (f : FuncId) : Prop:=∃ fn,P.funcs[f]? = some fn∧(fn.name == "runtime.NumGoroutine")=false∧fn.body.isNone=true∧Extern.findNext fn=none∧Extern.find fn=some Go.Extern.BytealgCompare.compare
end Go.Abs
