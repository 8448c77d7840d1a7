import Derived.Test.YtomgdcnbceiggaaRazLay21
import Derived.Laws.Externs
set_option linter.unusedVariables false
set_option linter.unusedSimpArgs false
namespace Go.Abs
open Go.RowKit (Below)
def chk {α : Type} (c : Prop) [Decidable c] (x : Option α) : Option α:=if c then x else none
def idx {α β : Type} (l : List α) (i : Int) (f : α→Option β) : Option β:=if 0≤i then (match l[i.toNat]? with | some x=>f x | none=>none) else none
def Abn {α γ : Type} (x : Option α) (f : α→Option γ) : Option γ:=match x with | some a=>f a | none=>none
def AeN {α β γ : Type} (x : Option (α×β)) (f : α→β→Option γ) : Option γ:=match x with | some a=>f a.1 a.2 | none=>none
def Am0 {α β δ γ : Type} (x : Option (α×β×δ)) (f : α→β→δ→Option γ) : Option γ:=match x with | some a=>f a.1 a.2.1 a.2.2 | none=>none
def Amz {α β δ ε γ : Type} (x : Option (α×β×δ×ε)) (f : α→β→δ→ε→Option γ) : Option γ:=match x with | some a=>f a.1 a.2.1 a.2.2.1 a.2.2.2 | none=>none
def AnJ {α β δ ε ζ γ : Type} (x : Option (α×β×δ×ε×ζ)) (f : α→β→δ→ε→ζ→Option γ) : Option γ:=match x with | some a=>f a.1 a.2.1 a.2.2.1 a.2.2.2.1 a.2.2.2.2 | none=>none
def AnI {α β δ ε ζ η γ : Type} (x : Option (α×β×δ×ε×ζ×η)) (f : α→β→δ→ε→ζ→η→Option γ) : Option γ:=match x with | some a=>f a.1 a.2.1 a.2.2.1 a.2.2.2.1 a.2.2.2.2.1 a.2.2.2.2.2 | none=>none
def AnH {α β δ ε ζ η θ γ : Type} (x : Option (α×β×δ×ε×ζ×η×θ)) (f : α→β→δ→ε→ζ→η→θ→Option γ) : Option γ:=match x with | some a=>f a.1 a.2.1 a.2.2.1 a.2.2.2.1 a.2.2.2.2.1 a.2.2.2.2.2.1 a.2.2.2.2.2.2 | none=>none
def Ak4 {α β δ ε ζ η θ κ γ : Type} (x : Option (α×β×δ×ε×ζ×η×θ×κ)) (f : α→β→δ→ε→ζ→η→θ→κ→Option γ) : Option γ:=match x with | some a=>f a.1 a.2.1 a.2.2.1 a.2.2.2.1 a.2.2.2.2.1 a.2.2.2.2.2.1 a.2.2.2.2.2.2.1 a.2.2.2.2.2.2.2 | none=>none
def Al9 {α γ : Type} (x : α) (f : α→Option γ) : Option γ:=f x
theorem AbH {α : Type} {c : Prop} [Decidable c] {x : Option α} {r : α} (h : chk c x=some r) : c∧x=some r:=by
 unfold chk at h; split at h
 ·exact ⟨by assumption,h⟩
 ·cases h
theorem Aab {α β : Type} {l : List α} {i : Int} {f : α→Option β} {r : β} (h : idx l i f=some r) : ∃ x,0≤i∧i.toNat<l.length∧l[i.toNat]? = some x∧f x=some r:=by
 unfold idx at h; split at h
 ·split at h
  ·rename_i x hx
   exact ⟨x,by assumption,(List.getElem?_eq_some_iff.1 hx).1,hx,h⟩
  ·cases h
 ·cases h
theorem AiE {α : Type} {l : List α} {x : α} (h : l[Int.toNat 0]? = some x) : l.head? = some x:=by rw [List.head?_eq_getElem?]; exact h
theorem Ah9 {α β : Type} (f : α→β) {l : List α} {n : Nat} {x : α} (h : l[n]? = some x) : (l.map f)[n]? = some (f x):=by simp [h]
theorem Aaw {α : Type} {l : List α} {n : Nat} {x : α} (h : l[n]? = some x) : l[n]'(List.getElem?_eq_some_iff.1 h).1=x:=(List.getElem?_eq_some_iff.1 h).2
theorem AaD {α γ : Type} {x : Option α} {f : α→Option γ} {r : γ} (h : Abn x f=some r) : ∃ a,x=some a∧f a=some r:=by
 cases x with
 | none=>cases h
 | some a=>exact ⟨a,rfl,h⟩
theorem Aak {α β γ : Type} {x : Option (α×β)} {f : α→β→Option γ} {r : γ} (h : AeN x f=some r) : ∃ a b,x=some (a,b)∧f a b=some r:=by
 cases x with
 | none=>cases h
 | some a=>exact ⟨_,_,rfl,h⟩
theorem Aej {α β δ ε ζ η θ κ γ : Type} {x : Option (α×β×δ×ε×ζ×η×θ×κ)} {f : α→β→δ→ε→ζ→η→θ→κ→Option γ} {r : γ} (h : Ak4 x f=some r) : ∃ a b c d e g i j,x=some (a,b,c,d,e,g,i,j)∧f a b c d e g i j=some r:=by
 cases x with
 | none=>cases h
 | some a=>exact ⟨_,_,_,_,_,_,_,_,rfl,h⟩
def Am7 {α γ : Type} (x : Option α) (f : α→Option γ) (g : Option γ) : Option γ:=match x with | some a=>f a | none=>g
theorem AiC {α γ : Type} {x : α} {f : α→Option γ} {r : γ} (h : Al9 x f=some r) : ∃ a,x=a∧f a=some r:=⟨x,rfl,h⟩
theorem AaF {α : Type} {c : Prop} [Decidable c] {x y : Option α} {r : α} (hc : c) (h : (if c then x else y)=some r) : x=some r:=by rwa [if_pos hc] at h
theorem AaG {α : Type} {c : Prop} [Decidable c] {x y : Option α} {r : α} (hc : ¬ c) (h : (if c then x else y)=some r) : y=some r:=by rwa [if_neg hc] at h
abbrev sl {α : Type} (f : α→AV) (l : List α) : AV := .lst false false (l.map f)
def AlZ (H : AaI) (ρ : Nat→Nat) : List Nat→List AaQ→Prop
 | [],[]=>True
 | j::js,o::os=>H j=some (Aeb ρ o)∧AlZ H ρ js os
 | _,_=>False
theorem Af8 {H : AaI} {ρ : Nat→Nat} : ∀ {σ : List Nat} {O : List AaQ},AlZ H ρ σ O→∀ i (h : i<O.length),H (nm σ i)=some (Aeb ρ O[i])
 | [],[],_,i,hi=>absurd hi (by simp)
 | j::js,o::os,h,0,_=>h.1
 | j::js,o::os,h,i+1,hi=>by
  have:=Af8 h.2 i (by simpa using hi)
  simpa [nm] using this
 | [],_::_,h,_,_=>h.elim
 | _::_,[],h,_,_=>h.elim
def AkU (W : List Nat) : List Nat→List AaQ→List (Option AaQ)→Prop
 | [],[],_=>True
 | j::js,o::os,o'::os'=>(j ∈ W∨o'=some o)∧AkU W js os os'
 | _,_,_=>False
theorem Afn {W : List Nat} : ∀ {σ : List Nat} {O : List AaQ} {O' : List (Option AaQ)},AkU W σ O O'→∀ i (h : i<O.length),nm σ i ∈ W∨nth O' i=some O[i]
 | [],[],_,_,i,hi=>absurd hi (by simp)
 | j::js,o::os,o'::os',h,0,_=>h.1
 | j::js,o::os,o'::os',h,i+1,hi=>by
  have:=Afn h.2 i (by simpa using hi)
  simpa [nm,nth] using this
 | [],_::_,_,h,_,_=>h.elim
 | _::_,[],_,h,_,_=>h.elim
 | _::_,_::_,[],h,_,_=>h.elim
def AhB (H : AaI) : Nat→List (Option AaQ)→Prop
 | _,[]=>True
 | i,o::os=>H i=o∧AhB H (i+1) os
theorem Aef {H : AaI} : ∀ {O : List (Option AaQ)} {j : Nat},AhB H j O→∀ i,i<O.length→H (j+i)=nth O i
 | [],_,_,i,hi=>absurd hi (by simp)
 | o::os,j,h,0,_=>h.1
 | o::os,j,h,i+1,hi=>by
  have:=Aef h.2 i (by simpa using hi)
  rw [show j+(i+1)=j+1+i by omega,this]
  simp [nth]
theorem AaB {H : AaI} {O : List (Option AaQ)} (h : AhB H 0 O) : ∀ i,i<O.length→H i=nth O i:=fun i hi=>by simpa using Aef h i hi
theorem Coe.fl {H : AaI} {σ : Nat→Nat} {nl fl : Bool} {xs ys : List AV} (h : xs=ys) : Coe H σ (.lst nl fl xs) (.lst false false ys) []:=h ▸ .flags
theorem Coe.l {H : AaI} {σ : Nat→Nat} {id es len : Nat} {full : Bool} {o : AaQ} {cs xs : List AV} (ho : H id=some o) (hc : o.cs? = some cs) (hel : okEls es xs) (hn : Ad9 xs) (hl : xs.length=len) (hcs : AaO xs=cs) : Coe H σ (.slc id 0 es len full) (.lst false false xs) [id]:=by
 cases Frz.l (id:=id) (o:=o) (full:=full) (fl:=false) (fun h=>by cases h) hel hl hcs with
 | lst _ _ _ he _=>exact .lst ho hc hel hn hl he
theorem Ac8 {α : Type} {l : List α} {n : Nat} (h : n<l.length) : ¬ l = []:=by rintro rfl; simp at h
section
variable {P : Program} {n : Nat} {c0 : Cx} {w0 : World} {Q : Abo} {s : Nat→AV} {H : AaI} {N : Nat}
theorem Aa5 {f : FuncId} {args : List AV} {K : CK} {args0 : List AV} {O : List AaQ} {r : AV} {O' : List (Option AaQ)} (hF : Aa0 P f args0 O r O') (hcal : AaN P f=true) (σ T1 W0 : List Nat) (hlen : σ.length=O.length)
 (hco : Ahm H (nm σ) args args0 T1) (hO : AlZ H (nm σ) σ O) (hnd : σ.Nodup) (hσN : ∀ j ∈ σ,j<N) (hT1 : ∀ j ∈ T1,j<N∧j ∉ σ)
 (hfr : T1 = []∨(fresh r=true∧∀ o,some o ∈ O'→Ae6 o=true)) (hW0 : ∀ j ∈ W0,j ∈ σ) (hun : AkU W0 σ O O')
 (hk : K (ren (nm (σ++AdY N (O'.length-O.length))) r) (AgX (nm (σ++AdY N (O'.length-O.length))) H (σ++AdY N (O'.length-O.length)) O') (N+(O'.length-O.length)) (σ++T1) (W0++AdY N (O'.length-O.length))) : Ahk P f args H N K :=
 ⟨_,_,_,_,_,fun o s g as ts caps hc ho hg ha=>Ah4 hc g as ts ho f caps hg hcal hF σ T1 hlen (by rw [ha]; exact hco) (Af8 hO) hnd hσN hT1 hfr W0 hW0 (Afn hun),hk⟩
theorem AW.condT {t : Nat} {x y : Code} (ht : decide (t<n)=true) (hb : s t = .bool true) (h : AW P n c0 w0 x Q s H N) : AW P n c0 w0 (.cond (.tmp t) x y) Q s H N :=
 AW.cond ht true hb (fun _=>h) (fun e=>by cases e)
theorem AW.condF {t : Nat} {x y : Code} (ht : decide (t<n)=true) (hb : s t = .bool false) (h : AW P n c0 w0 y Q s H N) : AW P n c0 w0 (.cond (.tmp t) x y) Q s H N :=
 AW.cond ht false hb (fun e=>by cases e) (fun _=>h)
theorem AW.loopF {c : Code} {α : Type} (F : Nat→α→Prop) (L : α→List (Nat×AV)) (O : α→List (Nat×AaQ)) (M : Nat) (k : Nat) (x0 : α) (h0 : F k x0) (h1 : ∀ p ∈ L x0,s p.1=p.2) (h2 : ∀ p ∈ O x0,H p.1=some p.2) (hN : N≤M)
 (round : ∀ k x,F k x→∀ K : (Nat→AV)→AaI→Nat→Prop,(∀ s' H' N',Can n c0 w0 s' H' N' (fun a w=>∃ k' y,k'<k∧F k' y∧St n c0 w0 (mkS (L y)) (mkH (O y)) M a w)→K s' H' N') →
  AW P n c0 w0 c (Abo.then K Q) (mkS (L x)) (mkH (O x)) M) : AW P n c0 w0 (.loop c) Q s H N:=by
 classical
 intro a w hs
 let J : Nat→Act→World→Prop:=fun k a w=>∃ x,F k x∧St n c0 w0 (mkS (L x)) (mkH (O x)) M a w
 have key : ∀ k a w,J k a w→(Code.loop c).wp P (Q.real n c0 w0) a w:=by
  intro k0 a w hJ
  let μ : Act→World→Nat:=fun a w=>if h : ∃ k,J k a w then Classical.choose (Ahe _ h) else 0
  have hμ : ∀ a w,(∃ k,J k a w)→J (μ a w) a w∧∀ j,J j a w→μ a w≤j:=by
   intro a w h
   have : μ a w=Classical.choose (Ahe _ h):=by simp only [μ,h,dif_pos]
   rw [this]
   exact Classical.choose_spec (Ahe _ h)
  refine wp_loop (fun a w=>∃ k,J k a w) μ ⟨k0,hJ⟩ ?_
  intro a w hk
  obtain ⟨x,hx,hst⟩:=(hμ a w hk).1
  refine wp_mono (round _ x hx (fun s' H' N'=>Can n c0 w0 s' H' N' (fun a' w'=>∃ k' y,k'<μ a w∧F k' y∧St n c0 w0 (mkS (L y)) (mkH (O y)) M a' w')) (fun s' H' N' h=>h) a w hst) ?_
  intro e a' w' ⟨s',H',N',q,st⟩
  cases e with
  | normal =>
   obtain ⟨k',y,k1,k2,k3⟩:=q a' w' st
   have hJy : J k' a' w':=⟨y,k2,k3⟩
   refine ⟨⟨k',hJy⟩,?_⟩
   have:=(hμ a' w' ⟨_,hJy⟩).2 _ hJy
   omega
  | _=>exact ⟨s',H',N',q,st⟩
 exact key k a w ⟨x0,h0,hs.weak (L x0) (O x0) M h1 h2 hN⟩
theorem Can.next {α : Type} {F : Nat→α→Prop} {L : α→List (Nat×AV)} {O : α→List (Nat×AaQ)} {M k k' : Nat} (y : α) (hk : k'<k) (hF : F k' y) (h1 : ∀ p ∈ L y,s p.1=p.2) (h2 : ∀ p ∈ O y,H p.1=some p.2) (hN : N≤M) :
 Can n c0 w0 s H N (fun a w=>∃ k' y,k'<k∧F k' y∧St n c0 w0 (mkS (L y)) (mkH (O y)) M a w) :=
 fun a w hs=>⟨k',y,hk,hF,hs.weak (L y) (O y) M h1 h2 hN⟩
theorem AW.midF {x y : Code} {α : Type} (F : α→Prop) (L : α→List (Nat×AV)) (O : α→List (Nat×AaQ)) (M : Nat)
 (h1 : ∀ K : (Nat→AV)→AaI→Nat→Prop,(∀ s' H' N',Can n c0 w0 s' H' N' (fun a w=>∃ z,F z∧St n c0 w0 (mkS (L z)) (mkH (O z)) M a w)→K s' H' N')→AW P n c0 w0 x (Abo.then K Q) s H N)
 (h2 : ∀ z,F z→AW P n c0 w0 y Q (mkS (L z)) (mkH (O z)) M) : AW P n c0 w0 (.seq x y) Q s H N:=by
 intro a w hs
 refine wp_seq (wp_mono (h1 (fun s' H' N'=>Can n c0 w0 s' H' N' (fun a w=>∃ z,F z∧St n c0 w0 (mkS (L z)) (mkH (O z)) M a w)) (fun _ _ _ h=>h) a w hs) fun e a w ⟨s',H',N',q,st⟩=>?_)
 cases e with
 | normal =>
  obtain ⟨z,k1,k2⟩:=q a w st
  exact h2 z k1 a w k2
 | _=>exact ⟨s',H',N',q,st⟩
theorem Can.join {α : Type} {F : α→Prop} {L : α→List (Nat×AV)} {O : α→List (Nat×AaQ)} {M : Nat} (y : α) (hF : F y) (h1 : ∀ p ∈ L y,s p.1=p.2) (h2 : ∀ p ∈ O y,H p.1=some p.2) (hN : N≤M) :
 Can n c0 w0 s H N (fun a w=>∃ y,F y∧St n c0 w0 (mkS (L y)) (mkH (O y)) M a w) :=
 fun a w hs=>⟨y,hF,hs.weak (L y) (O y) M h1 h2 hN⟩
theorem AW.wk {x : Code} (l : List (Nat×AV)) (hl : List (Nat×AaQ)) (N' : Nat) (h1 : ∀ p ∈ l,s p.1=p.2) (h2 : ∀ p ∈ hl,H p.1=some p.2) (hN : N≤N') (h : AW P n c0 w0 x Q (mkS l) (mkH hl) N') : AW P n c0 w0 x Q s H N:=AW.weak l hl N' h1 h2 hN h
theorem AW.own' {x : Code} (t : Nat) (es : Nat) (fl : Bool) (hs : s t = .lst true fl []) (ht : decide (t<n)=true) (h : AW P n c0 w0 x Q (upd s t (.slc N 0 es 0 false)) (upd H N (some (.grow []))) (N+1)) : AW P n c0 w0 x Q s H N:=Can.own t es fl hs ht h
theorem AW.frz {x : Code} (id : Nat) {o : AaQ} {cs : List AV} (ho : H id=some o) (hc : o.cs? = some cs) (l : List (Nat×AV)) (lo : List (Nat×AaQ)) (hl : AmW id o cs s l) (hlo : Ali id o cs H lo)
 (h : AW P n c0 w0 x Q (Aif s l) (Afh (upd H id none) lo) N) : AW P n c0 w0 x Q s H N:=Can.freeze id ho hc l lo hl hlo h
theorem AW.flg {x : Code} (l : List (Nat×AV)) (lo : List (Nat×AaQ)) (hl : FlS s l) (hlo : FlH H lo) (hn : (lo.map (·.1)).Nodup) (h : AW P n c0 w0 x Q (Aif s l) (Afh H lo) N) : AW P n c0 w0 x Q s H N:=Can.flg l lo hl hlo hn h
theorem AW.rnm {x : Code} {m : Nat} (h0 : AbT c0 m) (ρ : List (Nat×Nat)) (l : List (Nat×AV)) (o : List (Nat×AaQ)) (M : Nat)
 (hρ1 : (ρ.map (·.2)).Nodup) (hρ2 : ∀ p ∈ ρ,p.1<M∧(p.1<m→p.1=p.2)) (hM : m≤M) (hk : o.map (·.1)=ρ.map (·.1))
 (h1 : ∀ p ∈ l,s p.1=Abs.ren (Acn ρ) p.2∧gd (fun i=>(AdZ ρ i).isSome=true) p.2)
 (h2 : ∀ p ∈ o,H (Acn ρ p.1)=some (Aeb (Acn ρ) p.2)∧gdO (fun i=>(AdZ ρ i).isSome=true) p.2)
 (h : AW P n c0 w0 x Q (mkS l) (mkH o) M) : AW P n c0 w0 x Q s H N:=Can.ren h0 ρ l o M hρ1 hρ2 hM hk h1 h2 h
end
attribute [simp] List.take_of_length_le
@[simp] theorem Aj4 (σ : Nat→Nat) (cs : List AV) : Aeb σ (.cells cs) = .cells (Adx σ cs):=rfl
@[simp] theorem AkX (σ : Nat→Nat) (cs : List AV) : Aeb σ (.grow cs) = .grow (Adx σ cs):=rfl
@[simp] theorem Akq (S : Nat→Prop) (cs : List AV) : gdO S (.cells cs)=gdL S cs:=rfl
@[simp] theorem Ala (S : Nat→Prop) (cs : List AV) : gdO S (.grow cs)=gdL S cs:=rfl
@[simp] theorem AjM (cs : List AV) : Ae6 (.cells cs)=Ac1 cs:=rfl
@[simp] theorem Ajg (cs : List AV) : Ae6 (.grow cs)=Ac1 cs:=rfl
attribute [simp] ren Adx gd gdL fresh Ac1 AgX AlZ AkU AhB AdZ Acn
@[simp] theorem AnD (a : Nat) (σ : List Nat) : nm (a::σ) 0=a:=rfl
@[simp] theorem Am8 (a : Nat) (σ : List Nat) (i : Nat) : nm (a::σ) (i+1)=nm σ i:=by simp [nm]
@[simp] theorem AnC (a b : Nat) (σ : List Nat) : nm (a::b::σ) 1=b:=rfl
@[simp] theorem AnB (a b c : Nat) (σ : List Nat) : nm (a::b::c::σ) 2=c:=rfl
@[simp] theorem AnA (a b c d : Nat) (σ : List Nat) : nm (a::b::c::d::σ) 3=d:=rfl
@[simp] theorem Am9 (a b c d e : Nat) (σ : List Nat) : nm (a::b::c::d::e::σ) 4=e:=rfl
@[simp] theorem Amx (a : Option AaQ) (σ : List (Option AaQ)) : nth (a::σ) 0=a:=rfl
@[simp] theorem Ams (a : Option AaQ) (σ : List (Option AaQ)) (i : Nat) : nth (a::σ) (i+1)=nth σ i:=by simp [nth]
@[simp] theorem Amw (a b : Option AaQ) (σ : List (Option AaQ)) : nth (a::b::σ) 1=b:=rfl
@[simp] theorem Amv (a b c : Option AaQ) (σ : List (Option AaQ)) : nth (a::b::c::σ) 2=c:=rfl
@[simp] theorem Amu (a b c d : Option AaQ) (σ : List (Option AaQ)) : nth (a::b::c::d::σ) 3=d:=rfl
@[simp] theorem Amt (a b c d e : Option AaQ) (σ : List (Option AaQ)) : nth (a::b::c::d::e::σ) 4=e:=rfl
@[simp] theorem Al5 (i : Nat) : nth [] i=none:=by simp [nth]
@[simp] theorem Amh (N : Nat) : AdY N 0 = []:=rfl
@[simp] theorem Amg (N : Nat) : AdY N 1 = [N]:=rfl
@[simp] theorem Amf (N : Nat) : AdY N 2 = [N,N+1]:=rfl
@[simp] theorem Ame (N : Nat) : AdY N 3 = [N,N+1,N+2]:=rfl
@[simp] theorem Amd (N : Nat) : AdY N 4 = [N,N+1,N+2,N+3]:=rfl
def bI (b : ByteArray) : List Int:=b.data.toList.map fun x=>(x.toNat : Int)
def ofI (l : List Int) : ByteArray:=⟨(l.map fun n=>UInt8.ofNat n.toNat).toArray⟩
theorem Ahi {α : Type} (S : Nat→Prop) (f : α→AV) (l : List α) : Aat S (l.map f)↔∀ x ∈ l,idsIn S (f x):=by
 simp [Aav]
theorem Ahh {α : Type} {S : Nat→Prop} {f : α→AV} (h : ∀ x,idsIn S (f x)) (l : List α) : Aat S (l.map f):=(Ahi S f l).2 fun x _=>h x
theorem AiF {α : Type} (S : Nat→Prop) (f : α→AV) (l : List α) : gdL S (l.map f)↔∀ x ∈ l,gd S (f x):=by
 induction l with
 | nil=>simp
 | cons x l ih=>simp [ih]
theorem Ag4 {α : Type} (σ : Nat→Nat) (f : α→AV) (h : ∀ x,ren σ (f x)=f x) (l : List α) : Adx σ (l.map f)=l.map f:=by
 induction l with
 | nil=>simp
 | cons x l ih=>simp [ih,h]
@[simp] theorem Alb (S : Nat→Prop) (k : IntKind) (l : List Int) : gdL S (l.map (AV.int k))↔True:=by simp [AiF]
@[simp] theorem Akr (S : Nat→Prop) (l : List Bool) : gdL S (l.map AV.bool)↔True:=by simp [AiF]
@[simp] theorem AkY (σ : Nat→Nat) (k : IntKind) (l : List Int) : Adx σ (l.map (AV.int k))=l.map (AV.int k):=Ag4 _ _ (by simp) _
@[simp] theorem Aj5 (σ : Nat→Nat) (l : List Bool) : Adx σ (l.map AV.bool)=l.map AV.bool:=Ag4 _ _ (by simp) _
@[simp] theorem AjU (σ : Nat→Nat) (a b : List AV) : Adx σ (a++b)=Adx σ a++Adx σ b:=by
 induction a with
 | nil=>simp
 | cons x l ih=>simp [ih]
@[simp] theorem AkF (S : Nat→Prop) (a b : List AV) : gdL S (a++b)↔gdL S a∧gdL S b:=by
 induction a with
 | nil=>simp
 | cons x l ih=>simp [ih,and_assoc]
theorem AgK {α : Type} [BEq α] (f : α→AV) (h : ∀ x y,AgN (f x) (f y)=(x==y)) : ∀ (l m : List α),AcI (l.map f) (m.map f)=(l==m)
 | [],[]=>rfl
 | [],_::_=>rfl
 | _::_,[]=>rfl
 | x::l,y::m=>by simp [AcI,h,AgK f h l m]
@[simp] theorem Agv (l m : List Bool) : AcI (l.map AV.bool) (m.map AV.bool)=(l==m):=AgK _ (fun x y=>rfl) l m
def toB : AV→Bool
 | .bool b=>b
 | _=>false
def isB : AV→Bool
 | .bool _=>true
 | _=>false
def toI : AV→Int
 | .int _ n=>n
 | _=>0
def isI : AV→Bool
 | .int _ _=>true
 | _=>false
theorem unB : ∀ (ys : List AV),ys.all isB=true→ys=(ys.map toB).map AV.bool
 | [],_=>rfl
 | y::ys,h=>by
  simp only [List.all_cons,Bool.and_eq_true] at h
  have ih:=unB ys h.2
  cases y <;> simp [isB] at h
  simp only [List.map_cons,toB]
  rw [← ih]
theorem AjE (l : List Bool) (ys : List AV) (h : ys.all isB=true) : AcI (l.map AV.bool) ys=(l==ys.map toB):=by
 rw [← Agv,← unB ys h]
theorem Af2 {α : Type} {l : List α} {n : Nat} (h : l.length=n) (hn : 0<n) : ¬ l = []:=by rintro rfl; simp at h; omega
@[simp] theorem Ajx (l : List Bool) (y : Bool) (ys : List AV) (h : ys.all isB=true) : AcI (l.map AV.bool) (.bool y::ys)=(l==y::ys.map toB):=by
 rw [AjE _ _ (by rw [List.all_cons,h]; rfl)]; rfl
@[simp] theorem AlI (cs : List AV) (off : Nat) (x : AV) : Aem cs off [x]=cs.set off x:=rfl
@[simp] theorem AlH (cs : List AV) (off : Nat) (x y : AV) (zs : List AV) : Aem cs off (x::y::zs)=cs.take off++(x::y::zs)++cs.drop (off+(zs.length+2)):=rfl
@[simp] theorem AlJ {α : Type} (f : α→AV) (l : List α) (cs : List AV) (h : l.length=cs.length) : Aem cs 0 (l.map f)=l.map f:=by
 rw [AeV _ _ _ (by simp [h])]
 simp [h]
attribute [simp] toB isB IntKind.bits IntKind.signed
attribute [simp] Akm Akl
@[simp] theorem AlU {α : Type} [BEq α] (a b : α) : (!(a !=b))=(a==b):=by simp [bne]
@[simp] theorem Ak8 : Adw []=true:=rfl
@[simp] theorem AkL (n : Int) (l : List AV) : Adw (.int .u8 n::l)=Adw l:=rfl
attribute [simp] AjB Aa8.has Ail AbL
@[simp] theorem Ak9 : AcI [] []=true:=rfl
@[simp] theorem AkM (x y : AV) (xs ys : List AV) : AcI (x::xs) (y::ys)=(AgN x y&&AcI xs ys):=rfl
@[simp] theorem AlL (k k' : IntKind) (a b : Int) : AgN (.int k a) (.int k' b)=(a==b):=rfl
@[simp] theorem AkW (a b : Bool) : AgN (.bool a) (.bool b)=(a==b):=rfl
@[simp] theorem AlK (a b : ByteArray) : AgN (.str a) (.str b)=AfN a b:=rfl
theorem Afa {S : Nat→Prop} {a b : List AV} (h : ∀ x ∈ a,x ∈ b) (hb : Aat S b) : Aat S a:=Aav.2 fun x hx=>Aav.1 hb x (h x hx)
theorem AbB {α : Type} [BEq α] [LawfulBEq α] {a b : α} (h : a=b) : (a==b)=true:=beq_iff_eq.2 h
theorem Aa7 {α : Type} [BEq α] [LawfulBEq α] {a b : α} (h : ¬ a=b) : (a==b)=false:=beq_eq_false_iff_ne.2 h
theorem Aa9 {α : Type} [BEq α] [LawfulBEq α] {a b : α} (h : ¬ a=b) : (a !=b)=true:=by simp [bne,Aa7 h]
theorem AbA {α : Type} [BEq α] [LawfulBEq α] {a b : α} (h : a=b) : (a !=b)=false:=by simp [bne,h]
@[simp] theorem AlY {S : Nat→Prop} {n : Nat} {l : List AV} (h : Aat S l=True) : Aat S (l.take n)=True:=eq_true (Afa (fun _=>List.mem_of_mem_take) (of_eq_true h))
def mgI {α β : Type} [BEq α] (l : List (α×β)) (k : α) : Option Nat:=l.findIdx? fun p=>k==p.1
def AnF {α β : Type} [BEq α] (l : List (α×β)) (k : α) : Option β:=(mgI l k).bind fun j=>l[j]?.map (·.2)
def AnE {α β : Type} [BEq α] (l : List (α×β)) (k : α) (v : β) : List (α×β) :=
 match mgI l k with
 | some j=>l.set j (k,v)
 | none=>l++[(k,v)]
def mpA {α β : Type} (f : α→AV) (g : β→AV) (l : List (α×β)) : List (AV×AV):=l.map fun p=>(f p.1,g p.2)
@[simp] theorem Al6 {α β : Type} (f : α→AV) (g : β→AV) : mpA f g [] = []:=rfl
theorem AaA.set {c : Cx} {xs : List AV} {vs : List Value} {x y : AV} {j : Nat} (hr : AaA c xs vs) (hj : xs[j]? = some x) (hy : ∀ v,Rep c x v→Rep c y v) : AaA c (xs.set j y) vs:=by
 refine AaA.of_get (by rw [List.length_set]; exact hr.length) fun i h1 h2=>?_
 rw [List.getElem_set]
 have hi : i<xs.length:=by simpa using h1
 split
 ·rename_i e; subst e
  have:=hr.get j hi h2
  obtain ⟨_,e2⟩:=List.getElem?_eq_some_iff.1 hj
  rw [e2] at this
  exact hy _ this
 ·exact hr.get i hi h2
def Am1 (P : Program) (f : FuncId) : Prop:=∃ fn,P.funcs[f]? = some fn∧(fn.name == "runtime.NumGoroutine")=false∧fn.body.isNone=true∧Extern.findNext fn=none∧Extern.find fn=some Go.Extern.BytealgCompare.compare
end Go.Abs
