import Derived.Test.YthiodjlppahmkaaGreatExtLay21
import Derived.Laws.Externs
set_option linter.unusedVariables false
set_option linter.unusedSimpArgs false
namespace Go.Abs
open Go.RowKit (Below)
def chk {α : Type} (c : Prop) [Decidable c] (x : Option α) : Option α:=if c then x else none
def idx {α β : Type} (l : List α) (i : Int) (f : α→Option β) : Option β:=if 0≤i then (match l[i.toNat]? with | some x=>f x | none=>none) else none
def AbK {α γ : Type} (x : Option α) (f : α→Option γ) : Option γ:=match x with | some a=>f a | none=>none
def Agk {α β γ : Type} (x : Option (α×β)) (f : α→β→Option γ) : Option γ:=match x with | some a=>f a.1 a.2 | none=>none
def Ao4 {α β δ γ : Type} (x : Option (α×β×δ)) (f : α→β→δ→Option γ) : Option γ:=match x with | some a=>f a.1 a.2.1 a.2.2 | none=>none
def Auj {α β δ ε γ : Type} (x : Option (α×β×δ×ε)) (f : α→β→δ→ε→Option γ) : Option γ:=match x with | some a=>f a.1 a.2.1 a.2.2.1 a.2.2.2 | none=>none
def AzS {α β δ ε ζ γ : Type} (x : Option (α×β×δ×ε×ζ)) (f : α→β→δ→ε→ζ→Option γ) : Option γ:=match x with | some a=>f a.1 a.2.1 a.2.2.1 a.2.2.2.1 a.2.2.2.2 | none=>none
def AzR {α β δ ε ζ η γ : Type} (x : Option (α×β×δ×ε×ζ×η)) (f : α→β→δ→ε→ζ→η→Option γ) : Option γ:=match x with | some a=>f a.1 a.2.1 a.2.2.1 a.2.2.2.1 a.2.2.2.2.1 a.2.2.2.2.2 | none=>none
def AzQ {α β δ ε ζ η θ γ : Type} (x : Option (α×β×δ×ε×ζ×η×θ)) (f : α→β→δ→ε→ζ→η→θ→Option γ) : Option γ:=match x with | some a=>f a.1 a.2.1 a.2.2.1 a.2.2.2.1 a.2.2.2.2.1 a.2.2.2.2.2.1 a.2.2.2.2.2.2 | none=>none
def AzP {α β δ ε ζ η θ κ γ : Type} (x : Option (α×β×δ×ε×ζ×η×θ×κ)) (f : α→β→δ→ε→ζ→η→θ→κ→Option γ) : Option γ:=match x with | some a=>f a.1 a.2.1 a.2.2.1 a.2.2.2.1 a.2.2.2.2.1 a.2.2.2.2.2.1 a.2.2.2.2.2.2.1 a.2.2.2.2.2.2.2 | none=>none
def Arl {α γ : Type} (x : α) (f : α→Option γ) : Option γ:=f x
theorem Aag {α : Type} {c : Prop} [Decidable c] {x : Option α} {r : α} (h : chk c x=some r) : c∧x=some r:=by
 unfold chk at h; split at h
 ·exact ⟨by assumption,h⟩
 ·cases h
theorem AbX {α β : Type} {l : List α} {i : Int} {f : α→Option β} {r : β} (h : idx l i f=some r) : ∃ x,0≤i∧i.toNat<l.length∧l[i.toNat]? = some x∧f x=some r:=by
 unfold idx at h; split at h
 ·split at h
  ·rename_i x hx
   exact ⟨x,by assumption,(List.getElem?_eq_some_iff.1 hx).1,hx,h⟩
  ·cases h
 ·cases h
theorem Ap5 {α : Type} {l : List α} {x : α} (h : l[Int.toNat 0]? = some x) : l.head? = some x:=by rw [List.head?_eq_getElem?]; exact h
theorem Aiu {α β : Type} (f : α→β) {l : List α} {n : Nat} {x : α} (h : l[n]? = some x) : (l.map f)[n]? = some (f x):=by simp [h]
theorem AcB {α : Type} {l : List α} {n : Nat} {x : α} (h : l[n]? = some x) : l[n]'(List.getElem?_eq_some_iff.1 h).1=x:=(List.getElem?_eq_some_iff.1 h).2
theorem AaF {α γ : Type} {x : Option α} {f : α→Option γ} {r : γ} (h : AbK x f=some r) : ∃ a,x=some a∧f a=some r:=by
 cases x with
 | none=>cases h
 | some a=>exact ⟨a,rfl,h⟩
theorem Aa3 {α β γ : Type} {x : Option (α×β)} {f : α→β→Option γ} {r : γ} (h : Agk x f=some r) : ∃ a b,x=some (a,b)∧f a b=some r:=by
 cases x with
 | none=>cases h
 | some a=>exact ⟨_,_,rfl,h⟩
theorem AdO {α β δ γ : Type} {x : Option (α×β×δ)} {f : α→β→δ→Option γ} {r : γ} (h : Ao4 x f=some r) : ∃ a b c,x=some (a,b,c)∧f a b c=some r:=by
 cases x with
 | none=>cases h
 | some a=>exact ⟨_,_,_,rfl,h⟩
theorem AhL {α β δ ε γ : Type} {x : Option (α×β×δ×ε)} {f : α→β→δ→ε→Option γ} {r : γ} (h : Auj x f=some r) : ∃ a b c d,x=some (a,b,c,d)∧f a b c d=some r:=by
 cases x with
 | none=>cases h
 | some a=>exact ⟨_,_,_,_,rfl,h⟩
def Aps {α γ : Type} (x : Option α) (f : α→Option γ) (g : Option γ) : Option γ:=match x with | some a=>f a | none=>g
theorem Apr {α γ : Type} {x : Option α} {f : α→Option γ} {g : Option γ} {r : γ} (h : Aps x f g=some r) : (∃ a,x=some a∧f a=some r)∨(x=none∧g=some r):=by
 unfold Aps at h; split at h
 ·exact .inl ⟨_,rfl,h⟩
 ·exact .inr ⟨rfl,h⟩
theorem AeM {α γ : Type} {x : α} {f : α→Option γ} {r : γ} (h : Arl x f=some r) : ∃ a,x=a∧f a=some r:=⟨x,rfl,h⟩
theorem Aco {α : Type} {c : Prop} [Decidable c] {x y : Option α} {r : α} (hc : c) (h : (if c then x else y)=some r) : x=some r:=by rwa [if_pos hc] at h
theorem Acr {α : Type} {c : Prop} [Decidable c] {x y : Option α} {r : α} (hc : ¬ c) (h : (if c then x else y)=some r) : y=some r:=by rwa [if_neg hc] at h
abbrev sl {α : Type} (f : α→AV) (l : List α) : AV := .lst false false (l.map f)
def Avd (H : Aac) (ρ : Nat→Nat) : List Nat→List AaZ→Prop
 | [],[]=>True
 | j::js,o::os=>H j=some (AeR ρ o)∧Avd H ρ js os
 | _,_=>False
theorem AmA {H : Aac} {ρ : Nat→Nat} : ∀ {σ : List Nat} {O : List AaZ},Avd H ρ σ O→∀ i (h : i<O.length),H (nm σ i)=some (AeR ρ O[i])
 | [],[],_,i,hi=>absurd hi (by simp)
 | j::js,o::os,h,0,_=>h.1
 | j::js,o::os,h,i+1,hi=>by
  have:=AmA h.2 i (by simpa using hi)
  simpa [nm] using this
 | [],_::_,h,_,_=>h.elim
 | _::_,[],h,_,_=>h.elim
def AuJ (W : List Nat) : List Nat→List AaZ→List (Option AaZ)→Prop
 | [],[],_=>True
 | j::js,o::os,o'::os'=>(j ∈ W∨o'=some o)∧AuJ W js os os'
 | _,_,_=>False
theorem AlN {W : List Nat} : ∀ {σ : List Nat} {O : List AaZ} {O' : List (Option AaZ)},AuJ W σ O O'→∀ i (h : i<O.length),nm σ i ∈ W∨nth O' i=some O[i]
 | [],[],_,_,i,hi=>absurd hi (by simp)
 | j::js,o::os,o'::os',h,0,_=>h.1
 | j::js,o::os,o'::os',h,i+1,hi=>by
  have:=AlN h.2 i (by simpa using hi)
  simpa [nm,nth] using this
 | [],_::_,_,h,_,_=>h.elim
 | _::_,[],_,h,_,_=>h.elim
 | _::_,_::_,[],h,_,_=>h.elim
def Al3 (H : Aac) : Nat→List (Option AaZ)→Prop
 | _,[]=>True
 | i,o::os=>H i=o∧Al3 H (i+1) os
theorem Ait {H : Aac} : ∀ {O : List (Option AaZ)} {j : Nat},Al3 H j O→∀ i,i<O.length→H (j+i)=nth O i
 | [],_,_,i,hi=>absurd hi (by simp)
 | o::os,j,h,0,_=>h.1
 | o::os,j,h,i+1,hi=>by
  have:=Ait h.2 i (by simpa using hi)
  rw [show j+(i+1)=j+1+i by omega,this]
  simp [nth]
theorem AcZ {H : Aac} {O : List (Option AaZ)} (h : Al3 H 0 O) : ∀ i,i<O.length→H i=nth O i:=fun i hi=>by simpa using Ait h i hi
theorem Coe.fl {H : Aac} {σ : Nat→Nat} {nl fl : Bool} {xs ys : List AV} (h : xs=ys) : Coe H σ (.lst nl fl xs) (.lst false false ys) []:=h ▸ .flags
theorem Coe.l {H : Aac} {σ : Nat→Nat} {id es len : Nat} {full : Bool} {o : AaZ} {cs xs : List AV} (ho : H id=some o) (hc : o.cs? = some cs) (hel : okEls es xs) (hn : Afk xs) (hl : xs.length=len) (hcs : AaI xs=cs) : Coe H σ (.slc id 0 es len full) (.lst false false xs) [id]:=by
 cases Frz.l (id:=id) (o:=o) (full:=full) (fl:=false) (fun h=>by cases h) hel hl hcs with
 | lst _ _ _ he _=>exact .lst ho hc hel hn hl he
theorem AbE {α : Type} {l : List α} {n : Nat} (h : n<l.length) : ¬ l = []:=by rintro rfl; simp at h
section
variable {P : Program} {n : Nat} {c0 : Cx} {w0 : World} {Q : AcH} {s : Nat→AV} {H : Aac} {N : Nat}
theorem Agl {f : FuncId} {args : List AV} {K : CK} {args0 : List AV} {O : List AaZ} {r : AV} {O' : List (Option AaZ)} (hF : Aab P f args0 O r O') (hcal : AaN P f=true) (σ T1 W0 : List Nat) (hlen : σ.length=O.length)
 (hco : AjI H (nm σ) args args0 T1) (hO : Avd H (nm σ) σ O) (hnd : σ.Nodup) (hσN : ∀ j ∈ σ,j<N) (hT1 : ∀ j ∈ T1,j<N∧j ∉ σ)
 (hfr : T1 = []∨(fresh r=true∧∀ o,some o ∈ O'→Ae6 o=true)) (hW0 : ∀ j ∈ W0,j ∈ σ) (hun : AuJ W0 σ O O')
 (hk : K (ren (nm (σ++Acx N (O'.length-O.length))) r) (Ah1 (nm (σ++Acx N (O'.length-O.length))) H (σ++Acx N (O'.length-O.length)) O') (N+(O'.length-O.length)) (σ++T1) (W0++Acx N (O'.length-O.length))) : Ajc P f args H N K :=
 ⟨_,_,_,_,_,fun o s g as ts caps hc ho hg ha=>Ali hc g as ts ho f caps hg hcal hF σ T1 hlen (by rw [ha]; exact hco) (AmA hO) hnd hσN hT1 hfr W0 hW0 (AlN hun),hk⟩
theorem Aq5 {f : FuncId} {args : List AV} {K : CK} {args0 : List AV} {O : List AaZ} {r : AV} {O' : List (Option AaZ)} (hF : Aab P f args0 O r O') (hcal : AaN P f=true) (σ T1 W0 : List Nat) (hlen : σ.length=O.length)
 (hco : AjI H (nm σ) args args0 T1) (hO : ∀ i (h : i<O.length),H (nm σ i)=some (AeR (nm σ) O[i])) (hnd : σ.Nodup) (hσN : ∀ j ∈ σ,j<N) (hT1 : ∀ j ∈ T1,j<N∧j ∉ σ)
 (hfr : T1 = []∨(fresh r=true∧∀ o,some o ∈ O'→Ae6 o=true)) (hW0 : ∀ j ∈ W0,j ∈ σ) (hun : ∀ i (h : i<O.length),nm σ i ∈ W0∨nth O' i=some O[i])
 (hk : K (ren (nm (σ++Acx N (O'.length-O.length))) r) (Ah1 (nm (σ++Acx N (O'.length-O.length))) H (σ++Acx N (O'.length-O.length)) O') (N+(O'.length-O.length)) (σ++T1) (W0++Acx N (O'.length-O.length))) : Ajc P f args H N K :=
 ⟨_,_,_,_,_,fun o s g as ts caps hc ho hg ha=>Ali hc g as ts ho f caps hg hcal hF σ T1 hlen (by rw [ha]; exact hco) hO hnd hσN hT1 hfr W0 hW0 hun,hk⟩
theorem Aq6 {f : FuncId} {args : List AV} {K : CK} {args0 : List AV} {r : AV} {O' : List (Option AaZ)} (hF : Aab P f args0 [] r O') (hcal : AaN P f=true) (T1 : List Nat)
 (hco : AjI H (nm []) args args0 T1) (hT1 : ∀ j ∈ T1,j<N) (hfr : T1 = []∨(fresh r=true∧∀ o,some o ∈ O'→Ae6 o=true))
 (hk : K (ren (nm (Acx N O'.length)) r) (Ah1 (nm (Acx N O'.length)) H (Acx N O'.length) O') (N+O'.length) T1 (Acx N O'.length)) : Ajc P f args H N K :=
 Aq5 hF hcal [] T1 [] rfl hco (fun i h=>absurd h (by simp)) List.nodup_nil (by simp) (fun j h=>⟨hT1 j h,by simp⟩) hfr (by simp) (fun i h=>absurd h (by simp)) (by simpa using hk)
theorem AW.condT {t : Nat} {x y : Code} (ht : decide (t<n)=true) (hb : s t = .bool true) (h : AW P n c0 w0 x Q s H N) : AW P n c0 w0 (.cond (.tmp t) x y) Q s H N :=
 AW.cond ht true hb (fun _=>h) (fun e=>by cases e)
theorem AW.condF {t : Nat} {x y : Code} (ht : decide (t<n)=true) (hb : s t = .bool false) (h : AW P n c0 w0 y Q s H N) : AW P n c0 w0 (.cond (.tmp t) x y) Q s H N :=
 AW.cond ht false hb (fun e=>by cases e) (fun _=>h)
theorem AW.loopK {c : Code} {α : Type} (F : Nat→α→Prop) (L : α→List (Nat×AV)) (O : α→List (Nat×AaZ)) (M k : Nat) (x0 : α) (h0 : F k x0)
 (round : ∀ k x,F k x→∀ K : (Nat→AV)→Aac→Nat→Prop,(∀ s' H' N',Can n c0 w0 s' H' N' (fun a w=>∃ k' y,k'<k∧F k' y∧St n c0 w0 (mkS (L y)) (mkH (O y)) M a w)→K s' H' N') →
  AW P n c0 w0 c (AcH.then K Q) (mkS (L x)) (mkH (O x)) M) : AW P n c0 w0 (.loop c) Q (mkS (L x0)) (mkH (O x0)) M:=by
 classical
 intro a w hs
 let J : Nat→Act→World→Prop:=fun k a w=>∃ x,F k x∧St n c0 w0 (mkS (L x)) (mkH (O x)) M a w
 have key : ∀ k a w,J k a w→(Code.loop c).wp P (Q.real n c0 w0) a w:=by
  intro k0 a w hJ
  let μ : Act→World→Nat:=fun a w=>if h : ∃ k,J k a w then Classical.choose (least _ h) else 0
  have hμ : ∀ a w,(∃ k,J k a w)→J (μ a w) a w∧∀ j,J j a w→μ a w≤j:=by
   intro a w h
   have : μ a w=Classical.choose (least _ h):=by simp only [μ,h,dif_pos]
   rw [this]
   exact Classical.choose_spec (least _ h)
  refine wp_loop (fun a w=>∃ k,J k a w) μ ⟨k0,hJ⟩ ?_
  intro a w hk
  obtain ⟨x,hx,hst⟩:=(hμ a w hk).1
  refine wp_mono (round _ x hx (fun s' H' N'=>Can n c0 w0 s' H' N' (fun a' w'=>∃ k' y,k'<μ a w∧F k' y∧St n c0 w0 (mkS (L y)) (mkH (O y)) M a' w')) (fun s' H' N' h=>h) a w hst) ?_
  intro e a' w' ⟨s',H',N',q,st⟩
  cases e with
  | normal =>
   obtain ⟨k',y,k1,k2,k3⟩:=q a' w' st
   have hJy : J k' a' w':=⟨y,k2,k3⟩
   refine ⟨⟨k',hJy⟩,?_⟩
   have:=(hμ a' w' ⟨_,hJy⟩).2 _ hJy
   omega
  | _=>exact ⟨s',H',N',q,st⟩
 exact key k a w ⟨x0,h0,hs⟩
theorem AW.loopF {c : Code} {α : Type} (F : Nat→α→Prop) (L : α→List (Nat×AV)) (O : α→List (Nat×AaZ)) (M k : Nat) (x0 : α) (h0 : F k x0) (h1 : ∀ p ∈ L x0,s p.1=p.2) (h2 : ∀ p ∈ O x0,H p.1=some p.2) (hN : N≤M)
 (round : ∀ k x,F k x→∀ K : (Nat→AV)→Aac→Nat→Prop,(∀ s' H' N',Can n c0 w0 s' H' N' (fun a w=>∃ k' y,k'<k∧F k' y∧St n c0 w0 (mkS (L y)) (mkH (O y)) M a w)→K s' H' N') →
  AW P n c0 w0 c (AcH.then K Q) (mkS (L x)) (mkH (O x)) M) : AW P n c0 w0 (.loop c) Q s H N:=AW.weak (L x0) (O x0) M h1 h2 hN (AW.loopK F L O M k x0 h0 round)
theorem Can.next {α : Type} {F : Nat→α→Prop} {L : α→List (Nat×AV)} {O : α→List (Nat×AaZ)} {M k k' : Nat} (y : α) (hk : k'<k) (hF : F k' y) (h1 : ∀ p ∈ L y,s p.1=p.2) (h2 : ∀ p ∈ O y,H p.1=some p.2) (hN : N≤M) :
 Can n c0 w0 s H N (fun a w=>∃ k' y,k'<k∧F k' y∧St n c0 w0 (mkS (L y)) (mkH (O y)) M a w) :=
 fun a w hs=>⟨k',y,hk,hF,hs.weak (L y) (O y) M h1 h2 hN⟩
theorem AW.midF {x y : Code} {α : Type} (F : α→Prop) (L : α→List (Nat×AV)) (O : α→List (Nat×AaZ)) (M : Nat)
 (h1 : ∀ K : (Nat→AV)→Aac→Nat→Prop,(∀ s' H' N',Can n c0 w0 s' H' N' (fun a w=>∃ z,F z∧St n c0 w0 (mkS (L z)) (mkH (O z)) M a w)→K s' H' N')→AW P n c0 w0 x (AcH.then K Q) s H N)
 (h2 : ∀ z,F z→AW P n c0 w0 y Q (mkS (L z)) (mkH (O z)) M) : AW P n c0 w0 (.seq x y) Q s H N:=by
 intro a w hs
 refine wp_seq (wp_mono (h1 (fun s' H' N'=>Can n c0 w0 s' H' N' (fun a w=>∃ z,F z∧St n c0 w0 (mkS (L z)) (mkH (O z)) M a w)) (fun _ _ _ h=>h) a w hs) fun e a w ⟨s',H',N',q,st⟩=>?_)
 cases e with
 | normal =>
  obtain ⟨z,k1,k2⟩:=q a w st
  exact h2 z k1 a w k2
 | _=>exact ⟨s',H',N',q,st⟩
theorem Can.join {α : Type} {F : α→Prop} {L : α→List (Nat×AV)} {O : α→List (Nat×AaZ)} {M : Nat} (y : α) (hF : F y) (h1 : ∀ p ∈ L y,s p.1=p.2) (h2 : ∀ p ∈ O y,H p.1=some p.2) (hN : N≤M) :
 Can n c0 w0 s H N (fun a w=>∃ y,F y∧St n c0 w0 (mkS (L y)) (mkH (O y)) M a w) :=
 fun a w hs=>⟨y,hF,hs.weak (L y) (O y) M h1 h2 hN⟩
theorem AW.nilSplit {x : Code} (t : Nat) (ht : decide (t<n)=true) {fl : Bool} {xs : List AV} (hs : s t = .lst false fl xs) (h1 : xs = []→AW P n c0 w0 x Q (upd s t (.lst true fl [])) H N) (h2 : AW P n c0 w0 x Q (upd s t (.nn (.lst false fl xs))) H N) : AW P n c0 w0 x Q s H N:=by
 intro a w ⟨cx,hr,hd,g,hu⟩
 have hv:=hr.slot t (by simpa using ht)
 rw [hs] at hv
 have key : ∀ y,Rep cx y (a.tmps.getD t undef)→St n c0 w0 (upd s t y) H N a w:=fun y hy =>
  ⟨cx,⟨hr.hr,hr.size,fun t' ht'=>by
   by_cases e : t'=t
   ·subst e; rw [AbR]; exact hy
   ·rw [AbV _ _ e]; exact hr.slot t' ht'⟩,hd,g,hu⟩
 have hv2:=hv
 simp only [Rep] at hv2
 rcases hv2 with ⟨hx,hv2⟩ | ⟨_,ad,b,off,cap,es,vs,hv2,_⟩
 ·exact h1 hx a w (key _ (by simp only [Rep]; exact .inl ⟨trivial,hv2⟩))
 ·refine h2 a w (key _ ?_)
  rw [Rep]
  exact ⟨hv,ad,_,_,hv2⟩
theorem AW.wk {x : Code} (l : List (Nat×AV)) (hl : List (Nat×AaZ)) (N' : Nat) (h1 : ∀ p ∈ l,s p.1=p.2) (h2 : ∀ p ∈ hl,H p.1=some p.2) (hN : N≤N') (h : AW P n c0 w0 x Q (mkS l) (mkH hl) N') : AW P n c0 w0 x Q s H N:=AW.weak l hl N' h1 h2 hN h
theorem AW.own' {x : Code} (t es : Nat) (fl : Bool) (hs : s t = .lst true fl []) (ht : decide (t<n)=true) (h : AW P n c0 w0 x Q (upd s t (.slc N 0 es 0 false)) (upd H N (some (.grow []))) (N+1)) : AW P n c0 w0 x Q s H N:=Can.own t es fl hs ht h
theorem AW.frz {x : Code} (id : Nat) {o : AaZ} {cs : List AV} (ho : H id=some o) (hc : o.cs? = some cs) (l : List (Nat×AV)) (lo : List (Nat×AaZ)) (hl : Awz id o cs s l) (hlo : AwH id o cs H lo)
 (h : AW P n c0 w0 x Q (ApG s l) (AkN (upd H id none) lo) N) : AW P n c0 w0 x Q s H N:=Can.freeze id ho hc l lo hl hlo h
theorem AW.flg {x : Code} (l : List (Nat×AV)) (lo : List (Nat×AaZ)) (hl : FlS s l) (hlo : FlH H lo) (hn : (lo.map (·.1)).Nodup) (h : AW P n c0 w0 x Q (ApG s l) (AkN H lo) N) : AW P n c0 w0 x Q s H N:=Can.flg l lo hl hlo hn h
theorem AW.rnm {x : Code} {m : Nat} (h0 : AcF c0 m) (ρ : List (Nat×Nat)) (l : List (Nat×AV)) (o : List (Nat×AaZ)) (M : Nat)
 (hρ1 : (ρ.map (·.2)).Nodup) (hρ2 : ∀ p ∈ ρ,p.1<M∧(p.1<m→p.1=p.2)) (hM : m≤M) (hk : o.map (·.1)=ρ.map (·.1))
 (h1 : ∀ p ∈ l,s p.1=Abs.ren (AdS ρ) p.2∧gd (fun i=>(AfP ρ i).isSome=true) p.2)
 (h2 : ∀ p ∈ o,H (AdS ρ p.1)=some (AeR (AdS ρ) p.2)∧gdO (fun i=>(AfP ρ i).isSome=true) p.2)
 (h : AW P n c0 w0 x Q (mkS l) (mkH o) M) : AW P n c0 w0 x Q s H N:=Can.ren h0 ρ l o M hρ1 hρ2 hM hk h1 h2 h
end
attribute [simp] List.take_of_length_le
@[simp] theorem AuK (σ : Nat→Nat) (cs : List AV) : AeR σ (.cells cs) = .cells (AdP σ cs):=rfl
@[simp] theorem Au7 (σ : Nat→Nat) (cs : List AV) : AeR σ (.grow cs) = .grow (AdP σ cs):=rfl
@[simp] theorem Ave (S : Nat→Prop) (cs : List AV) : gdO S (.cells cs)=gdL S cs:=rfl
@[simp] theorem Awi (S : Nat→Prop) (cs : List AV) : gdO S (.grow cs)=gdL S cs:=rfl
@[simp] theorem Ash (cs : List AV) : Ae6 (.cells cs)=Ac7 cs:=rfl
@[simp] theorem Atd (cs : List AV) : Ae6 (.grow cs)=Ac7 cs:=rfl
attribute [simp] ren AdP gd gdL fresh Ac7 Ah1 Avd AuJ Al3 AfP AdS
@[simp] theorem AzN (a : Nat) (σ : List Nat) : nm (a::σ) 0=a:=rfl
@[simp] theorem AzI (a : Nat) (σ : List Nat) (i : Nat) : nm (a::σ) (i+1)=nm σ i:=by simp [nm]
@[simp] theorem AzM (a b : Nat) (σ : List Nat) : nm (a::b::σ) 1=b:=rfl
@[simp] theorem AzL (a b c : Nat) (σ : List Nat) : nm (a::b::c::σ) 2=c:=rfl
@[simp] theorem AzK (a b c d : Nat) (σ : List Nat) : nm (a::b::c::d::σ) 3=d:=rfl
@[simp] theorem AzJ (a b c d e : Nat) (σ : List Nat) : nm (a::b::c::d::e::σ) 4=e:=rfl
@[simp] theorem Ayg (a : Option AaZ) (σ : List (Option AaZ)) : nth (a::σ) 0=a:=rfl
@[simp] theorem Ayb (a : Option AaZ) (σ : List (Option AaZ)) (i : Nat) : nth (a::σ) (i+1)=nth σ i:=by simp [nth]
@[simp] theorem Ayf (a b : Option AaZ) (σ : List (Option AaZ)) : nth (a::b::σ) 1=b:=rfl
@[simp] theorem Aye (a b c : Option AaZ) (σ : List (Option AaZ)) : nth (a::b::c::σ) 2=c:=rfl
@[simp] theorem Ayd (a b c d : Option AaZ) (σ : List (Option AaZ)) : nth (a::b::c::d::σ) 3=d:=rfl
@[simp] theorem Ayc (a b c d e : Option AaZ) (σ : List (Option AaZ)) : nth (a::b::c::d::e::σ) 4=e:=rfl
@[simp] theorem AxT (i : Nat) : nth [] i=none:=by simp [nth]
@[simp] theorem AyH (N : Nat) : Acx N 0 = []:=rfl
@[simp] theorem AyG (N : Nat) : Acx N 1 = [N]:=rfl
@[simp] theorem AyF (N : Nat) : Acx N 2 = [N,N+1]:=rfl
@[simp] theorem AyE (N : Nat) : Acx N 3 = [N,N+1,N+2]:=rfl
@[simp] theorem AyD (N : Nat) : Acx N 4 = [N,N+1,N+2,N+3]:=rfl
def bI (b : ByteArray) : List Int:=b.data.toList.map fun x=>(x.toNat : Int)
def ofI (l : List Int) : ByteArray:=⟨(l.map fun n=>UInt8.ofNat n.toNat).toArray⟩
@[simp] theorem Awr (b : ByteArray) : bytes b.data.toList=(bI b).map (AV.int .u8):=by simp [bytes,bI]
@[simp] theorem Aul (l : List Int) : AeP (l.map (AV.int .u8))=true:=by
 induction l with
 | nil=>rfl
 | cons x l ih=>simpa [AeP] using ih
@[simp] theorem AwR (l : List Int) : sOf (l.map (AV.int .u8))=ofI l:=by simp [sOf,ofI,Auv]
@[simp] theorem Av3 (b : ByteArray) : (bI b).length=b.size:=by simp [bI]
theorem Aju {α : Type} (S : Nat→Prop) (f : α→AV) (l : List α) : AbP S (l.map f)↔∀ x ∈ l,idsIn S (f x):=by
 simp [Aby]
theorem Af8 {α : Type} {S : Nat→Prop} {f : α→AV} (h : ∀ x,idsIn S (f x)) (l : List α) : AbP S (l.map f):=(Aju S f l).2 fun x _=>h x
@[simp] theorem AyL {α : Type} (S : Nat→Prop) (f : α→AV) (l : List (List α)) : AbP S (l.map (fun x=>AV.lst false false (x.map f)))↔∀ x ∈ l,AbP S (x.map f):=by
 simp [Aju]
@[simp] theorem Awl {α : Type} (f : α→AV) (l : List (List α)) : AaI (l.map (fun x=>AV.lst false false (x.map f)))=l.map (fun x=>AV.lst false false (x.map f)):=by
 induction l with
 | nil=>rfl
 | cons x l ih=>simp [ih]
@[simp] theorem Awa {α : Type} (f : α→AV) (l : List (List α)) : okEls 1 (l.map (fun x=>AV.lst false false (x.map f)))↔True:=iff_true_intro (Acw.2 fun x hx=>by
 simp only [List.mem_map] at hx
 obtain ⟨b,_,rfl⟩:=hx
 simp)
theorem Ata {α : Type} (S : Nat→Prop) (f : α→AV) (l : List α) : gdL S (l.map f)↔∀ x ∈ l,gd S (f x):=by
 induction l with
 | nil=>simp
 | cons x l ih=>simp [ih]
theorem Anp {α : Type} (σ : Nat→Nat) (f : α→AV) (h : ∀ x,ren σ (f x)=f x) (l : List α) : AdP σ (l.map f)=l.map f:=by
 induction l with
 | nil=>simp
 | cons x l ih=>simp [ih,h]
theorem Aox {α : Type} (f : α→AV) (h : ∀ x,fresh (f x)=true) (l : List α) : Ac7 (l.map f)=true:=by
 induction l with
 | nil=>simp
 | cons x l ih=>simp [ih,h]
@[simp] theorem Awk (S : Nat→Prop) (k : IntKind) (l : List Int) : gdL S (l.map (AV.int k))↔True:=by simp [Ata]
@[simp] theorem Au9 (σ : Nat→Nat) (k : IntKind) (l : List Int) : AdP σ (l.map (AV.int k))=l.map (AV.int k):=Anp _ _ (by simp) _
@[simp] theorem Ate (k : IntKind) (l : List Int) : Ac7 (l.map (AV.int k))=true:=Aox _ (by simp) _
@[simp] theorem As6 (σ : Nat→Nat) (a b : List AV) : AdP σ (a++b)=AdP σ a++AdP σ b:=by
 induction a with
 | nil=>simp
 | cons x l ih=>simp [ih]
@[simp] theorem AuZ (S : Nat→Prop) (a b : List AV) : gdL S (a++b)↔gdL S a∧gdL S b:=by
 induction a with
 | nil=>simp
 | cons x l ih=>simp [ih,and_assoc]
theorem Age (σ : Nat→Nat) (l : List AV) : AdP σ l=l.map (ren σ):=by
 induction l with
 | nil=>rfl
 | cons x l ih=>simp [ih]
theorem Aeq (S : Nat→Prop) (l : List AV) : gdL S l↔∀ x ∈ l,gd S x:=by
 induction l with
 | nil=>simp
 | cons x l ih=>simp [ih]
theorem Ajx (l : List AV) : Ac7 l=l.all fresh:=by
 induction l with
 | nil=>rfl
 | cons x l ih=>simp [ih]
@[simp] theorem Au8 (σ : Nat→Nat) (n : Nat) (l : List AV) : AdP σ (l.take n)=(AdP σ l).take n:=by simp [Age,List.map_take]
@[simp] theorem AvA (σ : Nat→Nat) (n : Nat) (l : List AV) : AdP σ (l.drop n)=(AdP σ l).drop n:=by simp [Age,List.map_drop]
@[simp] theorem AwT (σ : Nat→Nat) (n : Nat) (x : AV) (l : List AV) : AdP σ (l.set n x)=(AdP σ l).set n (ren σ x):=by simp [Age,List.map_set]
@[simp] theorem ArC (σ : Nat→Nat) (n : Nat) (x : AV) : AdP σ (List.replicate n x)=List.replicate n (ren σ x):=by simp [Age]
theorem Art {S : Nat→Prop} {n : Nat} {l : List AV} (h : gdL S l) : gdL S (l.take n):=(Aeq _ _).2 fun x hx=>(Aeq _ _).1 h x (List.mem_of_mem_take hx)
theorem Arv {S : Nat→Prop} {n : Nat} {l : List AV} (h : gdL S l) : gdL S (l.drop n):=(Aeq _ _).2 fun x hx=>(Aeq _ _).1 h x (List.mem_of_mem_drop hx)
theorem AqA {S : Nat→Prop} {n : Nat} {x : AV} {l : List AV} (h : gdL S l) (hx : gd S x) : gdL S (l.set n x):=(Aeq _ _).2 fun y hy=>by
 rcases List.mem_or_eq_of_mem_set hy with hy | rfl
 ·exact (Aeq _ _).1 h y hy
 ·exact hx
@[simp] theorem Asf (S : Nat→Prop) (n : Nat) (k : IntKind) (x : Int) (l : List Int) : gdL S ((l.map (AV.int k)).set n (AV.int k x))↔True:=iff_true_intro (AqA (by simp) (by simp))
@[simp] theorem Aou (S : Nat→Prop) (n : Nat) (k : IntKind) (x : Int) : gdL S (List.replicate n (AV.int k x))↔True:=iff_true_intro ((Aeq _ _).2 fun y hy=>by rw [List.eq_of_mem_replicate hy]; simp)
def toB : AV→Bool
 | .bool b=>b
 | _=>false
def isB : AV→Bool
 | .bool _=>true
 | _=>false
def toI : AV→Int
 | .int _ n=>n
 | _=>0
def isI : AV→Bool
 | .int _ _=>true
 | _=>false
theorem Aip {α : Type} {l : List α} {n : Nat} (h : l.length=n) (hn : 0<n) : ¬ l = []:=by rintro rfl; simp at h; omega
@[simp] theorem AwM (cs : List AV) (off : Nat) (x : AV) : setR cs off [x]=cs.set off x:=rfl
@[simp] theorem AwL (cs : List AV) (off : Nat) (x y : AV) (zs : List AV) : setR cs off (x::y::zs)=cs.take off++(x::y::zs)++cs.drop (off+(zs.length+2)):=rfl
@[simp] theorem AwN {α : Type} (f : α→AV) (l : List α) (cs : List AV) (h : l.length=cs.length) : setR cs 0 (l.map f)=l.map f:=by
 rw [AfC _ _ _ (by simp [h])]
 simp [h]
attribute [simp] toB isB IntKind.bits IntKind.signed
attribute [simp] AuU AuT
@[simp] theorem AwA : AeP []=true:=rfl
@[simp] theorem Aum (n : Int) (l : List AV) : AeP (.int .u8 n::l)=AeP l:=rfl
attribute [simp] AsG Abe.has ArL Acd
@[simp] theorem AwB : AfT [] []=true:=rfl
@[simp] theorem Aun (x y : AV) (xs ys : List AV) : AfT (x::xs) (y::ys)=(Ams x y&&AfT xs ys):=rfl
@[simp] theorem AwQ (k k' : IntKind) (a b : Int) : Ams (.int k a) (.int k' b)=(a==b):=rfl
@[simp] theorem Au5 (a b : Bool) : Ams (.bool a) (.bool b)=(a==b):=rfl
@[simp] theorem AwP (a b : ByteArray) : Ams (.str a) (.str b)=AkS a b:=rfl
theorem Aq2 (l : List AV) : AeP l=true↔∀ x ∈ l,∃ n,x = .int .u8 n:=by
 induction l with
 | nil=>simp [AeP]
 | cons x l ih =>
  constructor
  ·exact fun h=>Afv h
  ·intro h
   obtain ⟨n,rfl⟩:=h x (by simp)
   simp only [AeP]
   exact ih.2 fun y hy=>h y (by simp [hy])
theorem Aky {S : Nat→Prop} {a b : List AV} (h : ∀ x ∈ a,x ∈ b) (hb : AbP S b) : AbP S a:=Aby.2 fun x hx=>Aby.1 hb x (h x hx)
@[simp] theorem AnI (n : Nat) (k : IntKind) (x : Int) : AaI (List.replicate n (AV.int k x))=List.replicate n (AV.int k x):=by rw [← List.map_replicate,AnJ]
theorem AmO {α : Type} [BEq α] [LawfulBEq α] {a b : α} (h : a=b) : (a==b)=true:=beq_iff_eq.2 h
theorem Ak6 {α : Type} [BEq α] [LawfulBEq α] {a b : α} (h : ¬ a=b) : (a==b)=false:=beq_eq_false_iff_ne.2 h
theorem Alx {α : Type} [BEq α] [LawfulBEq α] {a b : α} (h : ¬ a=b) : (a !=b)=true:=by simp [bne,Ak6 h]
theorem Aly {α : Type} [BEq α] [LawfulBEq α] {a b : α} (h : a=b) : (a !=b)=false:=by simp [bne,h]
@[simp] theorem Awh {S : Nat→Prop} {n : Nat} {l : List AV} (h : AbP S l=True) : AbP S (l.drop n)=True:=eq_true (Aky (fun _=>List.mem_of_mem_drop) (of_eq_true h))
@[simp] theorem AtL {es n : Nat} {l : List AV} (h : okEls es l=True) : okEls es (l.take n)=True:=eq_true (okEls.take (of_eq_true h) n)
@[simp] theorem AtN {es n : Nat} {l : List AV} (h : okEls es l=True) : okEls es (l.drop n)=True:=eq_true (okEls.drop (of_eq_true h) n)
@[simp] theorem Avf {S : Nat→Prop} {n : Nat} {l : List AV} (h : gdL S l=True) : gdL S (l.take n)=True:=eq_true (Art (of_eq_true h))
@[simp] theorem Avg {S : Nat→Prop} {n : Nat} {l : List AV} (h : gdL S l=True) : gdL S (l.drop n)=True:=eq_true (Arv (of_eq_true h))
theorem AmJ {l : List AV} (h : l.all AV.one=true) : AaI l=l:=by
 induction l with
 | nil=>rfl
 | cons x l ih =>
  simp only [List.all_cons,Bool.and_eq_true] at h
  have h1 : x.cells = [x]:=by cases x <;> simp_all [AV.cells,AV.one]
  rw [AeD,h1,ih h.2]; rfl
theorem AoP {l : List AV} {n : Nat} (h : l.all AV.one=true) : (l.take n).all AV.one=true:=List.all_eq_true.2 fun x hx=>List.all_eq_true.1 h x (List.mem_of_mem_take hx)
theorem AoQ {l : List AV} {n : Nat} (h : l.all AV.one=true) : (l.drop n).all AV.one=true:=List.all_eq_true.2 fun x hx=>List.all_eq_true.1 h x (List.mem_of_mem_drop hx)
@[simp] theorem Av7 {l : List AV} {n : Nat} (h : (l.all AV.one)=true) : (l.take n).all AV.one=true:=AoP h
@[simp] theorem Av8 {l : List AV} {n : Nat} (h : (l.all AV.one)=true) : (l.drop n).all AV.one=true:=AoQ h
@[simp] theorem Atf {n : Nat} {l : List AV} (h : l.all AV.one=true) : AaI (l.take n)=l.take n:=AmJ (AoP h)
@[simp] theorem Atg {n : Nat} {l : List AV} (h : l.all AV.one=true) : AaI (l.drop n)=l.drop n:=AmJ (AoQ h)
def mgI {α β : Type} [BEq α] (l : List (α×β)) (k : α) : Option Nat:=l.findIdx? fun p=>k==p.1
def AjY {α β : Type} [BEq α] (l : List (α×β)) (k : α) : Option β:=(mgI l k).bind fun j=>l[j]?.map (·.2)
def Agm {α β : Type} [BEq α] (l : List (α×β)) (k : α) (v : β) : List (α×β) :=
 match mgI l k with
 | some j=>l.set j (k,v)
 | none=>l++[(k,v)]
def mpA {α β : Type} (f : α→AV) (g : β→AV) (l : List (α×β)) : List (AV×AV):=l.map fun p=>(f p.1,g p.2)
@[simp] theorem AxW {α β : Type} (f : α→AV) (g : β→AV) : mpA f g [] = []:=rfl
@[simp] theorem AtR {β : Type} (k : IntKind) (g : β→AV) (l : List (Int×β)) : ((mpA (.int k) g l).all fun p=>(Abe.int k).has p.1)=true:=by simp [mpA]
theorem Aiq {β : Type} (k k' : IntKind) (g : β→AV) (l : List (Int×β)) (i : Int) : Air (mpA (.int k) g l) (.int k' i)=mgI l i:=by
 unfold Air mgI mpA
 rw [List.findIdx?_map]; rfl
@[simp] theorem AvT {β : Type} (k k' : IntKind) (g : β→AV) (l : List (Int×β)) (i : Int) : Ah4 (mpA (.int k) g l) (.int k' i)=(AjY l i).map g:=by
 unfold Ah4 AjY
 rw [Aiq]
 cases mgI l i with
 | none=>rfl
 | some j=>simp [mpA,Function.comp_def]
@[simp] theorem Akr {β : Type} (k : IntKind) (g : β→AV) (l : List (Int×β)) (i : Int) (v : β) : mpA (.int k) g (Agm l i v)=Aeo (mpA (.int k) g l) (.int k i) (g v):=by
 unfold Agm Aeo
 rw [Aiq]
 cases mgI l i with
 | none=>simp [mpA]
 | some j=>simp [mpA]
@[simp] theorem Ap7 {α β : Type} (S : Nat→Prop) (f : α→AV) (g : β→AV) (l : List (α×β)) (hf : ∀ x,gd S (f x)) (hg : ∀ x,gd S (g x)) : gdO S (.mp (mpA f g l))↔True:=by
 refine iff_true_intro ?_
 simp only [gdO,mpA]
 intro p hp
 obtain ⟨q,_,rfl⟩:=List.mem_map.1 hp
 exact ⟨hf _,hg _⟩
@[simp] theorem Ano {α β : Type} (σ : Nat→Nat) (f : α→AV) (g : β→AV) (l : List (α×β)) (hf : ∀ x,ren σ (f x)=f x) (hg : ∀ x,ren σ (g x)=g x) : AeR σ (.mp (mpA f g l)) = .mp (mpA f g l):=by
 simp [AeR,mpA,hf,hg]
@[simp] theorem Aow {α β : Type} (f : α→AV) (g : β→AV) (l : List (α×β)) (hf : ∀ x,fresh (f x)=true) (hg : ∀ x,fresh (g x)=true) : Ae6 (.mp (mpA f g l))=true:=by
 simp only [Ae6,mpA,List.all_eq_true]
 intro p hp
 obtain ⟨q,_,rfl⟩:=List.mem_map.1 hp
 simp [hf,hg]
theorem AcK {α : Type} {F : α→AV} {es : Nat} (hF : ∀ x,(F x).cells.length=es) (l : List α) : (AaI (l.map F)).length=l.length*es:=by
 induction l with
 | nil=>simp
 | cons x l ih=>rw [List.map_cons,AeD,List.length_append,hF,ih,List.length_cons,Nat.succ_mul,Nat.add_comm]
theorem Afp {α : Type} {F : α→AV} {es : Nat} (hF : ∀ x,(F x).cells.length=es) (he : 0<es) {l : List α} {i : Nat} (h : i<l.length) : ¬ AaI (l.map F) = []:=by
 intro e
 have:=AcK hF l
 rw [e] at this
 simp only [List.length_nil] at this
 have h2 : 0<l.length*es:=Nat.mul_pos (by omega) he
 omega
theorem AgB {α : Type} {F : α→AV} {l : List α} {i : Nat} {x : α} (h : l[i]? = some x) : AaI (l.map F)=AaI ((l.take i).map F)++(F x).cells++AaI ((l.drop (i+1)).map F):=by
 obtain ⟨hi,rfl⟩:=List.getElem?_eq_some_iff.1 h
 conv=>lhs; rw [← List.take_append_drop i l,List.drop_eq_getElem_cons hi]
 rw [List.map_append,List.map_cons,AdK,AeD,List.append_assoc]
theorem Aj0 {α : Type} {F : α→AV} {es : Nat} (hF : ∀ x,(F x).cells.length=es) {l : List α} {i : Nat} {x : α} (h : l[i]? = some x) (d : Nat) (hd : decide (d<es)=true) :
 (AaI (l.map F)).drop (i*es+d)=(F x).cells.drop d++AaI ((l.drop (i+1)).map F):=by
 have hi:=(List.getElem?_eq_some_iff.1 h).1
 have hA : (AaI ((l.take i).map F)).length=i*es:=by rw [AcK hF,List.length_take,Nat.min_eq_left (by omega)]
 have hd' : d<es:=of_decide_eq_true hd
 rw [AgB h,List.append_assoc,List.drop_append,hA,List.drop_of_length_le (by omega),List.nil_append,show i*es+d-i*es=d by omega,List.drop_append_of_le_length (by rw [hF]; omega)]
theorem ApQ {α : Type} {l : List α} {i : Nat} {x x' : α} (h : l[i]? = some x) : (l.set i x')[i]? = some x':=by
 have:=(List.getElem?_eq_some_iff.1 h).1
 simp [this]
theorem Arx {α : Type} {F : α→AV} {es : Nat} (hF : ∀ x,(F x).cells.length=es) {l : List α} {i : Nat} {x x' : α} {d : Nat} {zs : List AV} (h : l[i]? = some x) (hz : setR (F x).cells d zs=(F x').cells) (hd : d+zs.length≤(F x).cells.length) :
 setR (AaI (l.map F)) (i*es+d) zs=AaI ((l.set i x').map F):=by
 have hi:=(List.getElem?_eq_some_iff.1 h).1
 have hA : (AaI ((l.take i).map F)).length=i*es:=by rw [AcK hF,List.length_take,Nat.min_eq_left (by omega)]
 have hC:=hF x
 have hle : i*es+d+zs.length≤(AaI (l.map F)).length:=by
  rw [AgB h,List.length_append,List.length_append,hA]; omega
 rw [AfC _ _ _ hd] at hz
 have e1 : (l.set i x').take i=l.take i:=by rw [List.take_set]; exact List.set_eq_of_length_le (by simp; omega)
 have e2 : (l.set i x').drop (i+1)=l.drop (i+1):=by rw [List.drop_set,if_pos (by omega)]
 have hs : AaI (l.map F)=AaI ((l.take i).map F)++((F x).cells++AaI ((l.drop (i+1)).map F)):=by rw [AgB h,List.append_assoc]
 rw [AfC _ _ _ hle,AgB (ApQ (x':=x') h),e1,e2,← hz,hs]
 generalize AaI ((l.take i).map F)=A at hA ⊢
 generalize AaI ((l.drop (i+1)).map F)=B
 generalize (F x).cells=C at hd ⊢
 have e3 : (A++(C++B)).take (i*es+d)=A++C.take d:=by
  rw [List.take_append,hA,List.take_of_length_le (by omega),show i*es+d-i*es=d by omega,List.take_append_of_le_length (by omega)]
 have e4 : (A++(C++B)).drop (i*es+d+zs.length)=C.drop (d+zs.length)++B:=by
  rw [List.drop_append,hA,List.drop_of_length_le (by omega),List.nil_append,show i*es+d+zs.length-i*es=d+zs.length by omega,List.drop_append_of_le_length (by omega)]
 rw [e3,e4]
 simp only [List.append_assoc]
theorem Aoc {c : Cx} {fl : Bool} {v : Value} (h : Rep c (.lst true fl []) v) : v = .slice none 0 0:=by
 simp only [Rep] at h
 rcases h with ⟨_,h⟩ | ⟨h,_⟩
 ·exact h
 ·cases h
theorem AaD.set {c : Cx} {xs : List AV} {vs : List Value} {x y : AV} {j : Nat} (hr : AaD c xs vs) (hj : xs[j]? = some x) (hy : ∀ v,Rep c x v→Rep c y v) : AaD c (xs.set j y) vs:=by
 refine AaD.of_get (by rw [List.length_set]; exact hr.length) fun i h1 h2=>?_
 rw [List.getElem_set]
 have hi : i<xs.length:=by simpa using h1
 split
 ·rename_i e; subst e
  have:=hr.get j hi h2
  obtain ⟨_,e2⟩:=List.getElem?_eq_some_iff.1 hj
  rw [e2] at this
  exact hy _ this
 ·exact hr.get i hi h2
theorem Can.ownC {n : Nat} {c0 : Cx} {w0 : World} {s : Nat→AV} {H : Aac} {N : Nat} {T : Act→World→Prop} (id j es : Nat) (fl : Bool) {cs : List AV} (ho : H id=some (.cells cs)) (hj : cs[j]? = some (.lst true fl []))
 (h : Can n c0 w0 s (upd (upd H N (some (.grow []))) id (some (.cells (cs.set j (.slc N 0 es 0 false))))) (N+1) T) : Can n c0 w0 s H N T:=by
 intro a w ⟨cx,hr,hd,g,hu⟩
 obtain ⟨c',k1,k2,k3,k4⟩:=hr.hr.adopt (.refl cx w) (hu N (Nat.le_refl _)) (hu N (Nat.le_refl _)) (es:=es) (len:=0) (o := .grow []) (v := .slice none 0 0) (.inl ⟨rfl,rfl,_,rfl⟩)
 have hne : id≠N:=by
  rintro rfl
  obtain ⟨b,x,y,hl,_⟩:=hr.hr.live_of ho (by simp)
  rw [hu id (Nat.le_refl _)] at hl; cases hl
 have hid : upd H N (some (.grow [])) id=some (.cells cs):=by rw [AbV _ _ hne]; exact ho
 have k5:=k1.reobj id (.cells (cs.set j (.slc N 0 es 0 false))) (fun o ho' he=>by rw [hid] at ho'; cases ho'; cases he) (by rw [hid]; rfl) (fun o b base sz ho' hl hor=>by
  rw [hid] at ho'; cases ho'
  obtain ⟨cur,T,fr,vs,h1,h2,h3,h4,h5,h6⟩:=hor
  exact ⟨cur,T,fr,vs,h1,h2,h3,by rw [List.length_set]; exact h4,h5.set hj (fun v hv=>by rw [Aoc hv]; exact k3),h6⟩)
 exact h a w ⟨c',⟨k5,hr.size,fun t ht=>(hr.slot t ht).mono k2.le _ _⟩,hd,g.trans k2,fun i hi=>by rw [k4 i (by omega)]; exact hu i (by omega)⟩
theorem AW.ownC {P : Program} {n : Nat} {c0 : Cx} {w0 : World} {Q : AcH} {s : Nat→AV} {H : Aac} {N : Nat} {x : Code} (id j es : Nat) (fl : Bool) {cs : List AV} (ho : H id=some (.cells cs)) (hj : cs[j]? = some (.lst true fl []))
 (h : AW P n c0 w0 x Q s (upd (upd H N (some (.grow []))) id (some (.cells (cs.set j (.slc N 0 es 0 false))))) (N+1)) : AW P n c0 w0 x Q s H N:=Can.ownC id j es fl ho hj h
def Ays (P : Program) (f : FuncId) : Prop:=∃ fn,P.funcs[f]? = some fn∧(fn.name == "runtime.NumGoroutine")=false∧fn.body.isNone=true∧Extern.findNext fn=none∧Extern.find fn=some Go.Extern.BytealgCompare.compare
end Go.Abs
