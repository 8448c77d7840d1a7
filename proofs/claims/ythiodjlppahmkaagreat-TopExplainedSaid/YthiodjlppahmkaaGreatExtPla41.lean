import Derived.Test.YthiodjlppahmkaaGreatExtWal28
import Derived.Test.YthiodjlppahmkaaGreatExtLay24
set_option linter.unusedVariables false
set_option linter.unusedSimpArgs false
namespace Go.TF
open Go Go.Abs
theorem AaT {α : Type} {c : Prop} [Decidable c] {x : Option α} (h : c) : chk c x=x:=by simp [chk,h]
theorem Aae {α β : Type} {l : List α} {i : Nat} {f : α→Option β} (h : i<l.length) : idx l (i : Int) f=f l[i]:=by
 simp [idx,h]
@[simp] theorem AaJ {α γ : Type} (a : α) (f : α→Option γ) : AbK (some a) f=f a:=rfl
@[simp] theorem Aa7 {α β γ : Type} (a : α) (b : β) (f : α→β→Option γ) : Agk (some (a,b)) f=f a b:=rfl
@[simp] theorem AdN {α β δ γ : Type} (a : α) (b : β) (c : δ) (f : α→β→δ→Option γ) : Ao4 (some (a,b,c)) f=f a b c:=rfl
@[simp] theorem AhK {α β δ ε γ : Type} (a : α) (b : β) (c : δ) (d : ε) (f : α→β→δ→ε→Option γ) : Auj (some (a,b,c,d)) f=f a b c d:=rfl
@[simp] theorem Aiv {α γ : Type} (x : α) (f : α→Option γ) : Arl x f=f x:=rfl
theorem w64 {n : Int} (h1 : -9223372036854775808≤n) (h2 : n≤9223372036854775807) : IntKind.wrap .i64 n=n:=AnY h1 h2
end Go.TF
set_option linter.unusedVariables false
set_option linter.unusedSimpArgs false
namespace Go.TF
open Go Go.Abs
def AvW (a b : Int) : Int:=if b<1 then 0 else if Int.tmod a b<0 then IntKind.wrap .i64 (Int.tmod a b+b) else Int.tmod a b
theorem AwG (k : Nat) (a b : Int) : Adg k a b=some (AvW a b):=by
 unfold Adg AvW Adg.J1
 split; · rfl
 rw [AaT (by omega)]
 split <;> rfl
theorem Aop (a b : Int) (h1 : 1≤b) (h2 : b≤1000000000) : 0≤AvW a b∧AvW a b<b:=by
 have:=Int.tmod_lt_of_pos a (show 0<b by omega)
 have:=Int.lt_tmod_of_pos a (show 0<b by omega)
 unfold AvW
 rw [if_neg (by omega)]
 split
 ·rw [w64 (by omega) (by omega)]; omega
 ·omega
abbrev Pos (p : Int) : Prop:=0≤p∧p≤1000000000
theorem Ada (k : Nat) (l : List Int) (p n : Int) (hl : l.length≤1000000000) (hp : Pos p) : ∃ a q,Aa5 k l p n=some (a,q)∧Pos q∧(1≤n→n≤1000000000→0≤a∧a<n):=by
 unfold Aa5
 by_cases h : (l.length : Int)≤p
 ·rw [if_pos h]; exact ⟨0,p,rfl,hp,fun _ _=>by omega⟩
 ·rw [if_neg h]
  obtain ⟨i,rfl⟩:=Int.eq_ofNat_of_zero_le hp.1
  have e1 : IntKind.wrap .i64 (IntKind.wrap .i64 ((i : Int)+1)-1)=i:=by
   rw [w64 (n:=(i : Int)+1) (by omega) (by omega),w64 (by omega) (by omega)]; omega
  rw [e1,Aae (by omega),AwG,AaJ,w64 (by omega) (by omega)]
  exact ⟨_,_,rfl,by omega,fun h1 h2=>Aop _ _ h1 h2⟩
theorem AsK (k : Nat) (l : List Int) : Af7 k l=some (decide ((l.length : Int)≤400)):=rfl
theorem AuG (k : Nat) (l : List Int) : Ag8 k l=some (l,0):=rfl
end Go.TF
set_option linter.unusedVariables false
set_option linter.unusedSimpArgs false
namespace Go.TF
open Go Go.Abs
theorem Acv (i : Nat) (h : i<9223372036854775807) : IntKind.wrap .i64 ((i : Int)+1)=((i+1 : Nat) : Int):=by rw [w64 (by omega) (by omega)]; omega
theorem ArV (i : Nat) (h : i<9223372036854775806) : IntKind.wrap .i64 (((i+1 : Nat) : Int)-1)=(i : Int):=by rw [w64 (by omega) (by omega)]; omega
theorem Alc (k : Nat) (l : List Int) (x : Int) (h9 : l.length≤1000000) : ∀ (m i n : Nat),i+m=l.length→m<n→Abk.L1 k l x n (i : Int)=some (decide (x ∈ l.drop i))
 | 0,i,n+1,h,_=>by rw [Abk.L1,if_neg (by omega),List.drop_eq_nil_of_le (by omega)]; rfl
 | m+1,i,n+1,h,hn=>by
  have hi : i<l.length:=by omega
  rw [Abk.L1,if_pos (by omega),Aae hi,List.drop_eq_getElem_cons hi]
  by_cases e : l[i]=x
  ·rw [if_pos e]; simp [-List.getElem_cons_drop,e]
  ·rw [if_neg e,Acv i (by omega),Alc k l x h9 m (i+1) n (by omega) (by omega)]
   have e' : ¬ x=l[i]:=fun q=>e q.symm
   simp [-List.getElem_cons_drop,e']
theorem Aha (k : Nat) (l : List Int) (x : Int) (hk : l.length<k) (h9 : l.length≤1000000) : Abk k l x=some (decide (x ∈ l)):=Alc k l x h9 l.length 0 k (by omega) hk
theorem Aia (k : Nat) (l : List Int) (x : Int) (h9 : l.length≤1000000) : ∀ (m i n : Nat),i+m=l.length→m<n→∃ r,Aaz.L1 k l x n (i : Int)=some r∧(0≤r↔x ∈ l.drop i)
 | 0,i,n+1,h,_=>by rw [Aaz.L1,if_neg (by omega),List.drop_eq_nil_of_le (by omega)]; exact ⟨_,rfl,by simp⟩
 | m+1,i,n+1,h,hn=>by
  have hi : i<l.length:=by omega
  rw [Aaz.L1,if_pos (by omega),Aae hi,List.drop_eq_getElem_cons hi]
  by_cases e : x=l[i]
  ·rw [if_pos e]; exact ⟨_,rfl,by simp [-List.getElem_cons_drop,e]⟩
  ·rw [if_neg e,Acv i (by omega)]
   obtain ⟨r,h1,h2⟩:=Aia k l x h9 m (i+1) n (by omega) (by omega)
   exact ⟨r,h1,by rw [h2]; simp [-List.getElem_cons_drop,e]⟩
theorem Afd (k : Nat) (l : List Int) (x : Int) (hk : l.length<k) (h9 : l.length≤1000000) : AbG k l x=some (decide (x ∈ l)):=by
 unfold AbG Aaz
 obtain ⟨r,h1,h2⟩:=Aia k l x h9 l.length 0 k (by omega) hk
 rw [show (0 : Int)=((0 : Nat) : Int) from rfl,h1,AaJ]
 simp only [List.drop_zero] at h2
 simp [← h2]
def prv {α : Type} (l : List α) : Nat→Option α
 | 0=>none
 | i+1=>l[i]?
theorem AjU {α : Type} {l : List α} {i : Nat} (h : i<l.length) : prv l (i+1)=some l[i]:=List.getElem?_eq_getElem h
def loI : Option Int→Int→Bool
 | none,_=>true
 | some y,x=>decide (y<x)
def setF (N : Int) : Option Int→List Int→Bool
 | _,[]=>true
 | p,x::l=>decide (0≤x)&&decide (x<N)&&loI p x&&setF N (some x) l
theorem Ala (k : Nat) (l : List Int) (N : Int) (h9 : l.length≤1000000) : ∀ (m i n : Nat),i+m=l.length→m<n→Abt.L1 k l N n (i : Int)=some (setF N (prv l i) (l.drop i))
 | 0,i,n+1,h,_=>by rw [Abt.L1,if_neg (by omega),List.drop_eq_nil_of_le (by omega)]; rfl
 | m+1,i,n+1,h,hn=>by
  have hi : i<l.length:=by omega
  rw [Abt.L1,if_pos (by omega),Aae hi,List.drop_eq_getElem_cons hi,setF]
  by_cases h1 : l[i]<0
  ·rw [if_pos h1]; have : ¬ 0≤l[i]:=by omega
   simp [this]
  rw [if_neg h1]
  by_cases h2 : N≤l[i]
  ·rw [if_pos h2]; have : ¬ l[i]<N:=by omega
   simp [this]
  rw [if_neg h2]
  have a1 : 0≤l[i]:=by omega
  have a2 : l[i]<N:=by omega
  have ih:=Ala k l N h9 m (i+1) n (by omega) (by omega)
  rw [AjU hi] at ih
  unfold Abt.J2
  simp only [Acv i (by omega),ih]
  cases i with
  | zero=>rw [if_neg (by omega)]; simp [prv,loI,a1,a2]
  | succ j =>
   rw [if_pos (by omega),ArV j (by omega),Aae (by omega : j<l.length),AjU (by omega)]
   by_cases h3 : l[j+1]≤l[j]
   ·rw [if_pos h3]; have : ¬ l[j]<l[j+1]:=by omega
    simp [loI,this]
   ·rw [if_neg h3]; have : l[j]<l[j+1]:=by omega
    simp [loI,this,a1,a2]
theorem As8 (k : Nat) (l : List Int) (N : Int) (hk : l.length<k) (h9 : l.length≤1000000) : Abt k l N=some (setF N none l):=Ala k l N h9 l.length 0 k (by omega) hk
theorem AlY (k : Nat) (l : List Int) (N : Int) (h9 : l.length≤1000000) : ∀ (m i n : Nat),i+m=l.length→m<n→Aa2.L1 k l 0 (N-1) n (i : Int)=some (setF N (prv l i) (l.drop i))
 | 0,i,n+1,h,_=>by rw [Aa2.L1,if_neg (by omega),List.drop_eq_nil_of_le (by omega)]; rfl
 | m+1,i,n+1,h,hn=>by
  have hi : i<l.length:=by omega
  rw [Aa2.L1,if_pos (by omega),Aae hi,List.drop_eq_getElem_cons hi,setF]
  by_cases h1 : l[i]<0
  ·rw [if_pos h1]; have : ¬ 0≤l[i]:=by omega
   simp [this]
  rw [if_neg h1]
  by_cases h2 : N-1<l[i]
  ·rw [if_pos h2]; have : ¬ l[i]<N:=by omega
   simp [this]
  rw [if_neg h2]
  have a1 : 0≤l[i]:=by omega
  have a2 : l[i]<N:=by omega
  have ih:=AlY k l N h9 m (i+1) n (by omega) (by omega)
  rw [AjU hi] at ih
  unfold Aa2.J2
  simp only [Acv i (by omega),ih]
  cases i with
  | zero=>rw [if_neg (by omega)]; simp [prv,loI,a1,a2]
  | succ j =>
   rw [if_pos (by omega),ArV j (by omega),Aae (by omega : j<l.length),AjU (by omega)]
   by_cases h3 : l[j+1]≤l[j]
   ·rw [if_pos h3]; have : ¬ l[j]<l[j+1]:=by omega
    simp [loI,this]
   ·rw [if_neg h3]; have : l[j]<l[j+1]:=by omega
    simp [loI,this,a1,a2]
theorem Amt (k : Nat) (l : List Int) (N : Int) (hk : l.length<k) (h9 : l.length≤1000000) (hN : -1000000≤N∧N≤1000000) : Aa2 k l 0 (IntKind.wrap .i64 (N-1))=some (setF N none l):=by
 rw [w64 (by omega) (by omega)]; exact AlY k l N h9 l.length 0 k (by omega) hk
theorem AlR (N : Int) : ∀ (l : List Int) (p : Option Int),setF N p l=true↔(∀ x ∈ l,0≤x∧x<N)∧l.Pairwise (· < ·)∧(∀ q,p=some q→∀ x ∈ l,q<x)
 | [],p=>by simp [setF]
 | x::l,p=>by
  rw [setF]
  simp only [Bool.and_eq_true,decide_eq_true_eq,AlR N l (some x),List.mem_cons,List.pairwise_cons]
  constructor
  ·rintro ⟨⟨⟨h1,h2⟩,h3⟩,h4,h5,h6⟩
   refine ⟨fun y hy=>?_,⟨fun y hy=>h6 x rfl y hy,h5⟩,fun q hq y hy=>?_⟩
   ·rcases hy with rfl | hy
    ·exact ⟨h1,h2⟩
    ·exact h4 y hy
   ·subst hq
    simp only [loI,decide_eq_true_eq] at h3
    rcases hy with rfl | hy
    ·exact h3
    ·have:=h6 x rfl y hy; omega
  ·rintro ⟨h1,⟨h2,h3⟩,h4⟩
   refine ⟨⟨h1 x (.inl rfl),?_⟩,fun y hy=>h1 y (.inr hy),h3,fun q hq y hy=>?_⟩
   ·cases p with
    | none=>rfl
    | some q=>simp only [loI,decide_eq_true_eq]; exact h4 q rfl x (.inl rfl)
   ·simp only [Option.some.injEq] at hq; subst hq; exact h2 y hy
theorem Af1 (N : Int) (l : List Int) : setF N none l=true↔(∀ x ∈ l,0≤x∧x<N)∧l.Pairwise (· < ·):=by
 rw [AlR]; simp
theorem AjF : ∀ (l : List Int) (a N : Int),(∀ x ∈ l,a≤x∧x<N)→l.Pairwise (· < ·)→a≤N→(l.length : Int)≤N-a
 | [],a,N,_,_,h=>by simp; omega
 | x::l,a,N,h1,h2,h=>by
  rw [List.pairwise_cons] at h2
  have hx:=h1 x (by simp)
  have:=AjF l (x+1) N (fun y hy=>⟨by have:=h2.1 y hy; omega,(h1 y (by simp [hy])).2⟩) h2.2 (by omega)
  simp only [List.length_cons]; omega
def bef (a b : AaB) : Bool:=decide (a.From<b.From∨(a.From=b.From∧a.To<b.To))
def okE (N : Int) (g : List Int) (e : AaB) : Bool:=decide (0≤e.From∧e.From<N∧0≤e.To∧e.To<N∧e.From≠e.To∧1≤e.Level∧e.Level≤3∧e.From ∉ g∧e.To ∉ g)
def loE : Option AaB→AaB→Bool
 | none,_=>true
 | some q,e=>bef q e
def edF (N : Int) (g : List Int) : Option AaB→List AaB→Bool
 | _,[]=>true
 | p,e::l=>okE N g e&&loE p e&&edF N g (some e) l
def okG (N : Int) (E : List AaB) (g : List Int) : Bool:=decide (0≤N∧N≤64∧E.length≤500)&&(setF N none g&&edF N g none E)
theorem AmZ (k : Nat) (a b c d e f : Int) : Adl k a b c d e f=some (decide (a<d∨(a=d∧b<e))):=by
 unfold Adl
 by_cases h : a<d
 ·rw [if_pos h]; simp [h]
 ·rw [if_neg h]
  by_cases h2 : a=d
  ·rw [if_pos h2]; simp [h2]
  ·rw [if_neg h2]; simp [h,h2]
theorem Aid (k : Nat) (N : Int) (E : List AaB) (g : List Int) (hg : g.length<k) (hg9 : g.length≤1000000) (h9 : E.length≤1000000) : ∀ (m i n : Nat),i+m=E.length→m<n→Aax.L1 k N E g n (i : Int)=some (if edF N g (prv E i) (E.drop i) then 0 else 14)
 | 0,i,n+1,h,_=>by rw [Aax.L1,if_neg (by omega),List.drop_eq_nil_of_le (by omega)]; rfl
 | m+1,i,n+1,h,hn=>by
  have hi : i<E.length:=by omega
  have ih:=Aid k N E g hg hg9 h9 m (i+1) n (by omega) (by omega)
  rw [AjU hi] at ih
  rw [Aax.L1,if_pos (by omega),Aae hi,List.drop_eq_getElem_cons hi,edF]
  unfold Aax.J2
  simp only [Aha k g _ hg hg9,AaJ,Acv i (by omega),ih]
  generalize edF N g (some E[i]) (E.drop (i+1))=R
  by_cases a1 : E[i].From<0
  ·rw [if_pos a1]; have : okE N g E[i]=false:=by unfold okE; rw [decide_eq_false_iff_not]; omega
   simp [this]
  rw [if_neg a1]
  by_cases a2 : N≤E[i].From
  ·rw [if_pos a2]; have : okE N g E[i]=false:=by unfold okE; rw [decide_eq_false_iff_not]; omega
   simp [this]
  rw [if_neg a2]
  by_cases a3 : E[i].To<0
  ·rw [if_pos a3]; have : okE N g E[i]=false:=by unfold okE; rw [decide_eq_false_iff_not]; omega
   simp [this]
  rw [if_neg a3]
  by_cases a4 : N≤E[i].To
  ·rw [if_pos a4]; have : okE N g E[i]=false:=by unfold okE; rw [decide_eq_false_iff_not]; omega
   simp [this]
  rw [if_neg a4]
  by_cases a5 : E[i].From=E[i].To
  ·rw [if_pos a5]; have : okE N g E[i]=false:=by unfold okE; rw [decide_eq_false_iff_not]; omega
   simp [this]
  rw [if_neg a5]
  by_cases a6 : E[i].Level<1
  ·rw [if_pos a6]; have : okE N g E[i]=false:=by unfold okE; rw [decide_eq_false_iff_not]; omega
   simp [this]
  rw [if_neg a6]
  by_cases a7 : 3<E[i].Level
  ·rw [if_pos a7]; have : okE N g E[i]=false:=by unfold okE; rw [decide_eq_false_iff_not]; omega
   simp [this]
  rw [if_neg a7]
  have ok : okE N g E[i]=(!decide (E[i].From ∈ g) && !decide (E[i].To ∈ g)):=by
   unfold okE
   by_cases b1 : E[i].From ∈ g <;> by_cases b2 : E[i].To ∈ g <;> simp [b1,b2] <;> omega
  rw [ok]
  cases i with
  | zero =>
   rw [if_neg (by omega)]
   by_cases b1 : E[0].From ∈ g <;> by_cases b2 : E[0].To ∈ g <;> simp [b1,b2,prv,loE]
  | succ j =>
   rw [if_pos (by omega),ArV j (by omega),Aae (by omega : j<E.length),AjU (by omega),AmZ,AaJ]
   rw [show loE (some E[j]) E[j+1]=bef E[j] E[j+1] from rfl]
   have hb : decide (E[j].From<E[j+1].From∨(E[j].From=E[j+1].From∧E[j].To<E[j+1].To))=bef E[j] E[j+1]:=rfl
   rw [hb]
   by_cases b0 : bef E[j] E[j+1]=true
   ·by_cases b1 : E[j+1].From ∈ g <;> by_cases b2 : E[j+1].To ∈ g <;> simp [b0,b1,b2]
   ·simp only [Bool.not_eq_true] at b0
    simp [b0]
theorem Apa (k : Nat) (N : Int) (E : List AaB) (g : List Int) (hk : 500<k) (hg : g.length<k) (hg9 : g.length≤1000000) : Aax k N E g=some (if okG N E g then 0 else 14):=by
 unfold Aax okG
 by_cases h1 : N<0
 ·rw [if_pos h1]; have : ¬ (0≤N∧N≤64∧E.length≤500):=by omega
  simp [this]
 rw [if_neg h1]
 by_cases h2 : 64<N
 ·rw [if_pos h2]; have : ¬ (0≤N∧N≤64∧E.length≤500):=by omega
  simp [this]
 rw [if_neg h2]
 by_cases h3 : 500<(E.length : Int)
 ·rw [if_pos h3]; have : ¬ (0≤N∧N≤64∧E.length≤500):=by omega
  simp [this]
 rw [if_neg h3,As8 k g N hg hg9,AaJ]
 have : (0≤N∧N≤64∧E.length≤500):=by omega
 by_cases h4 : setF N none g=true
 ·rw [if_neg (by simp [h4])]
  have:=Aid k N E g hg hg9 (by omega) E.length 0 k (by omega) (by omega)
  rw [show (0 : Int)=((0 : Nat) : Int) from rfl,this]
  simp only [prv,List.drop_zero,h4,Bool.true_and]
  have q : (0≤N∧N≤64∧E.length≤500):=by omega
  simp [q]
 ·rw [if_pos (by simpa using h4)]
  simp only [Bool.not_eq_true] at h4
  simp [h4]
theorem Ath (k : Nat) (N : Int) (E : List AaB) (g : List Int) (f t l : Int) (hg : g.length<k) (hg9 : g.length≤1000000) (hN : -1000000≤N∧N≤1000000) : Af9 k N E g f t l=some (decide (0≤f∧f<N∧0≤t∧t<N∧f≠t∧f ∉ g∧t ∉ g)):=by
 have hin : ∀ x : Int,Abf k x 0 (IntKind.wrap .i64 (N-1))=some (decide (0≤x∧x<N)):=by
  intro x
  rw [w64 (by omega) (by omega)]
  unfold Abf
  by_cases h : 0≤x
  ·rw [if_pos h]
   by_cases h2 : x<N
   ·have : x≤N-1:=by omega
    simp [h,h2,this]
   ·have : ¬ x≤N-1:=by omega
    simp [h,h2,this]
  ·rw [if_neg h]; simp [h]
 unfold Af9
 simp only [hin,AaJ,Afd k g _ hg hg9]
 by_cases h1 : 0≤f∧f<N
 ·by_cases h2 : 0≤t∧t<N
  ·by_cases h3 : f=t
   ·simp [h1,h2,h3]
   ·by_cases h4 : f ∈ g <;> by_cases h5 : t ∈ g <;> simp [h1,h2,h3,h4,h5]
  ·have : ¬ (0≤f∧f<N∧0≤t∧t<N∧f≠t∧f ∉ g∧t ∉ g):=by omega
   rw [decide_eq_false this]; simp [h1,h2]
 ·have : ¬ (0≤f∧f<N∧0≤t∧t<N∧f≠t∧f ∉ g∧t ∉ g):=by omega
  rw [decide_eq_false this]; simp [h1]
theorem Aqd (k : Nat) (a b : Int) : AcU k a b=some (if a<b then -1 else if b<a then 1 else 0):=by
 unfold AcU AcL
 simp
 split
 ·rfl
 ·split <;> rfl
theorem AxB (k : Nat) (a b : Int) (hk : 2<k) : AcT k [a,b]=some (if a≠0 then a else b):=by
 obtain ⟨q,rfl⟩ : ∃ q,k=q+3:=⟨k-3,by omega⟩
 unfold AcT
 rw [AcT.L1,if_pos (by simp),show (0 : Int)=((0 : Nat) : Int) from rfl,Aae (by simp),Acv 0 (by omega)]
 by_cases h : a=0
 ·rw [show (if a≠((0 : Nat) : Int) then a else b)=b by simp [h],if_neg (by simpa using h),AcT.L1,if_pos (by simp),Aae (by simp),Acv 1 (by omega)]
  by_cases h2 : b=0
  ·rw [if_neg (by simpa using h2),AcT.L1,if_neg (by simp)]; simp [h2]
  ·rw [if_pos (by simpa using h2)]; simp
 ·rw [show (if a≠((0 : Nat) : Int) then a else b)=a by simp [h],if_pos (by simpa using h)]; simp
theorem Ao3 (k : Nat) (a b : AaB) (hk : 2<k) : ∃ r,Ad4 k a.From a.To a.Level b.From b.To b.Level=some r∧(0≤r↔bef a b=false):=by
 unfold Ad4
 simp only [Aqd,AaJ,AxB k _ _ hk]
 refine ⟨_,rfl,?_⟩
 unfold bef
 rw [decide_eq_false_iff_not]
 by_cases h1 : a.From<b.From
 ·simp [h1]
 ·by_cases h2 : b.From<a.From
  ·simp [h1,h2]; omega
  ·have h3 : a.From=b.From:=by omega
   by_cases h4 : a.To<b.To
   ·simp [h3,h4]
   ·by_cases h5 : b.To<a.To
    ·simp [h3,h4,h5]
    ·simp [h3,h4,h5]
theorem Ai4 (k : Nat) (N : Int) (E : List AaB) (g : List Int) (hk : 2<k) (hg : g.length<k) (hg9 : g.length≤1000000) (h9 : E.length≤1000000) (hN : -1000000≤N∧N≤1000000) : ∀ (m i n : Nat),i+m=E.length→m<n→AbO.L1 k N E g n (i : Int)=some (if edF N g (prv E i) (E.drop i) then 0 else 14)
 | 0,i,n+1,h,_=>by rw [AbO.L1,if_neg (by omega),List.drop_eq_nil_of_le (by omega)]; rfl
 | m+1,i,n+1,h,hn=>by
  have hi : i<E.length:=by omega
  have ih:=Ai4 k N E g hk hg hg9 h9 hN m (i+1) n (by omega) (by omega)
  rw [AjU hi] at ih
  rw [AbO.L1,if_pos (by omega),Aae hi,List.drop_eq_getElem_cons hi,edF,Ath k N E g _ _ _ hg hg9 hN,AaJ]
  unfold AbO.J2 Abf
  simp only [Acv i (by omega),ih]
  generalize edF N g (some E[i]) (E.drop (i+1))=R
  by_cases a1 : (0≤E[i].From∧E[i].From<N∧0≤E[i].To∧E[i].To<N∧E[i].From≠E[i].To∧E[i].From ∉ g∧E[i].To ∉ g)
  ·rw [if_neg (by simp [a1])]
   by_cases a2 : 1≤E[i].Level
   ·rw [if_pos a2,AaJ]
    by_cases a3 : E[i].Level≤3
    ·rw [if_neg (by simp [a3])]
     have ok : okE N g E[i]=true:=by
      unfold okE; rw [decide_eq_true_eq]
      obtain ⟨c1,c2,c3,c4,c5,c6,c7⟩:=a1
      exact ⟨c1,c2,c3,c4,c5,a2,a3,c6,c7⟩
     rw [ok]
     cases i with
     | zero=>rw [if_neg (by omega)]; simp [prv,loE]
     | succ j =>
      rw [if_pos (by omega),ArV j (by omega),Aae (by omega : j<E.length),AjU (by omega)]
      obtain ⟨r,e1,e2⟩:=Ao3 k E[j] E[j+1] hk
      rw [e1,AaJ]
      rw [show loE (some E[j]) E[j+1]=bef E[j] E[j+1] from rfl]
      by_cases b : bef E[j] E[j+1]=true
      ·rw [if_neg (by rw [e2,b]; simp)]; simp [b]
      ·simp only [Bool.not_eq_true] at b
       rw [if_pos (e2.2 b)]; simp [b]
    ·rw [if_pos (by simpa using a3)]
     have ok : okE N g E[i]=false:=by unfold okE; rw [decide_eq_false_iff_not]; omega
     simp [ok]
   ·rw [if_neg a2,AaJ,if_pos (by simp)]
    have ok : okE N g E[i]=false:=by unfold okE; rw [decide_eq_false_iff_not]; omega
    simp [ok]
  ·rw [if_pos (by rw [decide_eq_false a1]; rfl)]
   have ok : okE N g E[i]=false:=by
    unfold okE; rw [decide_eq_false_iff_not]
    rintro ⟨c1,c2,c3,c4,c5,_,_,c6,c7⟩
    exact a1 ⟨c1,c2,c3,c4,c5,c6,c7⟩
   simp [ok]
theorem AqB (k : Nat) (N : Int) (E : List AaB) (g : List Int) (hk : 500<k) (hg : g.length<k) (hg9 : g.length≤1000000) : AbO k N E g=some (if okG N E g then 0 else 14):=by
 unfold AbO okG Abf
 by_cases h1 : 0≤N
 ·rw [if_pos h1,AaJ]
  by_cases h2 : N≤64
  ·rw [if_neg (by simp [h2])]
   by_cases h3 : 500<(E.length : Int)
   ·rw [if_pos h3]; have : ¬ (0≤N∧N≤64∧E.length≤500):=by omega
    simp [this]
   rw [if_neg h3,Amt k g N hg hg9 (by omega),AaJ]
   by_cases h4 : setF N none g=true
   ·rw [if_neg (by simp [h4])]
    have:=Ai4 k N E g (by omega) hg hg9 (by omega) (by omega) E.length 0 k (by omega) (by omega)
    rw [show (0 : Int)=((0 : Nat) : Int) from rfl,this]
    simp only [prv,List.drop_zero,h4,Bool.true_and]
    have q : (0≤N∧N≤64∧E.length≤500):=by omega
    simp [q]
   ·rw [if_pos (by simpa using h4)]
    simp only [Bool.not_eq_true] at h4
    simp [h4]
  ·rw [if_pos (by simpa using h2)]; have : ¬ (0≤N∧N≤64∧E.length≤500):=by omega
   simp [this]
 ·rw [if_neg h1,AaJ,if_pos (by simp)]; have : ¬ (0≤N∧N≤64∧E.length≤500):=by omega
  simp [this]
theorem Ama {a b c : AaB} (h1 : bef a b=true) (h2 : bef b c=true) : bef a c=true:=by
 unfold bef at *; rw [decide_eq_true_eq] at *; omega
theorem AoE (N : Int) (g : List Int) : ∀ (l : List AaB) (p : Option AaB),edF N g p l=true↔(∀ x ∈ l,okE N g x=true)∧l.Pairwise (fun a b=>bef a b=true)∧(∀ q,p=some q→∀ x ∈ l,bef q x=true)
 | [],p=>by simp [edF]
 | x::l,p=>by
  rw [edF]
  simp only [Bool.and_eq_true,AoE N g l (some x),List.mem_cons,List.pairwise_cons]
  constructor
  ·rintro ⟨⟨h1,h3⟩,h4,h5,h6⟩
   refine ⟨fun y hy=>?_,⟨fun y hy=>h6 x rfl y hy,h5⟩,fun q hq y hy=>?_⟩
   ·rcases hy with rfl | hy
    ·exact h1
    ·exact h4 y hy
   ·subst hq
    rcases hy with rfl | hy
    ·exact h3
    ·exact Ama h3 (h6 x rfl y hy)
  ·rintro ⟨h1,⟨h2,h3⟩,h4⟩
   refine ⟨⟨h1 x (.inl rfl),?_⟩,fun y hy=>h1 y (.inr hy),h3,fun q hq y hy=>?_⟩
   ·cases p with
    | none=>rfl
    | some q=>exact h4 q rfl x (.inl rfl)
   ·simp only [Option.some.injEq] at hq; subst hq; exact h2 y hy
theorem Adx (N : Int) (E : List AaB) (g : List Int) : okG N E g=true↔(0≤N∧N≤64∧E.length≤500)∧((∀ x ∈ g,0≤x∧x<N)∧g.Pairwise (· < ·))∧(∀ x ∈ E,okE N g x=true)∧E.Pairwise (fun a b=>bef a b=true):=by
 unfold okG
 rw [Bool.and_eq_true,Bool.and_eq_true,Af1,AoE,decide_eq_true_eq]; simp
theorem Am9 (N : Int) (g : List Int) (e : AaB) : okE N g e=true↔0≤e.From∧e.From<N∧0≤e.To∧e.To<N∧e.From≠e.To∧1≤e.Level∧e.Level≤3∧e.From ∉ g∧e.To ∉ g:=by
 unfold okE; rw [decide_eq_true_eq]
end Go.TF
namespace Go.TF.Dist
def dst (E : List (Int×Int)) (S : Int→Bool) : Nat→Int→Int
 | 0,v=>if S v then 0 else -1
 | k+1,v=>if dst E S k v ≠ -1 then dst E S k v else if E.any (fun e=>e.2==v&&dst E S k e.1==(k : Int)) then (k : Int)+1 else -1
variable {E : List (Int×Int)} {S : Int→Bool}
theorem dst_range (k : Nat) (v : Int) : dst E S k v = -1∨(0≤dst E S k v∧dst E S k v≤k):=by
 induction k with
 | zero=>unfold dst; split <;> simp
 | succ k ih =>
  unfold dst; split
  ·rcases ih with h | h
   ·contradiction
   ·right; omega
  ·split
   ·right; omega
   ·left; rfl
theorem Ak8 {k : Nat} {v : Int} (h : dst E S k v ≠ -1) : ∀ j,dst E S (k+j) v=dst E S k v:=by
 intro j; induction j with
 | zero=>rfl
 | succ j ih=>rw [← Nat.add_assoc]; rw [show dst E S (k+j+1) v=if dst E S (k+j) v ≠ -1 then dst E S (k+j) v else _ from rfl,if_pos (by rw [ih]; exact h),ih]
theorem dst_succ {k : Nat} {v : Int} : dst E S (k+1) v=(k : Int)+1↔dst E S k v = -1∧∃ u,(u,v) ∈ E∧dst E S k u=k:=by
 have hr:=dst_range (E:=E) (S:=S) k v
 rw [show dst E S (k+1) v=if dst E S k v ≠ -1 then dst E S k v else if E.any (fun e=>e.2==v&&dst E S k e.1==(k : Int)) then (k : Int)+1 else -1 from rfl]
 by_cases h : dst E S k v ≠ -1
 ·rw [if_pos h]; constructor
  ·intro e; omega
  ·intro e; exact absurd e.1 h
 ·rw [if_neg h]; have h' : dst E S k v = -1:=Classical.not_not.1 h
  split
  ·rename_i a
   simp only [List.any_eq_true,Bool.and_eq_true,beq_iff_eq] at a
   obtain ⟨⟨x,y⟩,m,rfl,e⟩:=a
   exact ⟨fun _=>⟨h',x,m,e⟩,fun _=>rfl⟩
  ·rename_i a
   simp only [List.any_eq_true,Bool.and_eq_true,beq_iff_eq,not_exists,not_and] at a
   exact ⟨fun e=>by omega,fun ⟨_,u,m,e⟩=>absurd e (a (u,v) m rfl)⟩
theorem dst_step {k : Nat} {v : Int} : dst E S (k+1) v=if dst E S (k+1) v=(k : Int)+1 then (k : Int)+1 else dst E S k v:=by
 have hr:=dst_range (E:=E) (S:=S) k v
 by_cases h : dst E S (k+1) v=(k : Int)+1
 ·rw [if_pos h,h]
 ·rw [if_neg h]
  rw [show dst E S (k+1) v=if dst E S k v ≠ -1 then dst E S k v else if E.any (fun e=>e.2==v&&dst E S k e.1==(k : Int)) then (k : Int)+1 else -1 from rfl] at h ⊢
  split
  ·rfl
  ·rename_i a
   rw [if_neg a] at h
   rw [Classical.not_not.1 a]
   split
   ·rename_i b; rw [if_pos b] at h; exact absurd rfl h
   ·rfl
theorem dst_stop {k : Nat} (h : ∀ v,dst E S k v≠(k : Int)) : ∀ j v,dst E S (k+j) v=dst E S k v:=by
 intro j; induction j with
 | zero=>intro v; rfl
 | succ j ih =>
  intro v; rw [← Nat.add_assoc,dst_step,if_neg,ih]
  rw [show ((k+j : Nat) : Int)+1=((k+j : Nat) : Int)+1 from rfl,dst_succ]
  rintro ⟨_,u,_,e⟩
  rw [ih] at e
  have hr:=dst_range (E:=E) (S:=S) k u
  by_cases hj : j=0
  ·subst hj; exact h u (by simpa using e)
  ·omega
def cnt (E : List (Int×Int)) (S : Int→Bool) (n k : Nat) : Nat:=((List.range n).filter fun (x : Nat)=>decide (dst E S k (x : Int) ≠ -1)).length
theorem AjB (n k : Nat) : cnt E S n k≤n:=by
 unfold cnt; exact Nat.le_trans (List.length_filter_le _ _) (by simp)
theorem AqH {α : Type} (p q : α→Bool) (l : List α) (h : ∀ x ∈ l,p x=true→q x=true) (y : α) (hy : y ∈ l) (hp : p y=false) (hq : q y=true) : (l.filter p).length<(l.filter q).length:=by
 induction l with
 | nil=>cases hy
 | cons a l ih =>
  have hle : (l.filter p).length≤(l.filter q).length:=by
   clear ih hy
   induction l with
   | nil=>simp
   | cons b l ih =>
    have ih':=ih (fun x hx=>h x (by rcases List.mem_cons.1 hx with rfl | hx; simp; exact List.mem_cons_of_mem _ (List.mem_cons_of_mem _ hx)))
    by_cases hb : p b=true
    ·simp [List.filter_cons,hb,h b (by simp) hb]; exact ih'
    ·by_cases hb' : q b=true
     ·simp [List.filter_cons,hb,hb']; omega
     ·simp [List.filter_cons,hb,hb']; exact ih'
  rcases List.mem_cons.1 hy with rfl | hy
  ·simp [List.filter_cons,hp,hq]; omega
  ·have:=ih (fun x hx=>h x (List.mem_cons_of_mem _ hx)) hy
   by_cases ha : p a=true
   ·simp [List.filter_cons,ha,h a (by simp) ha]; exact this
   ·by_cases ha' : q a=true
    ·simp [List.filter_cons,ha,ha']; omega
    ·simp [List.filter_cons,ha,ha']; exact this
theorem Avr (n : Nat) (hS : ∀ v,S v=true→0≤v∧v<n) (hE : ∀ e ∈ E,0≤e.2∧e.2<n) : ∀ k : Nat,(∃ v,dst E S k v=(k : Int))→k+1≤cnt E S n k:=by
 have hin : ∀ (k : Nat) (v : Int),dst E S k v ≠ -1→0≤v∧v<n:=by
  intro k; induction k with
  | zero=>intro v h; unfold dst at h; split at h; exact hS v ‹_›; exact absurd rfl h
  | succ k ih =>
   intro v h; unfold dst at h; split at h
   ·exact ih v ‹_›
   ·split at h
    ·rename_i a
     simp only [List.any_eq_true,Bool.and_eq_true,beq_iff_eq] at a
     obtain ⟨e,m,rfl,_⟩:=a
     exact hE e m
    ·exact absurd rfl h
 intro k; induction k with
 | zero =>
  rintro ⟨v,h⟩
  have hv:=hin 0 v (by rw [h]; simp)
  have : 0<cnt E S n 0:=by
   unfold cnt
   apply List.length_pos_of_mem (a:=v.toNat)
   rw [List.mem_filter]
   refine ⟨by simp; omega,?_⟩
   rw [decide_eq_true_iff,show ((v.toNat : Nat) : Int)=v by omega,h]; simp
  omega
 | succ k ih =>
  rintro ⟨v,h⟩
  have h':=(dst_succ (k:=k) (v:=v)).1 (by simpa using h)
  obtain ⟨h1,u,m,h2⟩:=h'
  have:=ih ⟨u,h2⟩
  have hv:=hin (k+1) v (by rw [h]; simp; omega)
  have : cnt E S n k<cnt E S n (k+1):=by
   unfold cnt
   refine AqH _ _ _ (fun x _ hx=>?_) v.toNat (by simp; omega) ?_ ?_
   ·rw [decide_eq_true_iff] at hx ⊢
    rw [Ak8 hx 1]; exact hx
   ·rw [decide_eq_false_iff_not,show ((v.toNat : Nat) : Int)=v by omega,h1]; simp
   ·rw [decide_eq_true_iff,show ((v.toNat : Nat) : Int)=v by omega,h]; simp; omega
  omega
theorem dst_lt (n : Nat) (hS : ∀ v,S v=true→0≤v∧v<n) (hE : ∀ e ∈ E,0≤e.2∧e.2<n) (k : Nat) (v : Int) (h : dst E S k v=(k : Int)) : k<n:=by
 have:=Avr (E:=E) (S:=S) n hS hE k ⟨v,h⟩; have:=AjB (E:=E) (S:=S) n k; omega
theorem dst_at : ∀ (k j : Nat) (v : Int),dst E S k v=(j : Int)→dst E S j v=(j : Int):=by
 intro k; induction k with
 | zero =>
  intro j v h
  have:=dst_range (E:=E) (S:=S) 0 v
  have : j=0:=by omega
  subst this; exact h
 | succ k ih =>
  intro j v h
  by_cases e : j=k+1
  ·subst e; exact h
  ·rw [dst_step] at h
   by_cases e' : dst E S (k+1) v=(k : Int)+1
   ·rw [if_pos e'] at h; omega
   ·rw [if_neg e'] at h; exact ih j v h
theorem dst_from {k j : Nat} {u v : Int} (h : dst E S k u=(j : Int)) (hj : j<k) (he : (u,v) ∈ E) : dst E S k v ≠ -1:=by
 have h1:=dst_at k j u h
 have : dst E S (j+1) v ≠ -1:=by
  by_cases e : dst E S j v = -1
  ·rw [show dst E S (j+1) v=(j : Int)+1 from (dst_succ).2 ⟨e,u,he,h1⟩]; omega
  ·rw [Ak8 e 1]; exact e
 obtain ⟨d,rfl⟩ : ∃ d,k=j+1+d:=⟨k-(j+1),by omega⟩
 rw [Ak8 this d]; exact this
end Go.TF.Dist
set_option linter.unusedVariables false
set_option linter.unusedSimpArgs false
namespace Go.TF
open Go Go.Abs
def tab (N : Nat) (f : Int→Int) : List Int:=(List.range N).map fun (v : Nat)=>f (v : Int)
@[simp] theorem AfB (N : Nat) (f : Int→Int) : (tab N f).length=N:=by simp [tab]
theorem AkQ {N : Nat} {f : Int→Int} {i : Nat} (h : i<(tab N f).length) : (tab N f)[i]=f (i : Int):=by simp [tab]
theorem AdH {β : Type} {N : Nat} {f : Int→Int} {x : Int} {F : Int→Option β} (h0 : 0≤x) (h1 : x<N) : idx (tab N f) x F=F (f x):=by
 obtain ⟨i,rfl⟩:=Int.eq_ofNat_of_zero_le h0
 rw [Aae (by simp; omega),AkQ]
theorem Abq {N : Nat} {f g : Int→Int} (h : ∀ v : Int,0≤v→v<N→f v=g v) : tab N f=tab N g :=
 List.map_congr_left fun v hv=>h v (by omega) (by have:=List.mem_range.1 hv; omega)
theorem AkP {N : Nat} {f : Int→Int} {x y : Int} (h0 : 0≤x) : (tab N f).set x.toNat y=tab N fun v=>if v=x then y else f v:=by
 obtain ⟨i,rfl⟩:=Int.eq_ofNat_of_zero_le h0
 refine List.ext_getElem (by simp) fun j h1 h2=>?_
 rw [List.getElem_set,AkQ,AkQ]
 by_cases e : i=j
 ·subst e; simp
 ·have : ¬ (j : Int)=(i : Int):=by omega
  simp [e,this]
def pr (e : AaB) : Int×Int:=(e.From,e.To)
abbrev dE (E : List AaB) (S : Int→Bool):=Dist.dst (E.map pr) S
def inE (N : Nat) (E : List AaB) : Prop:=∀ e ∈ E,0≤e.From∧e.From<N∧0≤e.To∧e.To<N
def sS (s g : List Int) (v : Int) : Bool:=decide (v ∈ s) && !decide (v ∈ g)
def mid (E : List AaB) (S : Int→Bool) (r i : Nat) (v : Int) : Int :=
 if dE E S r v ≠ -1 then dE E S r v else if (E.take i).any (fun e=>e.To==v&&dE E S r e.From==(r : Int)) then (r : Int)+1 else -1
end Go.TF
set_option linter.unusedVariables false
set_option linter.unusedSimpArgs false
namespace Go.TF
open Go Go.Abs
theorem take_set {α : Type} {l : List α} {i : Nat} {x : α} (h : i<l.length) : (l.set i x).take (i+1)=l.take i++[x]:=by
 rw [List.set_eq_take_append_cons_drop,if_pos h]
 have hl : (l.take i).length=i:=by rw [List.length_take]; omega
 have : (l.take i++x::l.drop (i+1)).take (i+1)=((l.take i++[x])++l.drop (i+1)).take (l.take i++[x]).length:=by
  rw [List.length_append,hl]; simp
 rw [this,List.take_left']; rfl
theorem Ane {α : Type} {l : List α} {i n : Nat} {z : α} (h : i≤l.length) : (l.take i++List.replicate n z).take i=l.take i:=by
 rw [List.take_left']; rw [List.length_take]; omega
structure Del {α : Type} (p : α→Bool) (L l : List α) (i j : Nat) : Prop where
 len : l.length=L.length
 lt : i<j
 le : j≤L.length
 kept : l.take i=(L.take j).filter p
 rest : l.drop j=L.drop j
theorem Del.keep {α : Type} {p : α→Bool} {L l : List α} {i j : Nat} (D : Del p L l i j) (h : j<L.length) (hp : p L[j]=true) : Del p L (l.set i L[j]) (i+1) (j+1) where
 len:=by rw [List.length_set,D.len]
 lt:=by have:=D.lt; omega
 le:=h
 kept:=by
  have:=D.lt
  rw [take_set (by rw [D.len]; omega),D.kept,List.take_succ_eq_append_getElem h,List.filter_append]; simp [hp]
 rest:=by
  have:=D.lt
  rw [List.drop_set_of_lt (by omega)]
  have:=congrArg (List.drop 1) D.rest
  rwa [List.drop_drop,List.drop_drop] at this
theorem Del.pass {α : Type} {p : α→Bool} {L l : List α} {i j : Nat} (D : Del p L l i j) (h : j<L.length) (hp : p L[j]=false) : Del p L l i (j+1) where
 len:=D.len
 lt:=by have:=D.lt; omega
 le:=h
 kept:=by rw [D.kept,List.take_succ_eq_append_getElem h,List.filter_append]; simp [hp]
 rest:=by
  have:=congrArg (List.drop 1) D.rest
  rwa [List.drop_drop,List.drop_drop] at this
theorem Del.at {α : Type} {p : α→Bool} {L l : List α} {i j : Nat} (D : Del p L l i j) (h : j<l.length) : l[j]=L[j]'(by rw [← D.len]; exact h):=by
 have h' : j<L.length:=by rw [← D.len]; exact h
 have:=D.rest
 rw [List.drop_eq_getElem_cons h,List.drop_eq_getElem_cons h'] at this
 exact (List.cons.inj this).1
theorem Del.first {α : Type} {p : α→Bool} {L : List α} {i : Nat} (h : i<L.length) (h1 : ∀ x ∈ L.take i,p x=true) (h2 : p L[i]=false) : Del p L L i (i+1) where
 len:=rfl
 lt:=by omega
 le:=h
 kept:=by
  rw [List.take_succ_eq_append_getElem h,List.filter_append,List.filter_eq_self.2 h1]; simp [h2]
 rest:=rfl
def Aok (d : List Int) (y : Int) : Bool := !decide (0≤y∧y<d.length)||decide (0≤d.getD y.toNat 0)
theorem Aq3 (k : Nat) (d : List Int) (y : Int) (h9 : d.length≤1000000) : Ac0 k y d=some (Aok d y):=by
 unfold Ac0 Abf Aok
 rw [w64 (by omega) (by omega)]
 by_cases h : 0≤y
 ·rw [if_pos h,AaJ]
  by_cases h2 : y<d.length
  ·obtain ⟨i,rfl⟩:=Int.eq_ofNat_of_zero_le h
   have h3 : i<d.length:=by omega
   rw [if_neg (by simp; omega),AaT ⟨h,by omega⟩,Aae h3]
   simp [h2,List.getD_eq_getElem?_getD,List.getElem?_eq_getElem h3]
  ·rw [if_pos (by simp; omega)]; simp [h2]
 ·rw [if_neg h,AaJ,if_pos (by simp)]; simp [h]
theorem Al7 (k : Nat) (L d : List Int) (h9 : L.length≤1000000) (hd : d.length≤1000000) : ∀ (m i n : Nat),i+m=L.length→m<n→(∀ x ∈ L.take i,(!Aok d x)=true)→∃ r,Aai.L1 k L d n (i : Int)=some r∧((r = -1∧∀ x ∈ L,(!Aok d x)=true)∨∃ j : Nat,∃ h : j<L.length,r=(j : Int)∧(!Aok d L[j])=false∧∀ x ∈ L.take j,(!Aok d x)=true)
 | 0,i,n+1,h,_,hp=>by
  rw [Aai.L1,if_neg (by omega)]
  rw [List.take_of_length_le (by omega)] at hp
  exact ⟨_,rfl,.inl ⟨rfl,hp⟩⟩
 | m+1,i,n+1,h,hn,hp=>by
  have hi : i<L.length:=by omega
  rw [Aai.L1,if_pos (by omega),Aae hi,Aq3 k d _ hd,AaJ]
  by_cases e : Aok d L[i]=true
  ·rw [if_pos e]; exact ⟨_,rfl,.inr ⟨i,hi,rfl,by simp [e],hp⟩⟩
  ·rw [if_neg e,Acv i (by omega)]
   refine Al7 k L d h9 hd m (i+1) n (by omega) (by omega) fun x hx=>?_
   rw [List.take_succ_eq_append_getElem hi,List.mem_append] at hx
   rcases hx with hx | hx
   ·exact hp x hx
   ·simp only [List.mem_singleton] at hx; subst hx; simpa using e
theorem Ai8 (k : Nat) (L d : List Int) (h9 : L.length≤1000000) (hd : d.length≤1000000) : ∀ (m j i n : Nat) (l : List Int),j+m=L.length→m<n→Del (fun x => !Aok d x) L l i j→AaQ.L1 k d n (i : Int) (j : Int) l=some (L.filter fun x => !Aok d x)
 | 0,j,i,n+1,l,h,_,D=>by
  have h1:=D.len; have h2:=D.lt; have h3:=D.le
  rw [AaQ.L1,if_neg (by omega),AaT (by omega),AaT (by omega),Aiv,AaT (by simp; omega)]
  rw [show ((i : Int)).toNat=i by omega,Ane (by omega),D.kept,List.take_of_length_le (by omega)]
 | m+1,j,i,n+1,l,h,hn,D=>by
  have h1:=D.len; have h2:=D.lt; have h3:=D.le
  have hj : j<l.length:=by omega
  have hj' : j<L.length:=by omega
  rw [AaQ.L1,if_pos (by omega),AaT (by omega),Aae hj,Aq3 k d _ hd,AaJ,D.at hj]
  unfold AaQ.J2
  simp only [Acv j (by omega),Acv i (by omega)]
  by_cases e : (!Aok d L[j])=true
  ·rw [if_pos e,AaT (by omega),show ((i : Int)).toNat=i by omega]
   exact Ai8 k L d h9 hd m (j+1) (i+1) n _ (by omega) (by omega) (D.keep hj' e)
  ·rw [if_neg e]
   exact Ai8 k L d h9 hd m (j+1) i n _ (by omega) (by omega) (D.pass hj' (by simpa using e))
theorem At0 (k : Nat) (L d : List Int) (hk : L.length<k) (h9 : L.length≤1000000) (hd : d.length≤1000000) : AaQ k L d=some (L.filter fun x => !Aok d x):=by
 unfold AaQ Aai
 obtain ⟨r,e,c⟩:=Al7 k L d h9 hd L.length 0 k (by omega) hk (by simp)
 rw [show (0 : Int)=((0 : Nat) : Int) from rfl,e,AaJ]
 rcases c with ⟨rfl,c⟩ | ⟨j,hj,rfl,c1,c2⟩
 ·rw [if_pos rfl,List.filter_eq_self.2 c]
 ·rw [if_neg (by omega),Acv j (by omega)]
  exact Ai8 k L d h9 hd (L.length-(j+1)) (j+1) j k L (by omega) (by omega) (Del.first hj c2 c1)
def lvE (lv : Int) (e : AaB) : Bool:=decide (lv≤e.Level)
theorem AsZ (k : Nat) (e : AaB) (lv : Int) : Acp k e.From e.To e.Level lv=some (!lvE lv e):=by
 unfold Acp lvE
 by_cases h : lv≤e.Level
 ·have : ¬ e.Level<lv:=by omega
  simp [h,this]
 ·have : e.Level<lv:=by omega
  simp [h,this]
theorem Al8 (k : Nat) (L : List AaB) (lv : Int) (h9 : L.length≤1000000) : ∀ (m i n : Nat),i+m=L.length→m<n→(∀ x ∈ L.take i,lvE lv x=true)→∃ r,AaW.L1 k L lv n (i : Int)=some r∧((r = -1∧∀ x ∈ L,lvE lv x=true)∨∃ j : Nat,∃ h : j<L.length,r=(j : Int)∧lvE lv L[j]=false∧∀ x ∈ L.take j,lvE lv x=true)
 | 0,i,n+1,h,_,hp=>by
  rw [AaW.L1,if_neg (by omega)]
  rw [List.take_of_length_le (by omega)] at hp
  exact ⟨_,rfl,.inl ⟨rfl,hp⟩⟩
 | m+1,i,n+1,h,hn,hp=>by
  have hi : i<L.length:=by omega
  rw [AaW.L1,if_pos (by omega),Aae hi,AsZ,AaJ]
  by_cases e : lvE lv L[i]=true
  ·rw [if_neg (by simp [e]),Acv i (by omega)]
   refine Al8 k L lv h9 m (i+1) n (by omega) (by omega) fun x hx=>?_
   rw [List.take_succ_eq_append_getElem hi,List.mem_append] at hx
   rcases hx with hx | hx
   ·exact hp x hx
   ·simp only [List.mem_singleton] at hx; subst hx; exact e
  ·rw [if_pos (by simpa using e)]; exact ⟨_,rfl,.inr ⟨i,hi,rfl,by simpa using e,hp⟩⟩
theorem Ai9 (k : Nat) (L : List AaB) (lv : Int) (h9 : L.length≤1000000) : ∀ (m j i n : Nat) (l : List AaB),j+m=L.length→m<n→Del (lvE lv) L l i j→AaH.L1 k lv n (i : Int) (j : Int) l=some (L.filter (lvE lv))
 | 0,j,i,n+1,l,h,_,D=>by
  have h1:=D.len; have h2:=D.lt; have h3:=D.le
  rw [AaH.L1,if_neg (by omega),AaT (by omega),AaT (by omega),Aiv,AaT (by simp; omega)]
  rw [show ((i : Int)).toNat=i by omega,Ane (by omega),D.kept,List.take_of_length_le (by omega)]
 | m+1,j,i,n+1,l,h,hn,D=>by
  have h1:=D.len; have h2:=D.lt; have h3:=D.le
  have hj : j<l.length:=by omega
  have hi : i<l.length:=by omega
  have hj' : j<L.length:=by omega
  rw [AaH.L1,if_pos (by omega),Aae hj,AsZ,AaJ,D.at hj]
  unfold AaH.J2
  simp only [Acv j (by omega),Acv i (by omega)]
  by_cases e : lvE lv L[j]=true
  ·rw [if_pos (by simp [e]),Aae hi,show ((i : Int)).toNat=i by omega]
   exact Ai9 k L lv h9 m (j+1) (i+1) n _ (by omega) (by omega) (D.keep hj' e)
  ·rw [if_neg (by simpa using e)]
   exact Ai9 k L lv h9 m (j+1) i n _ (by omega) (by omega) (D.pass hj' (by simpa using e))
theorem At1 (k : Nat) (L : List AaB) (lv : Int) (hk : L.length<k) (h9 : L.length≤1000000) : AaH k L lv=some (L.filter (lvE lv)):=by
 unfold AaH AaW
 obtain ⟨r,e,c⟩:=Al8 k L lv h9 L.length 0 k (by omega) hk (by simp)
 rw [show (0 : Int)=((0 : Nat) : Int) from rfl,e,AaJ]
 rcases c with ⟨rfl,c⟩ | ⟨j,hj,rfl,c1,c2⟩
 ·rw [if_pos rfl,List.filter_eq_self.2 c]
 ·rw [if_neg (by omega),Acv j (by omega)]
  exact Ai9 k L lv h9 (L.length-(j+1)) (j+1) j k L (by omega) (by omega) (Del.first hj c2 c1)
theorem Ai3 (k : Nat) (N : Int) (E : List AaB) (g : List Int) (lv : Int) (hk : E.length<k) (h9 : E.length≤1000000) (hg9 : g.length≤1000000) : Aca k N E g lv=some (N,E.filter (lvE lv),g):=by
 unfold Aca Aep Abr AbZ
 rw [AaT (by omega),AaJ,AaT (by omega),AaJ,AdN,At1 k E lv hk h9,AaJ]
theorem Agf (k : Nat) (E : List AaB) (lv N : Int) (g : List Int) (h9 : E.length≤1000000) : ∀ (m i n : Nat) (acc : List AaB),i+m=E.length→m<n→acc=(E.take i).filter (lvE lv)→AbN.L1 k E lv N g n (i : Int) acc=some (N,E.filter (lvE lv),g)
 | 0,i,n+1,acc,h,_,ha=>by
  rw [AbN.L1,if_neg (by omega),ha,List.take_of_length_le (by omega)]
 | m+1,i,n+1,acc,h,hn,ha=>by
  have hi : i<E.length:=by omega
  have hl : acc.length≤i:=by rw [ha]; exact Nat.le_trans (List.length_filter_le _ _) (by rw [List.length_take]; omega)
  have ht : (E.take (i+1)).filter (lvE lv)=acc++[E[i]].filter (lvE lv):=by rw [List.take_succ_eq_append_getElem hi,List.filter_append,ha]
  rw [AbN.L1,if_pos (by omega),Aae hi]
  unfold AbN.J2
  simp only [Acv i (by omega)]
  by_cases e : lv≤E[i].Level
  ·rw [if_pos e,AaT (by simp; omega)]
   exact Agf k E lv N g h9 m (i+1) n _ (by omega) (by omega) (by rw [ht]; simp [lvE,e])
  ·rw [if_neg e]
   exact Agf k E lv N g h9 m (i+1) n _ (by omega) (by omega) (by rw [ht]; simp [lvE,e])
theorem ApZ (k : Nat) (N : Int) (E : List AaB) (g : List Int) (lv : Int) (hk : E.length<k) (h9 : E.length≤1000000) (hg9 : g.length≤1000000) : AbN k N E g lv=some (N,E.filter (lvE lv),g):=by
 unfold AbN Adm
 rw [AaT (by omega),AaT (by omega),AdN]
 exact Agf k E lv N g h9 E.length 0 k [] (by omega) hk (by simp)
end Go.TF
set_option linter.unusedVariables false
set_option linter.unusedSimpArgs false
namespace Go.TF
open Go Go.Abs
def Ajd (a b : List Int) : Prop:=a.length=b.length∧∀ y,y ∈ a↔y ∈ b
theorem Ajd.trans {a b c : List Int} (h : Ajd a b) (h2 : Ajd b c) : Ajd a c:=⟨h.1.trans h2.1,fun y=>(h.2 y).trans (h2.2 y)⟩
theorem ApH (l : List Int) (j : Nat) (h : j+1<l.length) : Ajd ((l.set (j+1) l[j]).set j l[j+1]) l:=by
 refine ⟨by simp,fun y=>?_⟩
 rw [List.mem_iff_getElem,List.mem_iff_getElem]
 constructor
 ·rintro ⟨n,hn,rfl⟩
  simp only [List.length_set] at hn
  rw [List.getElem_set]
  by_cases e : j=n
  ·rw [if_pos e]; exact ⟨j+1,h,rfl⟩
  ·rw [if_neg e,List.getElem_set]
   by_cases e2 : j+1=n
   ·rw [if_pos e2]; exact ⟨j,by omega,rfl⟩
   ·rw [if_neg e2]; exact ⟨n,hn,rfl⟩
 ·rintro ⟨n,hn,rfl⟩
  by_cases e : n=j
  ·subst e
   refine ⟨n+1,by simpa using h,?_⟩
   rw [List.getElem_set,if_neg (by omega),List.getElem_set,if_pos rfl]
  ·by_cases e2 : n=j+1
   ·subst e2
    refine ⟨j,by simp; omega,?_⟩
    rw [List.getElem_set,if_pos rfl]
   ·refine ⟨n,by simpa using hn,?_⟩
    rw [List.getElem_set,if_neg (by omega),List.getElem_set,if_neg (by omega)]
theorem AtU (k : Nat) (a b : Int) : Aef k a b=some (decide (a<b)):=by
 unfold Aef AcL; simp
theorem Asb (k : Nat) (v4 : Int) (kb : Int→List Int→Option (List Int)) : ∀ (j n : Nat) (l : List Int),j<l.length→j<n→l.length≤1000000→∃ l',AaL.L3 k 0 v4 kb n (j : Int) l=kb (IntKind.wrap .i64 (v4+1)) l'∧Ajd l' l
 | 0,n+1,l,_,_,_=>by
  rw [AaL.L3,if_neg (by omega)]
  exact ⟨l,rfl,rfl,fun _=>Iff.rfl⟩
 | j+1,n+1,l,h,hn,h9=>by
  have hj : j<l.length:=by omega
  rw [AaL.L3,if_pos (by omega),AaT (by omega),Aae h,ArV j (by omega),AaT (by omega),Aae hj,AtU,AaJ]
  by_cases e : l[j+1]<l[j]
  ·rw [if_pos (by simpa using e),AaT (by omega),AaT (by omega),AaT (by omega),AaT (by simp; omega)]
   rw [show (((j+1 : Nat) : Int)).toNat=j+1 by omega,show ((j : Int)).toNat=j by omega]
   have S:=ApH l j h
   obtain ⟨l',e1,e2⟩:=Asb k v4 kb j n ((l.set (j+1) l[j]).set j l[j+1]) (by simp; omega) (by omega) (by simpa using h9)
   exact ⟨l',e1,e2.trans S⟩
  ·rw [if_neg (by simpa using e)]
   exact ⟨l,rfl,rfl,fun _=>Iff.rfl⟩
theorem Asc (k N : Nat) (hN : N<k) (h9 : N≤1000000) : ∀ (m i n : Nat) (l : List Int),i+m=N→m<n→l.length=N→∃ l',AaL.L1 k 0 (N : Int) n (i : Int) l=some l'∧Ajd l' l
 | 0,i,n+1,l,h,_,hl=>by
  rw [AaL.L1,if_neg (by omega)]
  exact ⟨l,rfl,rfl,fun _=>Iff.rfl⟩
 | m+1,i,n+1,l,h,hn,hl=>by
  rw [AaL.L1,if_pos (by omega)]
  obtain ⟨l1,e1,e2⟩:=Asb k (i : Int) (fun v4_ v5_=>AaL.L1 k 0 (N : Int) n v4_ v5_) i k l (by omega) (by omega) (by omega)
  rw [e1]
  simp only [Acv i (by omega)]
  obtain ⟨l2,e3,e4⟩:=Asc k N hN h9 m (i+1) n l1 (by omega) (by omega) (by rw [e2.1,hl])
  exact ⟨l2,e3,e4.trans e2⟩
theorem Axa : ∀ m : Fin 13,(AdG 0 (IntKind.wrap .u64 ((m.val : Nat) : Int))).isSome=true:=by decide
theorem As3 (k : Nat) (l : List Int) (hl : l.length≤12) (hk : 20<k) : ∃ l',AcY k l=some l'∧Ajd l' l:=by
 unfold AcY
 have h0 : AdG k (IntKind.wrap .u64 (l.length : Int))=AdG 0 (IntKind.wrap .u64 (l.length : Int)):=rfl
 have h1:=Axa ⟨l.length,by omega⟩
 obtain ⟨v,hv⟩:=Option.isSome_iff_exists.1 h1
 simp only at hv
 rw [h0,hv,AaJ]
 unfold Aa4
 obtain ⟨q,rfl⟩ : ∃ q,k=q+1:=⟨k-1,by omega⟩
 rw [Aa4.L1,w64 (by omega) (by omega),if_pos (by omega)]
 unfold AaL
 by_cases e : l.length=0
 ·rw [w64 (by omega) (by omega),AaL.L1,if_neg (by omega),AaJ,AaT rfl,AaJ,AaT rfl]
  exact ⟨l,rfl,rfl,fun _=>Iff.rfl⟩
 ·have:=Asc (q+1) l.length (by omega) (by omega) (l.length-1) 1 (q+1) l (by omega) (by omega) rfl
  obtain ⟨l',e1,e2⟩:=this
  rw [show IntKind.wrap .i64 ((0 : Int)+1)=((1 : Nat) : Int) from Acv 0 (by omega),e1,AaJ,AaT e2.1,AaJ,AaT e2.1]
  exact ⟨l',rfl,e2⟩
def outs (E : List AaB) (x : Int) : List Int:=(E.filter fun e=>e.From==x).map (·.To)
theorem AiD {E : List AaB} {x y : Int} : y ∈ outs E x↔∃ e ∈ E,e.From=x∧e.To=y:=by
 unfold outs
 simp only [List.mem_map,List.mem_filter,beq_iff_eq]
 constructor
 ·rintro ⟨e,⟨h1,h2⟩,h3⟩; exact ⟨e,h1,h2,h3⟩
 ·rintro ⟨e,h1,h2,h3⟩; exact ⟨e,⟨h1,h2⟩,h3⟩
theorem Akm (k : Nat) (E : List AaB) (x : Int) (h9 : E.length≤1000000) (ho : (outs E x).length≤12) (hk : 20<k) : ∀ (m i n : Nat) (acc : List Int),i+m=E.length→m<n→acc=outs (E.take i) x→∃ l,Abv.L1 k E x n (i : Int) acc=some l∧Ajd l (outs E x)
 | 0,i,n+1,acc,h,_,ha=>by
  rw [List.take_of_length_le (by omega)] at ha
  rw [Abv.L1,if_neg (by omega),ha]
  obtain ⟨l,e1,e2⟩:=As3 k (outs E x) ho hk
  rw [e1,AaJ,AaT e2.1]
  exact ⟨l,rfl,e2⟩
 | m+1,i,n+1,acc,h,hn,ha=>by
  have hi : i<E.length:=by omega
  have hl : acc.length≤i:=by rw [ha,outs,List.length_map]; exact Nat.le_trans (List.length_filter_le _ _) (by rw [List.length_take]; omega)
  have ht : outs (E.take (i+1)) x=acc++outs [E[i]] x:=by unfold outs; rw [List.take_succ_eq_append_getElem hi,List.filter_append,List.map_append,ha]; rfl
  rw [Abv.L1,if_pos (by omega),Aae hi]
  unfold Abv.J2
  simp only [Acv i (by omega)]
  by_cases e : E[i].From=x
  ·rw [if_pos e,AaT (by simp; omega)]
   exact Akm k E x h9 ho hk m (i+1) n _ (by omega) (by omega) (by rw [ht]; simp [outs,e])
  ·rw [if_neg e]
   exact Akm k E x h9 ho hk m (i+1) n _ (by omega) (by omega) (by rw [ht]; simp [outs,e])
theorem AvJ (k : Nat) (N : Int) (E : List AaB) (g : List Int) (x : Int) (h9 : E.length≤1000000) (hE : E.length<k) (ho : (outs E x).length≤12) (hk : 20<k) : ∃ l,Abv k N E g x=some l∧Ajd l (outs E x) :=
 Akm k E x h9 ho hk E.length 0 k [] (by omega) hE (by simp [outs])
theorem Aw5 : ∀ n : Fin 65,AbF 1000000000 [-1] (((n.val : Nat) : Int)+(if n.val=0 then 1 else 0))=some (List.replicate (n.val+if n.val=0 then 1 else 0) (-1)):=by decide +kernel
theorem Au6 (n : Nat) (h1 : 1≤n) (h2 : n≤64) : AbF 1000000000 [-1] (n : Int)=some (List.replicate n (-1)):=by
 have:=Aw5 ⟨n,by omega⟩
 simpa [show ¬ n=0 by omega] using this
def whF (p : Int→Bool) (i : Nat) : List Int:=((List.range i).filter fun (v : Nat)=>p (v : Int)).map fun (v : Nat)=>(v : Int)
theorem ArI (p : Int→Bool) (i : Nat) : whF p (i+1)=whF p i++if p (i : Int) then [(i : Int)] else []:=by
 unfold whF
 rw [List.range_succ,List.filter_append,List.map_append]
 by_cases h : p (i : Int)=true <;> simp [h]
theorem ApD (p : Int→Bool) (i : Nat) : (whF p i).length≤i:=by
 unfold whF; rw [List.length_map]; exact Nat.le_trans (List.length_filter_le _ _) (by simp)
theorem AtS {p : Int→Bool} {i : Nat} {y : Int} : y ∈ whF p i↔0≤y∧y<i∧p y=true:=by
 unfold whF
 simp only [List.mem_map,List.mem_filter,List.mem_range]
 constructor
 ·rintro ⟨v,⟨h1,h2⟩,rfl⟩; exact ⟨by omega,by omega,h2⟩
 ·rintro ⟨h1,h2,h3⟩
  obtain ⟨v,rfl⟩:=Int.eq_ofNat_of_zero_le h1
  exact ⟨v,⟨by omega,h3⟩,rfl⟩
theorem AuE (k : Nat) (v N : Int) (E : List AaB) (g s : List Int) (hg : g.length<k) (hg9 : g.length≤1000000) (hs : s.length<k) (hs9 : s.length≤1000000) : Adj k v N E g s=some (sS s g v):=by
 unfold Adj Aer sS
 rw [Afd k s v hs hs9,AaJ,Afd k g v hg hg9]
 by_cases h : v ∈ s <;> simp [h]
theorem ApC (k N : Nat) (E : List AaB) (g s : List Int) (hN : N≤1000000) (hg : g.length<k) (hg9 : g.length≤1000000) (hs : s.length<k) (hs9 : s.length≤1000000) : ∀ (m i n : Nat),i+m=N→m<n→Aaq.L1 k (N : Int) (N : Int) E g s n (i : Int) (whF (sS s g) i)=some (whF (sS s g) N)
 | 0,i,n+1,h,_=>by
  have : i=N:=by omega
  subst this
  rw [Aaq.L1,if_neg (by omega)]
 | m+1,i,n+1,h,hn=>by
  have hl:=ApD (sS s g) i
  have ih:=ApC k N E g s hN hg hg9 hs hs9 m (i+1) n (by omega) (by omega)
  rw [ArI] at ih
  rw [Aaq.L1,if_pos (by omega),AuE k _ _ E g s hg hg9 hs hs9,AaJ]
  unfold Aaq.J2
  simp only [Acv i (by omega)]
  by_cases e : sS s g (i : Int)=true
  ·rw [if_pos e] at ih
   rw [if_pos e,AaT (by simp; omega)]; exact ih
  ·rw [if_neg e] at ih
   rw [if_neg e]; simpa using ih
theorem At3 (E : List AaB) (T : List Int) (x : Int) (hx : x ∉ T) : (E.filter fun e=>decide (e.From ∈ T++[x])).length=(E.filter fun e=>decide (e.From ∈ T)).length+(outs E x).length:=by
 induction E with
 | nil=>rfl
 | cons e E ih =>
  have ho : outs (e::E) x=(if e.From=x then [e.To] else [])++outs E x:=by
   unfold outs
   by_cases h : e.From=x <;> simp [h]
  rw [ho,List.filter_cons,List.filter_cons]
  by_cases h1 : e.From ∈ T
  ·have h2 : ¬ e.From=x:=fun q=>hx (q ▸ h1)
   rw [if_pos (by simp [h1]),if_pos (by simp [h1]),if_neg h2]
   simp only [List.length_cons,List.nil_append]; omega
  ·by_cases h2 : e.From=x
   ·rw [if_pos (by simp [h2]),if_neg (by simp [h1]),if_pos h2]
    simp only [List.length_cons,List.length_append,List.length_nil]; omega
   ·rw [if_neg (by simp [h1,h2]),if_neg (by simp [h1]),if_neg h2]
    simp only [List.nil_append]; exact ih
theorem Ao0 (E : List AaB) (T U : List Int) (h : ∀ x,x ∈ T↔x ∈ U) : (E.filter fun e=>decide (e.From ∈ T))=E.filter fun e=>decide (e.From ∈ U):=by
 refine List.filter_congr fun e _=>?_
 simp [h]
def Amj (f0 : Int→Int) (F : List Int) (r : Int) (i : Nat) (v : Int) : Int:=if v ∈ F.take i then r else f0 v
structure Nxt (E : List AaB) (F : List Int) (i : Nat) (acc : List Int) : Prop where
 mem : ∀ y,y ∈ acc↔∃ x ∈ F.take i,y ∈ outs E x
 len : acc.length≤(E.filter fun e=>decide (e.From ∈ F.take i)).length
theorem Aq0 (k N : Nat) (E : List AaB) (g F : List Int) (r : Nat) (kb : List Int→Int→List Int→Option (List Int)) (f0 : Int→Int) (h9 : E.length≤1000000) (hE : E.length<k) (hk : 20<k) (ho : ∀ x,(outs E x).length≤12) (hF9 : F.length≤1000000) (hr : r≤1000000)
 (hF : ∀ x ∈ F,0≤x∧x<N∧f0 x = -1) : ∀ (m i n : Nat) (acc : List Int),i+m=F.length→m<n→Nxt E F i acc →
 ∃ acc',Aan.L2 k (N : Int) E g F (r : Int) kb n (i : Int) (tab N (Amj f0 F r i)) acc=(AbK (AaQ k acc' (tab N (Amj f0 F r F.length))) fun v=>kb v ((r+1 : Nat) : Int) (tab N (Amj f0 F r F.length)))∧Nxt E F F.length acc'
 | 0,i,n+1,acc,h,_,ha=>by
  have : i=F.length:=by omega
  subst this
  rw [Aan.L2,if_neg (by omega),Acv r (by omega)]
  exact ⟨acc,rfl,ha⟩
 | m+1,i,n+1,acc,h,hn,ha=>by
  have hi : i<F.length:=by omega
  obtain ⟨b1,b2,b3⟩:=hF F[i] (List.getElem_mem hi)
  have ht : F.take (i+1)=F.take i++[F[i]]:=List.take_succ_eq_append_getElem hi
  have hacc : acc.length≤E.length:=Nat.le_trans ha.len (List.length_filter_le _ _)
  rw [Aan.L2,if_pos (by omega),Aae hi,AaT ⟨b1,by simp; omega⟩,AdH b1 b2]
  unfold Aan.J3
  simp only [Acv i (by omega)]
  by_cases e : F[i] ∈ F.take i
  ·rw [if_pos (by unfold Amj; rw [if_pos e]; omega)]
   have hm : ∀ x,x ∈ F.take (i+1)↔x ∈ F.take i:=fun x=>by
    rw [ht,List.mem_append,List.mem_singleton]
    exact ⟨fun q=>q.elim id fun q=>q ▸ e,.inl⟩
   have ec : tab N (Amj f0 F r i)=tab N (Amj f0 F r (i+1)):=Abq fun v _ _=>by unfold Amj; simp only [hm]
   rw [ec]
   exact Aq0 k N E g F r kb f0 h9 hE hk ho hF9 hr hF m (i+1) n acc (by omega) (by omega) ⟨fun y=>by rw [ha.mem]; simp only [hm],by rw [Ao0 E _ _ hm]; exact ha.len⟩
  ·rw [if_neg (by unfold Amj; rw [if_neg e,b3]; omega),AaT ⟨b1,by simp; omega⟩]
   obtain ⟨l,e1,e2⟩:=AvJ k (N : Int) E g F[i] h9 hE (ho _) hk
   have hol:=ho F[i]
   rw [e1,AaJ,AaT (by rw [e2.1]; omega),AkP b1]
   have ec : tab N (fun v=>if v=F[i] then (r : Int) else Amj f0 F r i v)=tab N (Amj f0 F r (i+1)):=Abq fun v _ _=>by
    unfold Amj
    rw [ht]
    simp only [List.mem_append,List.mem_singleton]
    by_cases q : v=F[i]
    ·rw [if_pos q,if_pos (.inr q)]
    ·rw [if_neg q]; simp only [q,or_false]
   rw [ec]
   refine Aq0 k N E g F r kb f0 h9 hE hk ho hF9 hr hF m (i+1) n _ (by omega) (by omega) ⟨fun y=>?_,?_⟩
   ·rw [List.mem_append,ha.mem,e2.2,ht]
    constructor
    ·rintro (⟨x,q1,q2⟩ | q)
     ·exact ⟨x,List.mem_append.2 (.inl q1),q2⟩
     ·exact ⟨F[i],List.mem_append.2 (.inr List.mem_cons_self),q⟩
    ·rintro ⟨x,q1,q2⟩
     rw [List.mem_append,List.mem_singleton] at q1
     rcases q1 with q1 | rfl
     ·exact .inl ⟨x,q1,q2⟩
     ·exact .inr q2
   ·rw [ht,At3 E _ _ e,List.length_append,e2.1]
    have:=ha.len; omega
theorem Ara (N : Nat) (f : Int→Int) (y : Int) : (!Aok (tab N f) y)=decide (0≤y∧y<N∧f y<0):=by
 unfold Aok
 rw [AfB]
 by_cases h : 0≤y
 ·by_cases h2 : y<N
  ·obtain ⟨i,rfl⟩:=Int.eq_ofNat_of_zero_le h
   rw [show ((i : Int)).toNat=i by omega,List.getD_eq_getElem?_getD,List.getElem?_eq_getElem (by simp; omega),Option.getD_some,AkQ]
   by_cases h3 : f (i : Int)<0
   ·have : ¬ 0≤f (i : Int):=by omega
    simp [h2,h3,this]
   ·have : 0≤f (i : Int):=by omega
    simp [h2,h3,this]
  ·simp [h,h2]
 ·simp [h]
def frF (E : List AaB) (S : Int→Bool) (r : Nat) (v : Int) : Int:=if dE E S r v=(r : Int) then -1 else dE E S r v
theorem An5 {N : Nat} {E : List AaB} (hE : inE N E) : ∀ e ∈ E.map pr,0≤e.2∧e.2<N:=by
 intro e he
 obtain ⟨q,h1,rfl⟩:=List.mem_map.1 he
 have:=hE q h1
 exact ⟨this.2.2.1,this.2.2.2⟩
theorem Av9 (k N : Nat) (E : List AaB) (g : List Int) (S : Int→Bool) (h9 : E.length≤1000000) (hE9 : E.length<k) (hk : 20<k) (hN : N<k) (hN9 : N≤1000000) (ho : ∀ x,(outs E x).length≤12) (hE : inE N E) (hS : ∀ v,S v=true→0≤v∧v<N) : ∀ (m r n : Nat) (F : List Int),r+m=N→m<n→F.length<k→F.length≤1000000→(∀ y,y ∈ F↔dE E S r y=(r : Int)) →
 Aan.L1 k (N : Int) E g n F (r : Int) (tab N (frF E S r))=some (tab N (dE E S N)):=by
 intro m
 induction m with
 | zero =>
  intro r n F h hn hF hF9 hm
  obtain ⟨n,rfl⟩ : ∃ q,n=q+1:=⟨n-1,by omega⟩
  have hrN : r=N:=by omega
  subst hrN
  have hemp : F = []:=by
   cases F with
   | nil=>rfl
   | cons y F=>have:=Dist.dst_lt r hS (An5 hE) r y ((hm y).1 (by simp)); omega
  subst hemp
  rw [Aan.L1,if_neg (by simp)]
  congr 1
  refine Abq fun v _ _=>?_
  unfold frF
  rw [if_neg (fun q=>by have:=(hm v).2 q; simp at this)]
 | succ m ih =>
  intro r n F h hn hF hF9 hm
  obtain ⟨n,rfl⟩ : ∃ q,n=q+1:=⟨n-1,by omega⟩
  by_cases hemp : F = []
  ·subst hemp
   rw [Aan.L1,if_neg (by simp)]
   congr 1
   refine Abq fun v _ _=>?_
   have hne : ∀ v,dE E S r v≠(r : Int):=fun v q=>by have:=(hm v).2 q; simp at this
   unfold frF
   rw [if_neg (hne v)]
   have:=Dist.dst_stop (E:=E.map pr) (S:=S) (k:=r) hne (m+1) v
   rw [show N=r+(m+1) by omega]; exact this.symm
  ·have hpos : 0<F.length:=List.length_pos_iff.2 hemp
   have hrng : ∀ y ∈ F,0≤y∧y<(N : Int):=by
    intro y hy
    have h1:=(hm y).1 hy
    cases r with
    | zero =>
     have : dE E S 0 y=if S y then 0 else -1:=rfl
     rw [this] at h1
     by_cases q : S y=true
     ·exact hS y q
     ·rw [if_neg q] at h1; omega
    | succ r =>
     obtain ⟨_,u,hu,_⟩:=(Dist.dst_succ (E:=E.map pr) (S:=S) (k:=r) (v:=y)).1 (by rw [show dE E S (r+1) y=Dist.dst (E.map pr) S (r+1) y from rfl] at h1; rw [h1]; omega)
     exact An5 hE _ hu
   rw [Aan.L1,if_pos (by omega)]
   obtain ⟨acc,e1,e2⟩:=Aq0 k N E g F r (fun v8_ v9_ v10_=>Aan.L1 k (N : Int) E g n v8_ v9_ v10_) (frF E S r) h9 hE9 hk ho hF9 (by omega) (fun x hx=>⟨(hrng x hx).1,(hrng x hx).2,by unfold frF; rw [if_pos ((hm x).1 hx)]⟩) F.length 0 k [] (by omega) hF ⟨fun y=>by simp,by simp⟩
   have e0 : tab N (Amj (frF E S r) F r 0)=tab N (frF E S r):=Abq fun v _ _=>by unfold Amj; simp
   rw [e0] at e1
   have hacc : acc.length≤E.length:=Nat.le_trans e2.len (List.length_filter_le _ _)
   rw [show (0 : Int)=((0 : Nat) : Int) from rfl,e1,At0 k acc _ (by omega) (by omega) (by simp; omega),AaJ]
   have ecur : ∀ v,Amj (frF E S r) F r F.length v=dE E S r v:=by
    intro v
    unfold Amj frF
    rw [List.take_length]
    by_cases q : dE E S r v=(r : Int)
    ·rw [if_pos ((hm v).2 q),q]
    ·rw [if_neg (fun z=>q ((hm v).1 z)),if_neg q]
   have e3 : tab N (Amj (frF E S r) F r F.length)=tab N (frF E S (r+1)):=Abq fun v _ _=>by
    rw [ecur]
    unfold frF
    have h1:=Dist.dst_step (E:=E.map pr) (S:=S) (k:=r) (v:=v)
    by_cases q : dE E S (r+1) v=(r : Int)+1
    ·rw [if_pos (by rw [q]; omega)]
     exact (Dist.dst_succ.1 q).1
    ·rw [if_neg (fun z=>q (by rw [z]; omega))]
     rw [if_neg q] at h1
     exact h1.symm
   rw [e3]
   refine ih (r+1) n _ (by omega) (by omega) (Nat.lt_of_le_of_lt (Nat.le_trans (List.length_filter_le _ _) hacc) hE9) (Nat.le_trans (Nat.le_trans (List.length_filter_le _ _) hacc) h9) fun y=>?_
   rw [List.mem_filter,← e3,Ara,ecur,decide_eq_true_eq,e2.mem,List.take_length]
   have hs:=Dist.dst_succ (E:=E.map pr) (S:=S) (k:=r) (v:=y)
   have hr':=Dist.dst_range (E:=E.map pr) (S:=S) r y
   show _↔Dist.dst (E.map pr) S (r+1) y=((r+1 : Nat) : Int)
   rw [show ((r+1 : Nat) : Int)=(r : Int)+1 by omega,hs]
   constructor
   ·rintro ⟨⟨x,q1,q2⟩,q3,q4,q5⟩
    obtain ⟨e,z1,z2,z3⟩:=AiD.1 q2
    refine ⟨?_,x,List.mem_map.2 ⟨e,z1,by unfold pr; rw [z2,z3]⟩,(hm x).1 q1⟩
    change Dist.dst (E.map pr) S r y<0 at q5
    omega
   ·rintro ⟨q1,u,q2,q3⟩
    obtain ⟨e,z1,z2⟩:=List.mem_map.1 q2
    have hin:=hE e z1
    simp only [pr,Prod.mk.injEq] at z2
    refine ⟨⟨u,(hm u).2 q3,AiD.2 ⟨e,z1,z2.1,z2.2⟩⟩,by omega,by omega,?_⟩
    show Dist.dst (E.map pr) S r y<0
    omega
theorem Aqb (N : Nat) (E : List AaB) (g s : List Int) (hN1 : 1≤N) (hN : N≤64) (h9 : E.length≤500) (ho : ∀ x,(outs E x).length≤12) (hE : inE N E) (hg : g.length≤200) (hs : s.length≤200) (hsr : ∀ x ∈ s,0≤x∧x<N) :
 Aan 1000000000 (N : Int) E g s=some (tab N (dE E (sS s g) N)):=by
 unfold Aan
 rw [Aiv,if_pos (by omega),Au6 N hN1 hN,AaJ]
 unfold Aaq
 have hw:=ApC 1000000000 N E g s (by omega) (by omega) (by omega) (by omega) (by omega) N 0 1000000000 (by omega) (by omega)
 rw [show whF (sS s g) 0 = [] from rfl] at hw
 rw [show (0 : Int)=((0 : Nat) : Int) from rfl,hw,AaJ]
 have hS : ∀ v,sS s g v=true→0≤v∧v<N:=fun v h=>by
  unfold sS at h; simp only [Bool.and_eq_true,decide_eq_true_eq] at h; exact hsr v h.1
 have hl:=ApD (sS s g) N
 have:=Av9 1000000000 N E g (sS s g) (by omega) (by omega) (by omega) (by omega) (by omega) ho hE hS N 0 1000000000 (whF (sS s g) N) (by omega) (by omega) (by omega) (by omega) (fun y=>by
  rw [AtS,show dE E (sS s g) 0 y=if sS s g y then 0 else -1 from rfl]
  by_cases q : sS s g y=true
  ·have:=hS y q
   simp [q]; omega
  ·simp [q])
 rw [show List.replicate N (-1 : Int)=tab N (frF E (sS s g) 0) by
  unfold tab
  refine (List.eq_replicate_iff.2 ⟨by simp,fun b hb=>?_⟩).symm
  obtain ⟨v,_,rfl⟩:=List.mem_map.1 hb
  unfold frF
  rw [show dE E (sS s g) 0 (v : Int)=if sS s g (v : Int) then 0 else -1 from rfl]
  by_cases q : sS s g (v : Int)=true <;> simp [q]]
 exact this
end Go.TF
set_option linter.unusedVariables false
set_option linter.unusedSimpArgs false
namespace Go.TF
open Go Go.Abs
def ofC (t : List Int) (d : Int) : Int:=if d<0 then 0 else if d<t.length then t.getD d.toNat 0 else 1
theorem Av1 (k : Nat) (s t : List Int) (l d : Int) : AfI k s t l d=some (ofC t d):=by
 unfold AfI ofC
 by_cases h : d<0
 ·rw [if_pos h,if_pos h]
 rw [if_neg h,if_neg h]
 by_cases h2 : d<t.length
 ·obtain ⟨i,rfl⟩:=Int.eq_ofNat_of_zero_le (show 0≤d by omega)
  have h3 : i<t.length:=by omega
  rw [if_pos h2,if_pos h2,Aae h3]
  simp [List.getD_eq_getElem?_getD,List.getElem?_eq_getElem h3]
 ·rw [if_neg h2,if_neg h2]
theorem Aik {t : List Int} (ht : ∀ x ∈ t,0≤x∧x≤100000) (d : Int) : 0≤ofC t d∧ofC t d≤100000:=by
 unfold ofC
 by_cases h : d<0
 ·rw [if_pos h]; omega
 rw [if_neg h]
 by_cases h2 : d<t.length
 ·rw [if_pos h2,List.getD_eq_getElem?_getD,List.getElem?_eq_getElem (by omega),Option.getD_some]
  exact ht _ (List.getElem_mem _)
 ·rw [if_neg h2]; omega
structure GV (N : Nat) (E : List AaB) (g : List Int) : Prop where
 pos : 1≤N
 le : N≤12
 ok : okG N E g=true
theorem GV.inE {N : Nat} {E : List AaB} {g : List Int} (h : GV N E g) : inE N E:=by
 intro e he
 have:=(Am9 _ _ _).1 (((Adx _ _ _).1 h.ok).2.2.1 e he)
 exact ⟨this.1,this.2.1,this.2.2.1,this.2.2.2.1⟩
theorem GV.len {N : Nat} {E : List AaB} {g : List Int} (h : GV N E g) : E.length≤500:=((Adx _ _ _).1 h.ok).1.2.2
theorem GV.glen {N : Nat} {E : List AaB} {g : List Int} (h : GV N E g) : g.length≤12:=by
 have h1:=((Adx _ _ _).1 h.ok).2.1
 have:=AjF g 0 N h1.1 h1.2 (by omega)
 have:=h.le; omega
theorem Ant : ∀ (E : List AaB) (x : Int),E.Pairwise (fun a b=>bef a b=true)→(outs E x).Pairwise (· < ·)
 | [],_,_=>by simp [outs]
 | e::E,x,h=>by
  rw [List.pairwise_cons] at h
  have ih:=Ant E x h.2
  by_cases q : e.From=x
  ·have : outs (e::E) x=e.To::outs E x:=by unfold outs; simp [q]
   rw [this,List.pairwise_cons]
   refine ⟨fun y hy=>?_,ih⟩
   obtain ⟨e',h1,h2,h3⟩:=AiD.1 hy
   have:=h.1 e' h1
   unfold bef at this; rw [decide_eq_true_eq] at this; omega
  ·have : outs (e::E) x=outs E x:=by unfold outs; simp [q]
   rw [this]; exact ih
theorem GV.outs {N : Nat} {E : List AaB} {g : List Int} (h : GV N E g) (x : Int) : (outs E x).length≤12:=by
 have h1:=Ant E x ((Adx _ _ _).1 h.ok).2.2.2
 have:=AjF (Go.TF.outs E x) 0 N (fun y hy=>by
  obtain ⟨e,q1,_,q3⟩:=AiD.1 hy
  have:=h.inE e q1
  omega) h1 (by omega)
 have:=h.le; omega
theorem Aig (E : List AaB) (p : AaB→Bool) (x : Int) : (outs (E.filter p) x).length≤(outs E x).length:=by
 unfold outs
 rw [List.length_map,List.length_map]
 exact (List.filter_sublist.filter _).length_le
def AyT (N : Nat) (E : List AaB) (g s t : List Int) (lv : Int) : List Int:=tab N fun v=>ofC t (dE (E.filter (lvE lv)) (sS s g) N v)
theorem AmY (k N : Nat) (s t : List Int) (lv : Int) (f : Int→Int) (hN : N≤1000000) : ∀ (m i n : Nat),i+m=N→m<n→Abh.L1 k s t lv (tab N f) n (i : Int) (tab N fun v=>if v<i then ofC t (f v) else f v)=some (tab N fun v=>ofC t (f v))
 | 0,i,n+1,h,_=>by
  have : i=N:=by omega
  subst this
  rw [Abh.L1,if_neg (by simp)]
  congr 1
  exact Abq fun v _ h=>by rw [if_pos h]
 | m+1,i,n+1,h,hn=>by
  have ih:=AmY k N s t lv f hN m (i+1) n (by omega) (by omega)
  rw [Abh.L1,if_pos (by simp; omega),AaT (by simp; omega),AdH (by omega) (by omega),if_neg (by omega),Av1,AaJ,AaT (by simp; omega),Acv i (by omega),AkP (by omega),← ih]
  congr 1
  refine Abq fun v _ _=>?_
  by_cases q : v=(i : Int)
  ·subst q; rw [if_pos rfl,if_pos (by omega)]
  ·rw [if_neg q]
   by_cases q2 : v<(i : Int)
   ·rw [if_pos q2,if_pos (by omega)]
   ·rw [if_neg q2,if_neg (by omega)]
def mx0 (a : Int) : Int:=if 0<a then a else 0
def Ayq (Ev : List AaB) (s ks : List Int) (c : Int→Int) (x : Int) : Int :=
 if x ∈ ks then (if x ∈ s then c x else 0) else if (outs Ev x).any (fun y=>decide (y ∈ ks)) then mx0 (c x-1) else 0
def Ax5 (f : Int→Int) : Nat→Int
 | 0=>0
 | n+1=>Ax5 f n+f (n : Int)
def cF (N : Nat) (E : List AaB) (g s t : List Int) (lv v : Int) : Int:=ofC t (dE (E.filter (lvE lv)) (sS s g) N v)
def AzO (N : Nat) (E : List AaB) (g s t : List Int) (lv : Int) (ks : List Int) : Int:=Ax5 (Ayq (E.filter (lvE lv)) s ks (cF N E g s t lv)) N
end Go.TF
set_option linter.unusedVariables false
set_option linter.unusedSimpArgs false
namespace Go.TF
open Go Go.Abs
def tbF : Option Int→List Int→Bool
 | _,[]=>true
 | p,x::l=>decide (1≤x)&&decide (x≤0x3e8)&&(p.all fun y=>decide (x≤y))&&tbF (some x) l
theorem AmW (k : Nat) (t : List Int) (h9 : t.length≤1000000) : ∀ (m i n : Nat),i+m=t.length→m<n→Aas.L1 k t n (i : Int)=some (if tbF (prv t i) (t.drop i) then 0 else 15)
 | 0,i,n+1,h,_=>by rw [Aas.L1,if_neg (by omega),List.drop_eq_nil_of_le (by omega)]; rfl
 | m+1,i,n+1,h,hn=>by
  have hi : i<t.length:=by omega
  have ih:=AmW k t h9 m (i+1) n (by omega) (by omega)
  rw [AjU hi] at ih
  rw [Aas.L1,if_pos (by omega),Aae hi,List.drop_eq_getElem_cons hi,tbF]
  unfold Aas.J2 Abf
  simp only [Acv i (by omega),ih]
  generalize tbF (some t[i]) (t.drop (i+1))=R
  by_cases b1 : 1≤t[i]
  ·rw [if_pos b1,AaJ]
   by_cases b2 : t[i]≤0x3e8
   ·rw [if_neg (by simp [b2])]
    cases i with
    | zero=>rw [if_neg (by omega)]; simp [prv,b1,b2]
    | succ j =>
     rw [if_pos (by omega),ArV j (by omega),Aae (by omega : j<t.length),AjU (by omega)]
     by_cases a3 : t[j]<t[j+1]
     ·rw [if_pos a3]; have : ¬ t[j+1]≤t[j]:=by omega
      simp [this]
     ·rw [if_neg a3]; have : t[j+1]≤t[j]:=by omega
      simp [this,b1,b2]
   ·rw [if_pos (by simpa using b2)]; simp [b2]
  ·rw [if_neg b1,AaJ,if_pos (by simp)]; simp [b1]
theorem AkO : ∀ (l : List Int) (p : Option Int),tbF p l=true↔(∀ x ∈ l,1≤x∧x≤0x3e8)∧l.Pairwise (fun a b=>b≤a)∧(∀ q,p=some q→∀ x ∈ l,x≤q)
 | [],p=>by simp [tbF]
 | x::l,p=>by
  rw [tbF]
  simp only [Bool.and_eq_true,decide_eq_true_eq,AkO l (some x),List.mem_cons,List.pairwise_cons]
  constructor
  ·rintro ⟨⟨⟨h1,h2⟩,h3⟩,h4,h5,h6⟩
   refine ⟨fun y hy=>?_,⟨fun y hy=>h6 x rfl y hy,h5⟩,fun q hq y hy=>?_⟩
   ·rcases hy with rfl | hy
    ·exact ⟨h1,h2⟩
    ·exact h4 y hy
   ·subst hq
    simp only [Option.all_some,decide_eq_true_eq] at h3
    rcases hy with rfl | hy
    ·exact h3
    ·have:=h6 x rfl y hy; omega
  ·rintro ⟨h1,⟨h2,h3⟩,h4⟩
   refine ⟨⟨h1 x (.inl rfl),?_⟩,fun y hy=>h1 y (.inr hy),h3,fun q hq y hy=>?_⟩
   ·cases p with
    | none=>rfl
    | some q=>simp only [Option.all_some,decide_eq_true_eq]; exact h4 q rfl x (.inl rfl)
   ·simp only [Option.some.injEq] at hq; subst hq; exact h2 y hy
def AuL (N : Int) (s t : List Int) (lv : Int) : Bool:=decide (s.length≠0∧1≤t.length∧t.length≤8∧1≤lv∧lv≤3)&&(setF N none s&&tbF none t)
theorem AmX (k : Nat) (N : Int) (E : List AaB) (g s t : List Int) (lv : Int) (hk : 500<k) (hg : g.length<k) (hg9 : g.length≤1000000) (hs : s.length<k) (hs9 : s.length≤1000000) : Aas k N E g s t lv=some (if okG N E g then (if AuL N s t lv then 0 else 15) else 14):=by
 unfold Aas
 rw [AqB k N E g hk hg hg9,AaJ]
 by_cases h : okG N E g=true
 ·have hN:=((Adx N E g).1 h).1
  rw [if_pos h,if_neg (by simp),if_pos h]
  unfold AuL Abf
  by_cases h1 : (s.length : Int)=0
  ·rw [if_pos h1]; have : ¬ (s.length≠0∧1≤t.length∧t.length≤8∧1≤lv∧lv≤3):=by omega
   rw [decide_eq_false this]; rfl
  rw [if_neg h1,Amt k s N hs hs9 (by omega),AaJ]
  by_cases h2 : setF N none s=true
  ·rw [if_neg (by simp [h2])]
   by_cases h3 : (1 : Int)≤(t.length : Int)
   ·rw [if_pos h3,AaJ]
    by_cases h4 : (t.length : Int)≤8
    ·rw [if_neg (by simpa using h4)]
     by_cases h5 : 1≤lv
     ·rw [if_pos h5,AaJ]
      by_cases h6 : lv≤3
      ·rw [if_neg (by simpa using h6)]
       have : (s.length≠0∧1≤t.length∧t.length≤8∧1≤lv∧lv≤3):=by omega
       rw [decide_eq_true this,h2]
       have:=AmW k t (by omega) t.length 0 k (by omega) (by omega)
       rw [show (0 : Int)=((0 : Nat) : Int) from rfl,this]; simp [prv]
      ·rw [if_pos (by simpa using h6)]; have : ¬ (s.length≠0∧1≤t.length∧t.length≤8∧1≤lv∧lv≤3):=by omega
       rw [decide_eq_false this]; rfl
     ·rw [if_neg h5,AaJ,if_pos (by simp)]; have : ¬ (s.length≠0∧1≤t.length∧t.length≤8∧1≤lv∧lv≤3):=by omega
      rw [decide_eq_false this]; rfl
    ·rw [if_pos (by simpa using h4)]; have : ¬ (s.length≠0∧1≤t.length∧t.length≤8∧1≤lv∧lv≤3):=by omega
     rw [decide_eq_false this]; rfl
   ·rw [if_neg h3,AaJ,if_pos (by simp)]; have : ¬ (s.length≠0∧1≤t.length∧t.length≤8∧1≤lv∧lv≤3):=by omega
    rw [decide_eq_false this]; rfl
  ·rw [if_pos (by simpa using h2)]
   simp only [Bool.not_eq_true] at h2
   simp [h2]
 ·rw [if_neg h,if_pos (by omega),if_neg h]
theorem Ajs (k : Nat) (E : List AaB) (f t : Int) (h9 : E.length≤1000000) : ∀ (m i n : Nat),i+m=E.length→m<n→(∀ e ∈ E.take i,bef e ⟨f,t,0⟩=true) →
 ∃ j : Nat,∃ b : Bool,AbS.L2 k E f t n (i : Int)=some ((j : Int),b)∧j≤E.length∧(∀ e ∈ E.take j,bef e ⟨f,t,0⟩=true)∧(∀ h : j<E.length,bef E[j] ⟨f,t,0⟩=false∧(b=false→¬ (E[j].From=f∧E[j].To=t)))
 | 0,i,n+1,h,_,ha=>by
  rw [AbS.L2,if_neg (by omega)]
  unfold AbS.J1
  rw [if_neg (by omega)]
  exact ⟨i,false,rfl,by omega,ha,fun h=>by omega⟩
 | m+1,i,n+1,h,hn,ha=>by
  have hi : i<E.length:=by omega
  rw [AbS.L2,if_pos (by omega),Aae hi,AmZ,AaJ]
  by_cases e : E[i].From<f∨(E[i].From=f∧E[i].To<t)
  ·rw [if_pos (by simpa using e),Acv i (by omega)]
   refine Ajs k E f t h9 m (i+1) n (by omega) (by omega) fun x hx=>?_
   rw [List.take_succ_eq_append_getElem hi,List.mem_append,List.mem_singleton] at hx
   rcases hx with hx | rfl
   ·exact ha x hx
   ·unfold bef; rw [decide_eq_true_eq]; exact e
  ·rw [if_neg (by rw [decide_eq_true_eq]; exact e)]
   have hb : bef E[i] ⟨f,t,0⟩=false:=by unfold bef; rw [decide_eq_false_iff_not]; exact e
   unfold AbS.J1
   rw [if_pos (by omega),Aae hi]
   by_cases q : E[i].From=f
   ·rw [if_pos q]
    refine ⟨i,_,rfl,by omega,ha,fun _=>⟨hb,fun z=>?_⟩⟩
    intro z2
    simp [z2.2] at z
   ·rw [if_neg q]
    exact ⟨i,_,rfl,by omega,ha,fun _=>⟨hb,fun _ z=>q z.1⟩⟩
theorem Asv (k : Nat) (N : Int) (E : List AaB) (g : List Int) (f t lv : Int) (hk : 500<k) (ok : okG N E g=true) : ∃ N' E' g' e,AeV k N E g f t lv=some (N',E',g',e) ∧
 (e=0→N'=N∧g'=g∧okG N E' g=true∧(∀ x,x ∈ E'↔x ∈ E∨x=⟨f,t,lv⟩)):=by
 obtain ⟨⟨o1,o2,o3⟩,⟨o4,o5⟩,o6,o7⟩:=(Adx N E g).1 ok
 have hgl : (g.length : Int)≤N:=by have:=AjF g 0 N o4 o5 o1; omega
 unfold AeV
 rw [Apa k N E g hk (by omega) (by omega),AaJ,if_pos ok,if_neg (by simp)]
 unfold AbS
 obtain ⟨j,b,e1,j1,j2,j3⟩:=Ajs k E f t (by omega) E.length 0 k (by omega) (by omega) (by simp)
 rw [show AbS.L2 k E f t k 0=some ((j : Int),b) from e1,Aa7]
 have bad : ∀ c : Int,c≠0→∃ N' E' g' e,some ((0 : Int),([] : List AaB),([] : List Int),c)=some (N',E',g',e)∧(e=0→N'=N∧g'=g∧okG N E' g=true∧(∀ x,x ∈ E'↔x ∈ E∨x=⟨f,t,lv⟩)) :=
  fun c hc=>⟨_,_,_,_,rfl,fun h=>absurd h hc⟩
 by_cases a1 : f<0
 ·rw [if_pos a1]; exact bad 4 (by omega)
 rw [if_neg a1]
 by_cases a2 : N≤f
 ·rw [if_pos a2]; exact bad 4 (by omega)
 rw [if_neg a2]
 by_cases a3 : t<0
 ·rw [if_pos a3]; exact bad 4 (by omega)
 rw [if_neg a3]
 by_cases a4 : N≤t
 ·rw [if_pos a4]; exact bad 4 (by omega)
 rw [if_neg a4]
 by_cases a5 : f=t
 ·rw [if_pos a5]; exact bad 4 (by omega)
 rw [if_neg a5,Aha k g _ (by omega) (by omega),AaJ]
 by_cases a6 : f ∈ g
 ·rw [if_pos (by simpa using a6)]; exact bad 4 (by omega)
 rw [if_neg (by simpa using a6),Aha k g _ (by omega) (by omega),AaJ]
 by_cases a7 : t ∈ g
 ·rw [if_pos (by simpa using a7)]; exact bad 4 (by omega)
 rw [if_neg (by simpa using a7)]
 by_cases a8 : lv<1
 ·rw [if_pos a8]; exact bad 2 (by omega)
 rw [if_neg a8]
 by_cases a9 : 3<lv
 ·rw [if_pos a9]; exact bad 2 (by omega)
 rw [if_neg a9]
 by_cases b0 : b=true
 ·rw [if_pos b0]; exact bad 19 (by omega)
 rw [if_neg b0]
 by_cases b1 : (E.length : Int)=500
 ·rw [if_pos b1]; exact bad 3 (by omega)
 rw [if_neg b1]
 unfold Adm
 have hlt : (E.take j).length≤500:=by rw [List.length_take]; omega
 have hld : (E.drop j).length≤500:=by rw [List.length_drop]; omega
 rw [AaT (by omega),AaT (by omega),AdN,show ((j : Int)).toNat=j by omega,AaT (by omega),AaT (by omega),AaT (by simp only [List.length_cons,List.length_nil]; omega),AaT (by omega),AaT (by simp only [List.length_append,List.length_cons,List.length_nil]; omega)]
 refine ⟨_,_,_,_,rfl,fun _=>⟨rfl,rfl,?_,fun x=>?_⟩⟩
 ·rw [Adx]
  simp only [Bool.not_eq_true] at b0
  refine ⟨⟨o1,o2,by simp only [List.length_append,List.length_cons,List.length_nil,List.length_take,List.length_drop]; omega⟩,⟨o4,o5⟩,fun x hx=>?_,?_⟩
  ·rw [List.mem_append,List.mem_append,List.mem_singleton] at hx
   rcases hx with (hx | rfl) | hx
   ·exact o6 x (List.mem_of_mem_take hx)
   ·rw [Am9]
    show 0≤f∧f<N∧0≤t∧t<N∧f≠t∧1≤lv∧lv≤3∧f ∉ g∧t ∉ g
    exact ⟨by omega,by omega,by omega,by omega,a5,by omega,by omega,a6,a7⟩
   ·exact o6 x (List.mem_of_mem_drop hx)
  ·have split : E.take j++E.drop j=E:=List.take_append_drop j E
   rw [← split,List.pairwise_append] at o7
   obtain ⟨q1,q2,q3⟩:=o7
   have hafter : ∀ x ∈ E.drop j,bef ⟨f,t,lv⟩ x=true:=by
    intro x hx
    have hj : j<E.length:=by
     by_cases z : j<E.length
     ·exact z
     ·rw [List.drop_eq_nil_of_le (by omega)] at hx; simp at hx
    obtain ⟨z1,z2⟩:=j3 hj
    have z2:=z2 b0
    have first : bef ⟨f,t,lv⟩ E[j]=true:=by
     unfold bef at z1 ⊢; rw [decide_eq_false_iff_not] at z1; rw [decide_eq_true_eq]
     simp only at z1 ⊢
     omega
    rw [List.drop_eq_getElem_cons hj] at hx q2
    rw [List.pairwise_cons] at q2
    rcases List.mem_cons.1 hx with rfl | hx
    ·exact first
    ·exact Ama first (q2.1 x hx)
   rw [List.append_assoc,List.singleton_append,List.pairwise_append,List.pairwise_cons]
   refine ⟨q1,⟨hafter,q2⟩,fun a ha c hc=>?_⟩
   rcases List.mem_cons.1 hc with rfl | hc
   ·exact j2 a ha
   ·exact q3 a ha c hc
 ·have : x ∈ E↔x ∈ E.take j∨x ∈ E.drop j:=by rw [← List.mem_append,List.take_append_drop]
  rw [List.mem_append,List.mem_append,List.mem_singleton,this]
  constructor
  ·rintro ((h | h) | h)
   ·exact .inl (.inl h)
   ·exact .inr h
   ·exact .inl (.inr h)
  ·rintro ((h | h) | h)
   ·exact .inl (.inl h)
   ·exact .inr h
   ·exact .inl (.inr h)
theorem Ahf (l : List Int) (hl : l.length≤1000000000) (N : Int) (hN : 2≤N∧N≤9) (g : List Int) : ∀ (m n : Nat) (p : Int) (E : List AaB),m<n→m≤1000000000→Pos p→okG N E g=true →
 ∃ E' q,AaV.L3 1000000000 l n (m : Int) p N E g=some (N,E',g,q)∧Pos q∧okG N E' g=true
 | 0,n+1,p,E,_,_,hp,ok=>by
  rw [AaV.L3,if_neg (by omega)]
  exact ⟨E,p,rfl,hp,ok⟩
 | m+1,n+1,p,E,hn,hm,hp,ok=>by
  rw [AaV.L3,if_pos (by omega)]
  obtain ⟨a,q,e,hq,ha⟩:=Ada 1000000000 l p N hl hp
  obtain ⟨a2,q2,e2,hq2,ha2⟩:=Ada 1000000000 l q N hl hq
  obtain ⟨a3,q3,e3,hq3,ha3⟩:=Ada 1000000000 l q2 3 hl hq2
  rw [e,Aa7,e2,Aa7,e3,Aa7]
  obtain ⟨N',E',g',r,h1,h2⟩:=Asv 1000000000 N E g a a2 (IntKind.wrap .i64 (1+a3)) (by omega) ok
  rw [h1,AhK]
  unfold AaV.J4
  rw [ArV m (by omega)]
  by_cases hr : r=0
  ·obtain ⟨rfl,rfl,k1,_⟩:=h2 hr
   rw [if_pos hr]
   exact Ahf l hl N' hN g' m n q3 E' (by omega) (by omega) hq3 k1
  ·rw [if_neg hr]
   exact Ahf l hl N hN g m n q3 E (by omega) (by omega) hq3 ok
theorem AsM (l : List Int) (p : Int) (hl : l.length≤1000000000) (hp : Pos p) : ∃ N E g q,AaV 1000000000 l p=some (((N : Nat) : Int),E,g,q)∧Pos q∧2≤N∧N≤9∧okG (N : Int) E g=true:=by
 unfold AaV
 obtain ⟨a,q,e,hq,ha⟩:=Ada 1000000000 l p 8 hl hp
 have ha:=ha (by omega) (by omega)
 rw [e,Aa7]
 have key : ∀ N : Int,2≤N∧N≤9→∃ N' E g q',AaV.J1 1000000000 l q N=some (((N' : Nat) : Int),E,g,q')∧Pos q'∧2≤N'∧N'≤9∧okG (N' : Int) E g=true:=by
  intro N hN
  have fin : ∀ (p2 : Int) (g : List Int),Pos p2→okG N [] g=true→∃ N' E g' q',AaV.J2 1000000000 l N p2 g=some (((N' : Nat) : Int),E,g',q')∧Pos q'∧2≤N'∧N'≤9∧okG (N' : Int) E g'=true:=by
   intro p2 g hp2 ok
   unfold AaV.J2
   obtain ⟨b,q2,e2,hq2,hb⟩:=Ada 1000000000 l p2 23 hl hp2
   have hb:=hb (by omega) (by omega)
   obtain ⟨m,rfl⟩:=Int.eq_ofNat_of_zero_le hb.1
   rw [e2,Aa7]
   obtain ⟨E',q3,h1,h2,h3⟩:=Ahf l hl N hN g m 1000000000 q2 [] (by omega) (by omega) hq2 ok
   obtain ⟨n,rfl⟩:=Int.eq_ofNat_of_zero_le (show 0≤N by omega)
   exact ⟨n,E',g,q3,h1,h2,by omega,by omega,h3⟩
  unfold AaV.J1 Acn
  obtain ⟨b,q2,e2,hq2,hb⟩:=Ada 1000000000 l q 8 hl hq
  rw [e2,Aa7,Aa7]
  have okn : okG N [] []=true:=by rw [Adx]; simp; omega
  split
  ·obtain ⟨c,q3,e3,hq3,hc⟩:=Ada 1000000000 l q2 N hl hq2
   have hc:=hc (by omega) (by omega)
   rw [e3,Aa7]
   exact fin q3 [c] hq3 (by rw [Adx]; simp; omega)
  ·exact fin q2 [] hq2 okn
 split
 ·exact key 4 (by omega)
 ·rw [w64 (by omega) (by omega)]; exact key (2+a) (by omega)
end Go.TF
set_option linter.unusedVariables false
set_option linter.unusedSimpArgs false
namespace Go.TF
open Go Go.Abs
theorem AwF (k : Nat) (l : List Int) (p : Int) (xs : List Int) (hl : l.length≤1000000000) (hp : Pos p) (h1 : 1≤xs.length) (h9 : xs.length≤1000000000) : ∃ a q,Ado k l p xs=some (a,q)∧Pos q∧a ∈ xs:=by
 unfold Ado
 obtain ⟨a,q,e,hq,ha⟩:=Ada k l p (xs.length : Int) hl hp
 have ha:=ha (by omega) (by omega)
 obtain ⟨j,rfl⟩:=Int.eq_ofNat_of_zero_le ha.1
 rw [e,Aa7,Aae (by omega)]
 exact ⟨_,_,rfl,hq,List.getElem_mem _⟩
theorem AwE (k : Nat) (l : List Int) (p n : Int) (hl : l.length≤1000000000) (hp : Pos p) : ∃ b q,Acn k l p n=some (b,q)∧Pos q:=by
 unfold Acn
 obtain ⟨a,q,e,hq,ha⟩:=Ada k l p n hl hp
 rw [e,Aa7]
 exact ⟨_,_,rfl,hq⟩
theorem ArU (k : Nat) (l : List Int) (x : Int) (h9 : l.length≤1000000) (ha : l.Pairwise (· < ·)) : ∀ (m i n : Nat),i+m=l.length→m<n→(∀ y ∈ l.take i,y<x) →
 ∃ l',AbT.L3 k l x n (i : Int)=some l'∧l'.Pairwise (· < ·)∧(∀ y,y ∈ l'↔y ∈ l∨y=x)∧l'.length≤l.length+1:=by
 have fin : ∀ i : Nat,i≤l.length→(∀ y ∈ l.take i,y<x)→(∀ h : i<l.length,x<l[i])→∃ l',AbT.J2 k l x (i : Int)=some l'∧l'.Pairwise (· < ·)∧(∀ y,y ∈ l'↔y ∈ l∨y=x)∧l'.length≤l.length+1:=by
  intro i hi h1 h2
  unfold AbT.J2
  have hlt : (l.take i).length=i:=by rw [List.length_take]; omega
  have hld : (l.drop i).length=l.length-i:=List.length_drop
  rw [show ((i : Int)).toNat=i by omega,AaT (by omega),AaT (by omega),AaT (by simp only [List.length_cons,List.length_nil]; omega),AaT (by omega),AaT (by simp only [List.length_append,List.length_cons,List.length_nil]; omega)]
  have hg : ∀ y ∈ l.drop i,x<y:=by
   intro y hy
   have hj : i<l.length:=by
    by_cases z : i<l.length
    ·exact z
    ·rw [List.drop_eq_nil_of_le (by omega)] at hy; simp at hy
   have hd:=ha.sublist (List.drop_sublist i l)
   rw [List.drop_eq_getElem_cons hj] at hy hd
   rw [List.pairwise_cons] at hd
   have h3:=h2 hj
   rcases List.mem_cons.1 hy with rfl | hy
   ·exact h3
   ·have:=hd.1 y hy; omega
  refine ⟨_,rfl,?_,fun y=>?_,by simp only [List.length_append,List.length_cons,List.length_nil]; omega⟩
  ·rw [List.append_assoc,List.singleton_append,List.pairwise_append,List.pairwise_cons]
   refine ⟨ha.sublist (List.take_sublist i l),⟨hg,ha.sublist (List.drop_sublist i l)⟩,fun a h3 b h4=>?_⟩
   have:=h1 a h3
   rcases List.mem_cons.1 h4 with rfl | h4
   ·exact this
   ·have:=hg b h4; omega
  ·have : y ∈ l↔y ∈ l.take i∨y ∈ l.drop i:=by rw [← List.mem_append,List.take_append_drop]
   rw [List.mem_append,List.mem_append,List.mem_singleton,this]
   constructor
   ·rintro ((h | h) | h)
    ·exact .inl (.inl h)
    ·exact .inr h
    ·exact .inl (.inr h)
   ·rintro ((h | h) | h)
    ·exact .inl (.inl h)
    ·exact .inr h
    ·exact .inl (.inr h)
 intro m
 induction m with
 | zero =>
  intro i n h hn h1
  cases n with
  | zero=>omega
  | succ n =>
   rw [AbT.L3,if_neg (by omega)]
   unfold AbT.J1
   rw [if_neg (by omega)]
   exact fin i (by omega) h1 (fun h=>by omega)
 | succ m ih =>
  intro i n h hn h1
  cases n with
  | zero=>omega
  | succ n =>
   have hi : i<l.length:=by omega
   rw [AbT.L3,if_pos (by omega),Aae hi]
   by_cases q : l[i]<x
   ·rw [if_pos q,Acv i (by omega)]
    refine ih (i+1) n (by omega) (by omega) fun y hy=>?_
    rw [List.take_succ_eq_append_getElem hi,List.mem_append,List.mem_singleton] at hy
    rcases hy with hy | rfl
    ·exact h1 y hy
    ·exact q
   ·rw [if_neg q]
    unfold AbT.J1
    rw [if_pos (by omega),Aae hi]
    by_cases q2 : l[i]=x
    ·rw [if_pos q2,AaT (by omega)]
     refine ⟨l,rfl,ha,fun y=>⟨.inl,fun h=>?_⟩,by omega⟩
     rcases h with h | rfl
     ·exact h
     ·rw [← q2]; exact List.getElem_mem hi
    ·rw [if_neg q2]
     exact fin i (by omega) h1 (fun _=>by omega)
theorem Ast (k : Nat) (l : List Int) (x : Int) (h9 : l.length≤1000000) (hk : l.length<k) (ha : l.Pairwise (· < ·)) : ∃ l',AbT k l x=some l'∧l'.Pairwise (· < ·)∧(∀ y,y ∈ l'↔y ∈ l∨y=x)∧l'.length≤l.length+1 :=
 ArU k l x h9 ha l.length 0 k (by omega) hk (by simp)
structure PV (N : Nat) (s t : List Int) (lv : Int) : Prop where
 s0 : s≠[]
 sl : s.length≤2
 sr : ∀ x ∈ s,0≤x∧x<N
 sa : s.Pairwise (· < ·)
 t0 : 1≤t.length
 t9 : t.length≤4
 tr : ∀ x ∈ t,1≤x∧x≤7
 td : t.Pairwise (fun a b=>b≤a)
 l1 : 1≤lv
 l3 : lv≤3
theorem Anr (l : List Int) (hl : l.length≤1000000000) (lv : Int) (s : List Int) : ∀ (m n : Nat) (x p : Int) (acc : List Int),m<n→Pos p→1≤x→x≤7→(∀ y ∈ acc,x≤y∧y≤7)→acc.Pairwise (fun a b=>b≤a)→acc.length+m≤4 →
 ∃ t q,Aar.L2 1000000000 l lv s n x (m : Int) p acc=some (s,t,lv,q)∧Pos q∧(∀ y ∈ t,1≤y∧y≤7)∧t.Pairwise (fun a b=>b≤a)∧t.length=acc.length+m
 | 0,n+1,x,p,acc,_,hp,x1,x2,h1,h2,h3=>by
  rw [Aar.L2,if_neg (by omega)]
  exact ⟨acc,p,rfl,hp,fun y hy=>by have:=h1 y hy; omega,h2,rfl⟩
 | m+1,n+1,x,p,acc,hn,hp,x1,x2,h1,h2,h3=>by
  rw [Aar.L2,if_pos (by omega),AaT (by simp only [List.length_cons,List.length_nil]; omega)]
  obtain ⟨a,q,e,hq,ha⟩:=Ada 1000000000 l p 3 hl hp
  have ha:=ha (by omega) (by omega)
  rw [e,Aa7,Aiv,w64 (by omega) (by omega),ArV m (by omega)]
  have key : ∀ y : Int,1≤y→y≤x→∃ t q',Aar.L2 1000000000 l lv s n y (m : Int) q (acc++[x])=some (s,t,lv,q')∧Pos q'∧(∀ y ∈ t,1≤y∧y≤7)∧t.Pairwise (fun a b=>b≤a)∧t.length=acc.length+(m+1):=by
   intro y y1 y2
   obtain ⟨t,q',e1,e2,e3,e4,e5⟩:=Anr l hl lv s m n y q (acc++[x]) (by omega) hq y1 (by omega) (fun z hz=>by
    rcases List.mem_append.1 hz with hz | hz
    ·have:=h1 z hz; omega
    ·simp at hz; omega) (by
    rw [List.pairwise_append]
    exact ⟨h2,List.pairwise_singleton ..,fun a ha b hb=>by simp at hb; have:=h1 a ha; omega⟩) (by simp only [List.length_append,List.length_cons,List.length_nil]; omega)
   exact ⟨t,q',e1,e2,e3,e4,by rw [e5]; simp only [List.length_append,List.length_cons,List.length_nil]; omega⟩
  by_cases c : 1<x-a
  ·rw [if_pos c]; exact key _ (by omega) (by omega)
  ·rw [if_neg c]; exact key 1 (by omega) (by omega)
theorem Aq7 (l : List Int) (p : Int) (N : Nat) (E : List AaB) (g : List Int) (hl : l.length≤1000000000) (hp : Pos p) (hN : 1≤N) (hN9 : N≤100) :
 ∃ s t lv q,Aar 1000000000 l p (N : Int) E g=some (s,t,lv,q)∧Pos q∧PV N s t lv:=by
 unfold Aar
 obtain ⟨a,q,e,hq,ha⟩:=Ada 1000000000 l p (N : Int) hl hp
 have ha:=ha (by omega) (by omega)
 obtain ⟨lv,q2,e2,hq2,hlv⟩:=AwF 1000000000 l q [1,1,2,3] hl hq (by simp) (by simp)
 obtain ⟨b,q3,e3,hq3⟩:=AwE 1000000000 l q2 3 hl hq2
 rw [e,Aa7,e2,Aa7,e3,Aa7]
 have hlv' : 1≤lv∧lv≤3:=by simp at hlv; omega
 have fin : ∀ (p2 : Int) (s : List Int),Pos p2→s≠[]→s.length≤2→(∀ x ∈ s,0≤x∧x<N)→s.Pairwise (· < ·)→∃ s' t lv' q,Aar.J1 1000000000 l lv p2 s=some (s',t,lv',q)∧Pos q∧PV N s' t lv':=by
  intro p2 s hp2 s0 sl sr sa
  unfold Aar.J1
  obtain ⟨x,r,f,hr,hx⟩:=AwF 1000000000 l p2 [3,2,1,6,0] hl hp2 (by simp) (by simp)
  obtain ⟨m,r2,f2,hr2,hm⟩:=Ada 1000000000 l r 4 hl hr
  have hm:=hm (by omega) (by omega)
  have hx' : 0≤x∧x≤6:=by simp at hx; omega
  obtain ⟨m,rfl⟩:=Int.eq_ofNat_of_zero_le hm.1
  rw [f,Aa7,f2,Aa7,w64 (by omega) (by omega),w64 (by omega) (by omega),show (1 : Int)+(m : Int)=((m+1 : Nat) : Int) by omega]
  obtain ⟨t,q',e1,e2,e3,e4,e5⟩:=Anr l hl lv s (m+1) 1000000000 (1+x) r2 [] (by omega) hr2 (by omega) (by omega) (by simp) .nil (by simp only [List.length_nil]; omega)
  rw [List.length_nil] at e5
  exact ⟨s,t,lv,q',e1,e2,s0,sl,sr,sa,by omega,by omega,e3,e4,hlv'.1,hlv'.2⟩
 split
 ·obtain ⟨c,q4,e4,hq4,hc⟩:=Ada 1000000000 l q3 (N : Int) hl hq3
  have hc:=hc (by omega) (by omega)
  obtain ⟨s,e5,s1,s2,s3⟩:=Ast 1000000000 [a] c (by show 1≤1000000; omega) (by show 1<1000000000; omega) (List.pairwise_singleton ..)
  rw [e4,Aa7,e5,AaJ]
  obtain ⟨s',t,lv',q5,f1,f2,f3⟩:=fin q4 s hq4 (fun h=>by have:=(s2 a).2 (.inl (by simp)); rw [h] at this; simp at this) (by simpa using s3) (fun x hx=>by
   rcases (s2 x).1 hx with h | h
   ·simp at h; omega
   ·omega) s1
  exact ⟨_,_,_,_,f1,f2,f3⟩
 ·obtain ⟨s',t,lv',q5,f1,f2,f3⟩:=fin q3 [a] hq3 (by simp) (by simp) (fun x hx=>by simp at hx; omega) (List.pairwise_singleton ..)
  exact ⟨_,_,_,_,f1,f2,f3⟩
theorem PV.pol {N : Nat} {s t : List Int} {lv : Int} (h : PV N s t lv) : AuL N s t lv=true:=by
 unfold AuL
 rw [Bool.and_eq_true,Bool.and_eq_true,decide_eq_true_eq,Af1,AkO]
 refine ⟨⟨fun e=>h.s0 (List.length_eq_zero_iff.1 e),h.t0,by have:=h.t9; omega,h.l1,h.l3⟩,⟨h.sr,h.sa⟩,fun x hx=>by have:=h.tr x hx; omega,h.td,fun q hq=>by cases hq⟩
end Go.TF
set_option linter.unusedVariables false
set_option linter.unusedSimpArgs false
namespace Go.TF
open Go Go.Abs
def Aw4 (bad : List Int) (c : Int) : List Int→Int
 | []=>0
 | x::l=>(if x ∈ bad then c else 0)+Aw4 bad c l
end Go.TF
set_option linter.unusedVariables false
set_option linter.unusedSimpArgs false
namespace Go.TF
open Go Go.Abs
structure GW (N : Nat) (E : List AaB) (g : List Int) : Prop where
 pos : 1≤N
 le : N≤64
 ok : okG N E g=true
 o12 : ∀ x,(outs E x).length≤12
theorem GV.gw {N : Nat} {E : List AaB} {g : List Int} (h : GV N E g) : GW N E g:=⟨h.pos,by have:=h.le; omega,h.ok,h.outs⟩
theorem GW.inE {N : Nat} {E : List AaB} {g : List Int} (h : GW N E g) : inE N E:=by
 intro e he
 have:=(Am9 _ _ _).1 (((Adx _ _ _).1 h.ok).2.2.1 e he)
 exact ⟨this.1,this.2.1,this.2.2.1,this.2.2.2.1⟩
theorem GW.len {N : Nat} {E : List AaB} {g : List Int} (h : GW N E g) : E.length≤500:=((Adx _ _ _).1 h.ok).1.2.2
theorem GW.glen {N : Nat} {E : List AaB} {g : List Int} (h : GW N E g) : g.length≤64:=by
 have h1:=((Adx _ _ _).1 h.ok).2.1
 have:=AjF g 0 N h1.1 h1.2 (by omega)
 have:=h.le; omega
theorem AvH (N : Nat) (E : List AaB) (g s t : List Int) (lv : Int) (G : GW N E g) (hs : s.length≤200) (ht : t.length≤200) (hsr : ∀ x ∈ s,0≤x∧x<N) : Abh 1000000000 (N : Int) E g s t lv=some (AyT N E g s t lv):=by
 have h1:=G.len; have h2:=G.glen; have h3:=G.le; have h4:=G.pos
 have hf : (E.filter (lvE lv)).length≤500:=Nat.le_trans (List.length_filter_le _ _) h1
 unfold Abh
 rw [Ai3 1000000000 N E g lv (by omega) (by omega) (by omega),AdN,Aqb N _ g s h4 (by omega) hf (fun x=>Nat.le_trans (Aig E _ x) (G.o12 x)) (fun e he=>G.inE e (List.mem_filter.1 he).1) (by omega) (by omega) hsr,AaJ]
 have:=AmY 1000000000 N s t lv (dE (E.filter (lvE lv)) (sS s g) N) (by omega) N 0 1000000000 (by omega) (by omega)
 rw [Abq (f:=fun v=>if v<((0 : Nat) : Int) then ofC t (dE (E.filter (lvE lv)) (sS s g) N v) else dE (E.filter (lvE lv)) (sS s g) N v) (g:=dE (E.filter (lvE lv)) (sS s g) N) (fun v h _=>by rw [if_neg (by omega)])] at this
 exact this
theorem Ae1 (k : Nat) (x : Int) (h : -1000000000≤x∧x≤1000000000) : AcO k x=some (2+2*x):=by
 unfold AcO; rw [w64 (n:=2*x) (by omega) (by omega),w64 (by omega) (by omega)]
theorem Anl (k : Nat) (x : Int) (h : -1000000000≤x∧x≤1000000000) : Aez k x=some (3+2*x):=by
 unfold Aez; rw [Ae1 k x h,AaJ,w64 (by omega) (by omega)]; congr 1; omega
theorem AlF (k : Nat) (a b c N : Int) (acc : List AaC) (h : acc.length≤100000) : Ab9 k a b c N acc=some (acc++[⟨a,b,c⟩]):=by
 unfold Ab9; rw [AaT (by simp only [List.length_cons,List.length_nil]; omega)]
def arS (c : Int→Int) (x : Int) : AaC:=⟨0,2+2*x,c x⟩
def arI (c : Int→Int) (x : Int) : AaC:=⟨2+2*x,3+2*x,c x-1⟩
def arT (x : Int) : AaC:=⟨2+2*x,1,1⟩
def arE (e : AaB) : AaC:=⟨3+2*e.From,2+2*e.To,64⟩
def AgJ (N : Nat) : List Int:=(List.range N).map fun (v : Nat)=>(v : Int)
def AnT (N : Nat) (P : Int→Bool) (c : Int→Int) (s ks : List Int) (Ev : List AaB) : List AaC :=
 (s.filter P).map (arS c)++((AgJ N).filter P).map (arI c)++(ks.filter P).map arT++(Ev.filter fun e=>P e.From).map arE
theorem Af5 (N : Nat) : (AgJ N).length=N:=by simp [AgJ]
theorem Alu (N i : Nat) (h : i<N) : (AgJ N).drop i=(i : Int)::(AgJ N).drop (i+1):=by
 rw [List.drop_eq_getElem_cons (by rw [Af5]; exact h)]
 congr 1; simp [AgJ]
theorem Ad3 {N : Nat} {x : Int} : x ∈ AgJ N↔0≤x∧x<N:=by
 unfold AgJ; simp only [List.mem_map,List.mem_range]
 constructor
 ·rintro ⟨a,h,rfl⟩; omega
 ·rintro ⟨h0,h1⟩; exact ⟨x.toNat,by omega,by omega⟩
theorem Ak3 {α β : Type} (P : α→Bool) (f : α→β) (x : α) (l : List α) (acc : List β) : acc++((x::l).filter P).map f=(if P x then acc++[f x] else acc)++(l.filter P).map f:=by
 by_cases h : P x=true
 ·rw [List.filter_cons_of_pos h,if_pos h]; simp
 ·rw [List.filter_cons_of_neg h,if_neg h]
section
variable (N : Nat) (P : Int→Bool) (c : Int→Int) (hN : N≤64)
include hN
theorem AtA (hc : ∀ x : Int,0≤x→x<N→(0<c x↔P x=true)) (nd : Int) (Ev : List AaB) (hE : inE N Ev) (h9 : Ev.length≤1000000000) : ∀ (m i n : Nat) (acc : List AaC),i+m=Ev.length→m<n→acc.length+m≤100000 →
 AaO.L7 1000000000 nd (tab N c) Ev n (i : Int) acc=some (nd,acc++((Ev.drop i).filter fun e=>P e.From).map arE,0)
 | 0,i,n+1,acc,h,_,_=>by rw [AaO.L7,if_neg (by omega),List.drop_eq_nil_of_le (by omega)]; simp
 | m+1,i,n+1,acc,h,hn,hl=>by
  have hi : i<Ev.length:=by omega
  have he:=hE _ (List.getElem_mem hi)
  rw [AaO.L7,if_pos (by omega),Aae hi,AdH (by omega) (by omega),List.drop_eq_getElem_cons hi,Ak3 (fun e : AaB=>P e.From)]
  unfold AaO.J8
  by_cases q : 0<c Ev[i].From
  ·rw [if_pos q,if_pos ((hc _ he.1 he.2.1).1 q),Anl 1000000000 _ (by omega),AaJ,Ae1 1000000000 _ (by omega),AaJ,AlF 1000000000 _ _ _ _ _ (by omega),AaJ,Acv i (by omega)]
   exact AtA hc nd Ev hE h9 m (i+1) n _ (by omega) (by omega) (by simp only [List.length_append,List.length_cons,List.length_nil]; omega)
  ·rw [if_neg q,if_neg (fun z=>q ((hc _ he.1 he.2.1).2 z)),Acv i (by omega)]
   exact AtA hc nd Ev hE h9 m (i+1) n _ (by omega) (by omega) (by omega)
theorem AtB (hc : ∀ x : Int,0≤x→x<N→(0<c x↔P x=true)) (N' : Int) (E : List AaB) (g : List Int) (lv nd : Int) (ks : List Int) (hk : ∀ x ∈ ks,0≤x∧x<N) (h9 : ks.length≤900) : ∀ (m i n : Nat) (acc : List AaC),i+m=ks.length→m<n→acc.length+m≤10000 →
 AaO.L5 1000000000 N' E g lv ks nd (tab N c) n (i : Int) acc=Ao4 (Aca 1000000000 N' E g lv) fun v35 v36 v37=>AaO.L7 1000000000 nd (tab N c) v36 1000000000 0 (acc++((ks.drop i).filter P).map arT)
 | 0,i,n+1,acc,h,_,_=>by rw [AaO.L5,if_neg (by omega),List.drop_eq_nil_of_le (by omega)]; simp
 | m+1,i,n+1,acc,h,hn,hl=>by
  have hi : i<ks.length:=by omega
  have he:=hk _ (List.getElem_mem hi)
  rw [AaO.L5,if_pos (by omega),Aae hi,AdH (by omega) (by omega),List.drop_eq_getElem_cons hi,Ak3 P]
  unfold AaO.J6
  by_cases q : 0<c ks[i]
  ·rw [if_pos q,if_pos ((hc _ he.1 he.2).1 q),Ae1 1000000000 _ (by omega),AaJ,AlF 1000000000 _ _ _ _ _ (by omega),AaJ,Acv i (by omega)]
   exact AtB hc N' E g lv nd ks hk h9 m (i+1) n _ (by omega) (by omega) (by simp only [List.length_append,List.length_cons,List.length_nil]; omega)
  ·rw [if_neg q,if_neg (fun z=>q ((hc _ he.1 he.2).2 z)),Acv i (by omega)]
   exact AtB hc N' E g lv nd ks hk h9 m (i+1) n _ (by omega) (by omega) (by omega)
theorem AtC (hc : ∀ x : Int,0≤x→x<N→(0<c x↔P x=true)) (h9 : ∀ x,c x≤100000) (N' : Int) (E : List AaB) (g : List Int) (lv nd : Int) (ks : List Int) : ∀ (m i n : Nat) (acc : List AaC),i+m=N→m<n→acc.length+m≤10000 →
 AaO.L3 1000000000 N' E g lv ks nd (tab N c) n (i : Int) acc=AaO.L5 1000000000 N' E g lv ks nd (tab N c) 1000000000 0 (acc++(((AgJ N).drop i).filter P).map (arI c))
 | 0,i,n+1,acc,h,_,_=>by rw [AaO.L3,if_neg (by rw [AfB]; omega),List.drop_eq_nil_of_le (by rw [Af5]; omega)]; simp
 | m+1,i,n+1,acc,h,hn,hl=>by
  rw [AaO.L3,if_pos (by rw [AfB]; omega),AdH (by omega) (by omega),Alu N i (by omega),Ak3 P]
  unfold AaO.J4
  by_cases q : 0<c (i : Int)
  ·have:=h9 (i : Int)
   rw [if_pos q,if_pos ((hc _ (by omega) (by omega)).1 q),Ae1 1000000000 _ (by omega),AaJ,Anl 1000000000 _ (by omega),AaJ,w64 (by omega) (by omega),AlF 1000000000 _ _ _ _ _ (by omega),AaJ,Acv i (by omega)]
   exact AtC hc h9 N' E g lv nd ks m (i+1) n _ (by omega) (by omega) (by simp only [List.length_append,List.length_cons,List.length_nil]; omega)
  ·rw [if_neg q,if_neg (fun z=>q ((hc _ (by omega) (by omega)).2 z)),Acv i (by omega)]
   exact AtC hc h9 N' E g lv nd ks m (i+1) n _ (by omega) (by omega) (by omega)
theorem AtD (hc : ∀ x : Int,0≤x→x<N→(0<c x↔P x=true)) (N' : Int) (E : List AaB) (g s : List Int) (lv nd : Int) (ks : List Int) (hs : ∀ x ∈ s,0≤x∧x<N) (h9 : s.length≤900) : ∀ (m i n : Nat) (acc : List AaC),i+m=s.length→m<n→acc.length+m≤10000 →
 AaO.L1 1000000000 N' E g s lv ks nd (tab N c) n (i : Int) acc=AaO.L3 1000000000 N' E g lv ks nd (tab N c) 1000000000 0 (acc++((s.drop i).filter P).map (arS c))
 | 0,i,n+1,acc,h,_,_=>by rw [AaO.L1,if_neg (by omega),List.drop_eq_nil_of_le (by omega)]; simp
 | m+1,i,n+1,acc,h,hn,hl=>by
  have hi : i<s.length:=by omega
  have he:=hs _ (List.getElem_mem hi)
  rw [AaO.L1,if_pos (by omega),Aae hi,AdH (by omega) (by omega),List.drop_eq_getElem_cons hi,Ak3 P]
  unfold AaO.J2
  by_cases q : 0<c s[i]
  ·rw [if_pos q,if_pos ((hc _ he.1 he.2).1 q),Ae1 1000000000 _ (by omega),AaJ,AlF 1000000000 _ _ _ _ _ (by omega),AaJ,Acv i (by omega)]
   exact AtD hc N' E g s lv nd ks hs h9 m (i+1) n _ (by omega) (by omega) (by simp only [List.length_append,List.length_cons,List.length_nil]; omega)
  ·rw [if_neg q,if_neg (fun z=>q ((hc _ he.1 he.2).2 z)),Acv i (by omega)]
   exact AtD hc N' E g s lv nd ks hs h9 m (i+1) n _ (by omega) (by omega) (by omega)
end
theorem AgD (P : Int→Bool) (l : List Int) (f : Int→AaC) : ((l.filter P).map f).length≤l.length:=by rw [List.length_map]; exact List.length_filter_le _ _
def Aem (N : Nat) (E : List AaB) (g s : List Int) (lv v : Int) : Bool:=decide (0≤dE (E.filter (lvE lv)) (sS s g) N v)
def AeS (N : Nat) (E : List AaB) (g s t : List Int) (lv : Int) (ks : List Int) : List AaC:=AnT N (Aem N E g s lv) (cF N E g s t lv) s ks (E.filter (lvE lv))
theorem Aqg {N : Nat} {E : List AaB} {g s t : List Int} {lv : Int} (ht : ∀ x ∈ t,1≤x) (v : Int) : (0<cF N E g s t lv v↔Aem N E g s lv v=true):=by
 unfold cF Aem
 rw [decide_eq_true_eq]
 by_cases h : 0≤dE (E.filter (lvE lv)) (sS s g) N v
 ·obtain ⟨i,hi⟩:=Int.eq_ofNat_of_zero_le h
  have : 1≤ofC t (dE (E.filter (lvE lv)) (sS s g) N v):=by
   rw [hi]; unfold ofC; rw [if_neg (by omega)]
   by_cases q : (i : Int)<t.length
   ·rw [if_pos q,List.getD_eq_getElem?_getD,List.getElem?_eq_getElem (by omega),Option.getD_some]
    exact ht _ (List.getElem_mem _)
   ·rw [if_neg q]; omega
  omega
 ·have : ofC t (dE (E.filter (lvE lv)) (sS s g) N v)=0:=by unfold ofC; rw [if_pos (by omega)]
  omega
theorem Apf (N : Nat) (E : List AaB) (g s t : List Int) (lv : Int) (ks : List Int) (G : GW N E g) (hs : s.length≤200) (hks : ks.length≤200) (hp : AuL N s t lv=true) :
 AaO 1000000000 (N : Int) E g s t lv ks=some (if setF N none ks then (2+2*(N : Int),AeS N E g s t lv ks,0) else (0,[],4)):=by
 have hg:=G.glen; have hE:=G.len; have hN:=G.le
 unfold AaO
 rw [AmX 1000000000 N E g s t lv (by omega) (by omega) (by omega) (by omega) (by omega),AaJ,if_pos G.ok,if_pos hp,if_neg (by simp),Amt 1000000000 ks N (by omega) (by omega) (by omega),AaJ]
 unfold AuL at hp
 rw [Bool.and_eq_true,Bool.and_eq_true,decide_eq_true_eq,Af1,AkO] at hp
 obtain ⟨⟨p1,p2,p3,p4,p5⟩,⟨p6,p7⟩,p8,p9,_⟩:=hp
 by_cases h : setF N none ks=true
 ·rw [if_neg (by simp [h]),if_pos h,Ae1 1000000000 _ (by omega),AaJ,AvH N E g s t lv G hs (by omega) p6,AaJ]
  obtain ⟨k1,k2⟩:=(Af1 _ _).1 h
  have hc : ∀ x : Int,0≤x→x<N→(0<cF N E g s t lv x↔Aem N E g s lv x=true):=fun x _ _=>Aqg (fun y hy=>(p8 y hy).1) x
  have c9 : ∀ x,cF N E g s t lv x≤100000:=fun x=>(Aik (fun y hy=>by have:=p8 y hy; omega) _).2
  have hf : (E.filter (lvE lv)).length≤500:=Nat.le_trans (List.length_filter_le _ _) hE
  have l1:=AgD (Aem N E g s lv) s (arS (cF N E g s t lv))
  have l2:=AgD (Aem N E g s lv) (AgJ N) (arI (cF N E g s t lv))
  have l3:=AgD (Aem N E g s lv) ks arT
  rw [Af5] at l2
  have e1:=AtD N (Aem N E g s lv) (cF N E g s t lv) hN hc (N : Int) E g s lv (2+2*(N : Int)) ks p6 (by omega) s.length 0 1000000000 [] (by omega) (by omega) (by simp only [List.length_nil]; omega)
  have e3:=AtC N (Aem N E g s lv) (cF N E g s t lv) hN hc c9 (N : Int) E g lv (2+2*(N : Int)) ks N 0 1000000000 ((s.filter (Aem N E g s lv)).map (arS (cF N E g s t lv))) (by omega) (by omega) (by omega)
  have e5:=AtB N (Aem N E g s lv) (cF N E g s t lv) hN hc (N : Int) E g lv (2+2*(N : Int)) ks k1 (by omega) ks.length 0 1000000000 ((s.filter (Aem N E g s lv)).map (arS (cF N E g s t lv))++((AgJ N).filter (Aem N E g s lv)).map (arI (cF N E g s t lv))) (by omega) (by omega) (by rw [List.length_append]; omega)
  have e7:=AtA N (Aem N E g s lv) (cF N E g s t lv) hN hc (2+2*(N : Int)) (E.filter (lvE lv)) (fun e he=>G.inE e (List.mem_filter.1 he).1) (by omega) (E.filter (lvE lv)).length 0 1000000000 ((s.filter (Aem N E g s lv)).map (arS (cF N E g s t lv))++((AgJ N).filter (Aem N E g s lv)).map (arI (cF N E g s t lv))++(ks.filter (Aem N E g s lv)).map arT) (by omega) (by omega) (by rw [List.length_append,List.length_append]; omega)
  rw [List.drop_zero] at e1 e3 e5 e7
  rw [List.nil_append] at e1
  refine Eq.trans e1 (Eq.trans e3 (Eq.trans e5 ?_))
  rw [Ai3 1000000000 (N : Int) E g lv (by omega) (by omega) (by omega),AdN]
  exact e7
 ·rw [if_pos (by simpa using h),if_neg h]
theorem Aio (N : Nat) (E : List AaB) (g s t : List Int) (lv : Int) (ks : List Int) : (AeS N E g s t lv ks).length≤s.length+N+ks.length+E.length:=by
 have l1:=AgD (Aem N E g s lv) s (arS (cF N E g s t lv))
 have l2:=AgD (Aem N E g s lv) (AgJ N) (arI (cF N E g s t lv))
 have l3:=AgD (Aem N E g s lv) ks arT
 have l4 : (((E.filter (lvE lv)).filter fun e=>Aem N E g s lv e.From).map arE).length≤E.length:=by
  rw [List.length_map]; exact Nat.le_trans (List.length_filter_le _ _) (List.length_filter_le _ _)
 rw [Af5] at l2
 unfold AeS AnT
 rw [List.length_append,List.length_append,List.length_append]; omega
end Go.TF
set_option linter.unusedVariables false
set_option linter.unusedSimpArgs false
namespace Go.TF
open Go Go.Abs
theorem AtZ {x : Int} (h : 0≤x∧x≤1000000000) : IntKind.wrap .i64 (Int.tdiv (IntKind.wrap .i64 (2+2*x-2)) 2)=x:=by
 rw [w64 (n:=2+2*x-2) (by omega) (by omega),Int.tdiv_eq_ediv_of_nonneg (by omega),show (2+2*x-2) / 2=x by omega,w64 (by omega) (by omega)]
def Ayp : List AaC→Int
 | []=>0
 | a::l=>(if a.From=0 then 1 else 0)+Ayp l
def Awn : List AaC→Int
 | []=>0
 | a::l=>(if a.From≠0∧a.To=1 then 1 else 0)+Awn l
def Axf (N : Nat) (s ks : List Int) (c : Int→Int) (a : AaC) : Prop :=
 (∃ x,a=arS c x∧0≤x∧x<N∧x ∈ s∧0<c x)∨(∃ x,a=arI c x∧0≤x∧x<N∧0<c x)∨(∃ x,a=arT x∧0≤x∧x<N∧x ∈ ks∧0<c x) ∨
 (∃ e,a=arE e∧0≤e.From∧e.From<N∧0≤e.To∧e.To<N∧0<c e.From∧0<c e.To)
theorem ArT {N : Nat} {E : List AaB} {g s : List Int} {lv : Int} (hE : inE N E) (hs : ∀ x ∈ s,0≤x∧x<N) {e : AaB} (he : e ∈ E.filter (lvE lv)) (h : Aem N E g s lv e.From=true) : Aem N E g s lv e.To=true:=by
 unfold Aem at h ⊢
 rw [decide_eq_true_eq] at h ⊢
 obtain ⟨j,hj⟩:=Int.eq_ofNat_of_zero_le h
 have hin : ∀ p ∈ (E.filter (lvE lv)).map pr,0≤p.2∧p.2<N:=by
  intro p hp
  obtain ⟨x,hx,rfl⟩:=List.mem_map.1 hp
  have:=hE x (List.mem_filter.1 hx).1
  exact ⟨this.2.2.1,this.2.2.2⟩
 have hS : ∀ v,sS s g v=true→0≤v∧v<N:=by
  intro v hv; unfold sS at hv
  simp only [Bool.and_eq_true,decide_eq_true_eq] at hv
  exact hs v hv.1
 have hlt:=Dist.dst_lt N hS hin j e.From (Dist.dst_at N j e.From hj)
 have:=Dist.dst_from (k:=N) hj hlt (v:=e.To) (List.mem_map_of_mem (f:=pr) he)
 have:=Dist.dst_range (E:=(E.filter (lvE lv)).map pr) (S:=sS s g) N e.To
 show 0≤Dist.dst ((E.filter (lvE lv)).map pr) (sS s g) N e.To
 omega
theorem Arf {N : Nat} {E : List AaB} {g s t : List Int} {lv : Int} {ks : List Int} (hE : inE N E) (hs : ∀ x ∈ s,0≤x∧x<N) (hk : ∀ x ∈ ks,0≤x∧x<N) (ht : ∀ x ∈ t,1≤x) : ∀ a ∈ AeS N E g s t lv ks,Axf N s ks (cF N E g s t lv) a:=by
 intro a ha
 have P:=fun v=>Aqg (N:=N) (E:=E) (g:=g) (s:=s) (lv:=lv) ht v
 unfold AeS AnT at ha
 simp only [List.mem_append,List.mem_map,List.mem_filter] at ha
 rcases ha with ((⟨x,⟨h1,h2⟩,rfl⟩ | ⟨x,⟨h1,h2⟩,rfl⟩) | ⟨x,⟨h1,h2⟩,rfl⟩) | ⟨e,⟨h1,h2⟩,rfl⟩
 ·have:=hs x h1; exact .inl ⟨x,rfl,this.1,this.2,h1,(P x).2 h2⟩
 ·have:=Ad3.1 h1; exact .inr (.inl ⟨x,rfl,this.1,this.2,(P x).2 h2⟩)
 ·have:=hk x h1; exact .inr (.inr (.inl ⟨x,rfl,this.1,this.2,h1,(P x).2 h2⟩))
 ·have:=hE e h1.1
  exact .inr (.inr (.inr ⟨e,rfl,this.1,this.2.1,this.2.2.1,this.2.2.2,(P _).2 h2,(P _).2 (ArT hE hs (List.mem_filter.2 h1) h2)⟩))
end Go.TF
