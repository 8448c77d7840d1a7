import Derived.Test.YtelffnegemdicaaPczWal30
import Derived.Test.YtelffnegemdicaaPczLay24
set_option linter.unusedVariables false
set_option linter.unusedSimpArgs false
namespace Go.TF
open Go Go.Abs
theorem Aam {α : Type} {c : Prop} [Decidable c] {x : Option α} (h : c) : chk c x=x:=by simp [chk,h]
theorem Aa9 {α β : Type} {l : List α} {i : Nat} {f : α→Option β} (h : i<l.length) : idx l (i : Int) f=f l[i]:=by
 simp [idx,h]
@[simp] theorem Aae {α γ : Type} (a : α) (f : α→Option γ) : Abi (some a) f=f a:=rfl
@[simp] theorem Ab2 {α β γ : Type} (a : α) (b : β) (f : α→β→Option γ) : Agv (some (a,b)) f=f a b:=rfl
@[simp] theorem Adv {α β δ γ : Type} (a : α) (b : β) (c : δ) (f : α→β→δ→Option γ) : Am9 (some (a,b,c)) f=f a b c:=rfl
@[simp] theorem Ajc {α β δ ε γ : Type} (a : α) (b : β) (c : δ) (d : ε) (f : α→β→δ→ε→Option γ) : ArI (some (a,b,c,d)) f=f a b c d:=rfl
@[simp] theorem Alv {α γ : Type} (x : α) (f : α→Option γ) : AoY x f=f x:=rfl
theorem w64 {n : Int} (h1 : -9223372036854775808≤n) (h2 : n≤9223372036854775807) : IntKind.wrap .i64 n=n:=AnO h1 h2
end Go.TF
set_option linter.unusedVariables false
set_option linter.unusedSimpArgs false
namespace Go.TF
open Go Go.Abs
def Ap3 (a b : Int) : Int:=if b<1 then 0 else if Int.tmod a b<0 then IntKind.wrap .i64 (Int.tmod a b+b) else Int.tmod a b
theorem Anp (k : Nat) (a b : Int) : Acl k a b=some (Ap3 a b):=by
 unfold Acl Ap3 Acl.J1
 split; · rfl
 rw [Aam (by omega)]
 split <;> rfl
theorem AlD (a b : Int) (h1 : 1≤b) (h2 : b≤1000000000) : 0≤Ap3 a b∧Ap3 a b<b:=by
 have:=Int.tmod_lt_of_pos a (show 0<b by omega)
 have:=Int.lt_tmod_of_pos a (show 0<b by omega)
 unfold Ap3
 rw [if_neg (by omega)]
 split
 ·rw [w64 (by omega) (by omega)]; omega
 ·omega
abbrev Pos (p : Int) : Prop:=0≤p∧p≤1000000000
theorem Ad9 (k : Nat) (l : List Int) (p n : Int) (hl : l.length≤1000000000) (hp : Pos p) : ∃ a q,AbI k l p n=some (a,q)∧Pos q∧(1≤n→n≤1000000000→0≤a∧a<n):=by
 unfold AbI
 by_cases h : (l.length : Int)≤p
 ·rw [if_pos h]; exact ⟨0,p,rfl,hp,fun _ _=>by omega⟩
 ·rw [if_neg h]
  obtain ⟨i,rfl⟩:=Int.eq_ofNat_of_zero_le hp.1
  have e1 : IntKind.wrap .i64 (IntKind.wrap .i64 ((i : Int)+1)-1)=i:=by
   rw [w64 (n:=(i : Int)+1) (by omega) (by omega),w64 (by omega) (by omega)]; omega
  rw [e1,Aa9 (by omega),Anp,Aae,w64 (by omega) (by omega)]
  exact ⟨_,_,rfl,by omega,fun h1 h2=>AlD _ _ h1 h2⟩
theorem AnM (k : Nat) (l : List Int) : AfC k l=some (decide ((l.length : Int)≤400)):=rfl
theorem Ao4 (k : Nat) (l : List Int) : Af5 k l=some (l,0):=rfl
end Go.TF
set_option linter.unusedVariables false
set_option linter.unusedSimpArgs false
namespace Go.TF
open Go Go.Abs
theorem AeT (i : Nat) (h : i<9223372036854775807) : IntKind.wrap .i64 ((i : Int)+1)=((i+1 : Nat) : Int):=by rw [w64 (by omega) (by omega)]; omega
theorem AoB (i : Nat) (h : i<9223372036854775806) : IntKind.wrap .i64 (((i+1 : Nat) : Int)-1)=(i : Int):=by rw [w64 (by omega) (by omega)]; omega
theorem Ai4 (k : Nat) (l : List Int) (x : Int) (h9 : l.length≤1000000) : ∀ (m i n : Nat),i+m=l.length→m<n→AbK.L1 k l x n (i : Int)=some (decide (x ∈ l.drop i))
 | 0,i,n+1,h,_=>by rw [AbK.L1,if_neg (by omega),List.drop_eq_nil_of_le (by omega)]; rfl
 | m+1,i,n+1,h,hn=>by
  have hi : i<l.length:=by omega
  rw [AbK.L1,if_pos (by omega),Aa9 hi,List.drop_eq_getElem_cons hi]
  by_cases e : l[i]=x
  ·rw [if_pos e]; simp [-List.getElem_cons_drop,e]
  ·rw [if_neg e,AeT i (by omega),Ai4 k l x h9 m (i+1) n (by omega) (by omega)]
   have e' : ¬ x=l[i]:=fun q=>e q.symm
   simp [-List.getElem_cons_drop,e']
theorem Adr (k : Nat) (l : List Int) (x : Int) (hk : l.length<k) (h9 : l.length≤1000000) : AbK k l x=some (decide (x ∈ l)):=Ai4 k l x h9 l.length 0 k (by omega) hk
theorem Ag5 (k : Nat) (l : List Int) (x : Int) (h9 : l.length≤1000000) : ∀ (m i n : Nat),i+m=l.length→m<n→∃ r,Aa0.L1 k l x n (i : Int)=some r∧(0≤r↔x ∈ l.drop i)
 | 0,i,n+1,h,_=>by rw [Aa0.L1,if_neg (by omega),List.drop_eq_nil_of_le (by omega)]; exact ⟨_,rfl,by simp⟩
 | m+1,i,n+1,h,hn=>by
  have hi : i<l.length:=by omega
  rw [Aa0.L1,if_pos (by omega),Aa9 hi,List.drop_eq_getElem_cons hi]
  by_cases e : x=l[i]
  ·rw [if_pos e]; exact ⟨_,rfl,by simp [-List.getElem_cons_drop,e]⟩
  ·rw [if_neg e,AeT i (by omega)]
   obtain ⟨r,h1,h2⟩:=Ag5 k l x h9 m (i+1) n (by omega) (by omega)
   exact ⟨r,h1,by rw [h2]; simp [-List.getElem_cons_drop,e]⟩
theorem Agd (k : Nat) (l : List Int) (x : Int) (hk : l.length<k) (h9 : l.length≤1000000) : AbW k l x=some (decide (x ∈ l)):=by
 unfold AbW Aa0
 obtain ⟨r,h1,h2⟩:=Ag5 k l x h9 l.length 0 k (by omega) hk
 rw [show (0 : Int)=((0 : Nat) : Int) from rfl,h1,Aae]
 simp only [List.drop_zero] at h2
 simp [← h2]
def prv {α : Type} (l : List α) : Nat→Option α
 | 0=>none
 | i+1=>l[i]?
theorem Amg {α : Type} {l : List α} {i : Nat} (h : i<l.length) : prv l (i+1)=some l[i]:=List.getElem?_eq_getElem h
def loI : Option Int→Int→Bool
 | none,_=>true
 | some y,x=>decide (y<x)
def setF (N : Int) : Option Int→List Int→Bool
 | _,[]=>true
 | p,x::l=>decide (0≤x)&&decide (x<N)&&loI p x&&setF N (some x) l
theorem Ai2 (k : Nat) (l : List Int) (N : Int) (h9 : l.length≤1000000) : ∀ (m i n : Nat),i+m=l.length→m<n→Abd.L1 k l N n (i : Int)=some (setF N (prv l i) (l.drop i))
 | 0,i,n+1,h,_=>by rw [Abd.L1,if_neg (by omega),List.drop_eq_nil_of_le (by omega)]; rfl
 | m+1,i,n+1,h,hn=>by
  have hi : i<l.length:=by omega
  rw [Abd.L1,if_pos (by omega),Aa9 hi,List.drop_eq_getElem_cons hi,setF]
  by_cases h1 : l[i]<0
  ·rw [if_pos h1]; have : ¬ 0≤l[i]:=by omega
   simp [this]
  rw [if_neg h1]
  by_cases h2 : N≤l[i]
  ·rw [if_pos h2]; have : ¬ l[i]<N:=by omega
   simp [this]
  rw [if_neg h2]
  have a1 : 0≤l[i]:=by omega
  have a2 : l[i]<N:=by omega
  have ih:=Ai2 k l N h9 m (i+1) n (by omega) (by omega)
  rw [Amg hi] at ih
  unfold Abd.J2
  simp only [AeT i (by omega),ih]
  cases i with
  | zero=>rw [if_neg (by omega)]; simp [prv,loI,a1,a2]
  | succ j =>
   rw [if_pos (by omega),AoB j (by omega),Aa9 (by omega : j<l.length),Amg (by omega)]
   by_cases h3 : l[j+1]≤l[j]
   ·rw [if_pos h3]; have : ¬ l[j]<l[j+1]:=by omega
    simp [loI,this]
   ·rw [if_neg h3]; have : l[j]<l[j+1]:=by omega
    simp [loI,this,a1,a2]
theorem AoA (k : Nat) (l : List Int) (N : Int) (hk : l.length<k) (h9 : l.length≤1000000) : Abd k l N=some (setF N none l):=Ai2 k l N h9 l.length 0 k (by omega) hk
theorem Aiz (N : Int) : ∀ (l : List Int) (p : Option Int),setF N p l=true↔(∀ x ∈ l,0≤x∧x<N)∧l.Pairwise (· < ·)∧(∀ q,p=some q→∀ x ∈ l,q<x)
 | [],p=>by simp [setF]
 | x::l,p=>by
  rw [setF]
  simp only [Bool.and_eq_true,decide_eq_true_eq,Aiz N l (some x),List.mem_cons,List.pairwise_cons]
  constructor
  ·rintro ⟨⟨⟨h1,h2⟩,h3⟩,h4,h5,h6⟩
   refine ⟨fun y hy=>?_,⟨fun y hy=>h6 x rfl y hy,h5⟩,fun q hq y hy=>?_⟩
   ·rcases hy with rfl | hy
    ·exact ⟨h1,h2⟩
    ·exact h4 y hy
   ·subst hq
    simp only [loI,decide_eq_true_eq] at h3
    rcases hy with rfl | hy
    ·exact h3
    ·have:=h6 x rfl y hy; omega
  ·rintro ⟨h1,⟨h2,h3⟩,h4⟩
   refine ⟨⟨h1 x (.inl rfl),?_⟩,fun y hy=>h1 y (.inr hy),h3,fun q hq y hy=>?_⟩
   ·cases p with
    | none=>rfl
    | some q=>simp only [loI,decide_eq_true_eq]; exact h4 q rfl x (.inl rfl)
   ·simp only [Option.some.injEq] at hq; subst hq; exact h2 y hy
theorem Amb (N : Int) (l : List Int) : setF N none l=true↔(∀ x ∈ l,0≤x∧x<N)∧l.Pairwise (· < ·):=by
 rw [Aiz]; simp
theorem Afo : ∀ (l : List Int) (a N : Int),(∀ x ∈ l,a≤x∧x<N)→l.Pairwise (· < ·)→a≤N→(l.length : Int)≤N-a
 | [],a,N,_,_,h=>by simp; omega
 | x::l,a,N,h1,h2,h=>by
  rw [List.pairwise_cons] at h2
  have hx:=h1 x (by simp)
  have:=Afo l (x+1) N (fun y hy=>⟨by have:=h2.1 y hy; omega,(h1 y (by simp [hy])).2⟩) h2.2 (by omega)
  simp only [List.length_cons]; omega
def bef (a b : AaA) : Bool:=decide (a.From<b.From∨(a.From=b.From∧a.To<b.To))
def okE (N : Int) (g : List Int) (e : AaA) : Bool:=decide (0≤e.From∧e.From<N∧0≤e.To∧e.To<N∧e.From≠e.To∧1≤e.Level∧e.Level≤3∧e.From ∉ g∧e.To ∉ g)
def loE : Option AaA→AaA→Bool
 | none,_=>true
 | some q,e=>bef q e
def edF (N : Int) (g : List Int) : Option AaA→List AaA→Bool
 | _,[]=>true
 | p,e::l=>okE N g e&&loE p e&&edF N g (some e) l
def okG (N : Int) (E : List AaA) (g : List Int) : Bool:=decide (0≤N∧N≤64∧E.length≤500)&&(setF N none g&&edF N g none E)
theorem Aje (k : Nat) (a b c d e f : Int) : Acv k a b c d e f=some (decide (a<d∨(a=d∧b<e))):=by
 unfold Acv
 by_cases h : a<d
 ·rw [if_pos h]; simp [h]
 ·rw [if_neg h]
  by_cases h2 : a=d
  ·rw [if_pos h2]; simp [h2]
  ·rw [if_neg h2]; simp [h,h2]
theorem AhA (k : Nat) (N : Int) (E : List AaA) (g : List Int) (hg : g.length<k) (hg9 : g.length≤1000000) (h9 : E.length≤1000000) : ∀ (m i n : Nat),i+m=E.length→m<n→Aa1.L1 k N E g n (i : Int)=some (if edF N g (prv E i) (E.drop i) then 0 else 14)
 | 0,i,n+1,h,_=>by rw [Aa1.L1,if_neg (by omega),List.drop_eq_nil_of_le (by omega)]; rfl
 | m+1,i,n+1,h,hn=>by
  have hi : i<E.length:=by omega
  have ih:=AhA k N E g hg hg9 h9 m (i+1) n (by omega) (by omega)
  rw [Amg hi] at ih
  rw [Aa1.L1,if_pos (by omega),Aa9 hi,List.drop_eq_getElem_cons hi,edF]
  unfold Aa1.J2
  simp only [Adr k g _ hg hg9,Aae,AeT i (by omega),ih]
  generalize edF N g (some E[i]) (E.drop (i+1))=R
  by_cases a1 : E[i].From<0
  ·rw [if_pos a1]; have : okE N g E[i]=false:=by unfold okE; rw [decide_eq_false_iff_not]; omega
   simp [this]
  rw [if_neg a1]
  by_cases a2 : N≤E[i].From
  ·rw [if_pos a2]; have : okE N g E[i]=false:=by unfold okE; rw [decide_eq_false_iff_not]; omega
   simp [this]
  rw [if_neg a2]
  by_cases a3 : E[i].To<0
  ·rw [if_pos a3]; have : okE N g E[i]=false:=by unfold okE; rw [decide_eq_false_iff_not]; omega
   simp [this]
  rw [if_neg a3]
  by_cases a4 : N≤E[i].To
  ·rw [if_pos a4]; have : okE N g E[i]=false:=by unfold okE; rw [decide_eq_false_iff_not]; omega
   simp [this]
  rw [if_neg a4]
  by_cases a5 : E[i].From=E[i].To
  ·rw [if_pos a5]; have : okE N g E[i]=false:=by unfold okE; rw [decide_eq_false_iff_not]; omega
   simp [this]
  rw [if_neg a5]
  by_cases a6 : E[i].Level<1
  ·rw [if_pos a6]; have : okE N g E[i]=false:=by unfold okE; rw [decide_eq_false_iff_not]; omega
   simp [this]
  rw [if_neg a6]
  by_cases a7 : 3<E[i].Level
  ·rw [if_pos a7]; have : okE N g E[i]=false:=by unfold okE; rw [decide_eq_false_iff_not]; omega
   simp [this]
  rw [if_neg a7]
  have ok : okE N g E[i]=(!decide (E[i].From ∈ g) && !decide (E[i].To ∈ g)):=by
   unfold okE
   by_cases b1 : E[i].From ∈ g <;> by_cases b2 : E[i].To ∈ g <;> simp [b1,b2] <;> omega
  rw [ok]
  cases i with
  | zero =>
   rw [if_neg (by omega)]
   by_cases b1 : E[0].From ∈ g <;> by_cases b2 : E[0].To ∈ g <;> simp [b1,b2,prv,loE]
  | succ j =>
   rw [if_pos (by omega),AoB j (by omega),Aa9 (by omega : j<E.length),Amg (by omega),Aje,Aae]
   rw [show loE (some E[j]) E[j+1]=bef E[j] E[j+1] from rfl]
   have hb : decide (E[j].From<E[j+1].From∨(E[j].From=E[j+1].From∧E[j].To<E[j+1].To))=bef E[j] E[j+1]:=rfl
   rw [hb]
   by_cases b0 : bef E[j] E[j+1]=true
   ·by_cases b1 : E[j+1].From ∈ g <;> by_cases b2 : E[j+1].To ∈ g <;> simp [b0,b1,b2]
   ·simp only [Bool.not_eq_true] at b0
    simp [b0]
theorem Alb (k : Nat) (N : Int) (E : List AaA) (g : List Int) (hk : 500<k) (hg : g.length<k) (hg9 : g.length≤1000000) : Aa1 k N E g=some (if okG N E g then 0 else 14):=by
 unfold Aa1 okG
 by_cases h1 : N<0
 ·rw [if_pos h1]; have : ¬ (0≤N∧N≤64∧E.length≤500):=by omega
  simp [this]
 rw [if_neg h1]
 by_cases h2 : 64<N
 ·rw [if_pos h2]; have : ¬ (0≤N∧N≤64∧E.length≤500):=by omega
  simp [this]
 rw [if_neg h2]
 by_cases h3 : 500<(E.length : Int)
 ·rw [if_pos h3]; have : ¬ (0≤N∧N≤64∧E.length≤500):=by omega
  simp [this]
 rw [if_neg h3,AoA k g N hg hg9,Aae]
 have : (0≤N∧N≤64∧E.length≤500):=by omega
 by_cases h4 : setF N none g=true
 ·rw [if_neg (by simp [h4])]
  have:=AhA k N E g hg hg9 (by omega) E.length 0 k (by omega) (by omega)
  rw [show (0 : Int)=((0 : Nat) : Int) from rfl,this]
  simp only [prv,List.drop_zero,h4,Bool.true_and]
  have q : (0≤N∧N≤64∧E.length≤500):=by omega
  simp [q]
 ·rw [if_pos (by simpa using h4)]
  simp only [Bool.not_eq_true] at h4
  simp [h4]
theorem Ajf {a b c : AaA} (h1 : bef a b=true) (h2 : bef b c=true) : bef a c=true:=by
 unfold bef at *; rw [decide_eq_true_eq] at *; omega
theorem Akr (N : Int) (g : List Int) : ∀ (l : List AaA) (p : Option AaA),edF N g p l=true↔(∀ x ∈ l,okE N g x=true)∧l.Pairwise (fun a b=>bef a b=true)∧(∀ q,p=some q→∀ x ∈ l,bef q x=true)
 | [],p=>by simp [edF]
 | x::l,p=>by
  rw [edF]
  simp only [Bool.and_eq_true,Akr N g l (some x),List.mem_cons,List.pairwise_cons]
  constructor
  ·rintro ⟨⟨h1,h3⟩,h4,h5,h6⟩
   refine ⟨fun y hy=>?_,⟨fun y hy=>h6 x rfl y hy,h5⟩,fun q hq y hy=>?_⟩
   ·rcases hy with rfl | hy
    ·exact h1
    ·exact h4 y hy
   ·subst hq
    rcases hy with rfl | hy
    ·exact h3
    ·exact Ajf h3 (h6 x rfl y hy)
  ·rintro ⟨h1,⟨h2,h3⟩,h4⟩
   refine ⟨⟨h1 x (.inl rfl),?_⟩,fun y hy=>h1 y (.inr hy),h3,fun q hq y hy=>?_⟩
   ·cases p with
    | none=>rfl
    | some q=>exact h4 q rfl x (.inl rfl)
   ·simp only [Option.some.injEq] at hq; subst hq; exact h2 y hy
theorem Ac4 (N : Int) (E : List AaA) (g : List Int) : okG N E g=true↔(0≤N∧N≤64∧E.length≤500)∧((∀ x ∈ g,0≤x∧x<N)∧g.Pairwise (· < ·))∧(∀ x ∈ E,okE N g x=true)∧E.Pairwise (fun a b=>bef a b=true):=by
 unfold okG
 rw [Bool.and_eq_true,Bool.and_eq_true,Amb,Akr,decide_eq_true_eq]; simp
theorem AiV (N : Int) (g : List Int) (e : AaA) : okE N g e=true↔0≤e.From∧e.From<N∧0≤e.To∧e.To<N∧e.From≠e.To∧1≤e.Level∧e.Level≤3∧e.From ∉ g∧e.To ∉ g:=by
 unfold okE; rw [decide_eq_true_eq]
end Go.TF
namespace Go.TF.Dist
def dst (E : List (Int×Int)) (S : Int→Bool) : Nat→Int→Int
 | 0,v=>if S v then 0 else -1
 | k+1,v=>if dst E S k v ≠ -1 then dst E S k v else if E.any (fun e=>e.2==v&&dst E S k e.1==(k : Int)) then (k : Int)+1 else -1
variable {E : List (Int×Int)} {S : Int→Bool}
theorem dst_range (k : Nat) (v : Int) : dst E S k v = -1∨(0≤dst E S k v∧dst E S k v≤k):=by
 induction k with
 | zero=>unfold dst; split <;> simp
 | succ k ih =>
  unfold dst; split
  ·rcases ih with h | h
   ·contradiction
   ·right; omega
  ·split
   ·right; omega
   ·left; rfl
theorem dst_keep {k : Nat} {v : Int} (h : dst E S k v ≠ -1) : ∀ j,dst E S (k+j) v=dst E S k v:=by
 intro j; induction j with
 | zero=>rfl
 | succ j ih=>rw [← Nat.add_assoc]; rw [show dst E S (k+j+1) v=if dst E S (k+j) v ≠ -1 then dst E S (k+j) v else _ from rfl,if_pos (by rw [ih]; exact h),ih]
theorem dst_succ {k : Nat} {v : Int} : dst E S (k+1) v=(k : Int)+1↔dst E S k v = -1∧∃ u,(u,v) ∈ E∧dst E S k u=k:=by
 have hr:=dst_range (E:=E) (S:=S) k v
 rw [show dst E S (k+1) v=if dst E S k v ≠ -1 then dst E S k v else if E.any (fun e=>e.2==v&&dst E S k e.1==(k : Int)) then (k : Int)+1 else -1 from rfl]
 by_cases h : dst E S k v ≠ -1
 ·rw [if_pos h]; constructor
  ·intro e; omega
  ·intro e; exact absurd e.1 h
 ·rw [if_neg h]; have h' : dst E S k v = -1:=Classical.not_not.1 h
  split
  ·rename_i a
   simp only [List.any_eq_true,Bool.and_eq_true,beq_iff_eq] at a
   obtain ⟨⟨x,y⟩,m,rfl,e⟩:=a
   exact ⟨fun _=>⟨h',x,m,e⟩,fun _=>rfl⟩
  ·rename_i a
   simp only [List.any_eq_true,Bool.and_eq_true,beq_iff_eq,not_exists,not_and] at a
   exact ⟨fun e=>by omega,fun ⟨_,u,m,e⟩=>absurd e (a (u,v) m rfl)⟩
theorem Am7 {k : Nat} {v : Int} : dst E S (k+1) v=if dst E S (k+1) v=(k : Int)+1 then (k : Int)+1 else dst E S k v:=by
 have hr:=dst_range (E:=E) (S:=S) k v
 by_cases h : dst E S (k+1) v=(k : Int)+1
 ·rw [if_pos h,h]
 ·rw [if_neg h]
  rw [show dst E S (k+1) v=if dst E S k v ≠ -1 then dst E S k v else if E.any (fun e=>e.2==v&&dst E S k e.1==(k : Int)) then (k : Int)+1 else -1 from rfl] at h ⊢
  split
  ·rfl
  ·rename_i a
   rw [if_neg a] at h
   rw [Classical.not_not.1 a]
   split
   ·rename_i b; rw [if_pos b] at h; exact absurd rfl h
   ·rfl
def cnt (E : List (Int×Int)) (S : Int→Bool) (n k : Nat) : Nat:=((List.range n).filter fun (x : Nat)=>decide (dst E S k (x : Int) ≠ -1)).length
theorem AhQ (n k : Nat) : cnt E S n k≤n:=by
 unfold cnt; exact Nat.le_trans (List.length_filter_le _ _) (by simp)
theorem Al0 {α : Type} (p q : α→Bool) (l : List α) (h : ∀ x ∈ l,p x=true→q x=true) (y : α) (hy : y ∈ l) (hp : p y=false) (hq : q y=true) : (l.filter p).length<(l.filter q).length:=by
 induction l with
 | nil=>cases hy
 | cons a l ih =>
  have hle : (l.filter p).length≤(l.filter q).length:=by
   clear ih hy
   induction l with
   | nil=>simp
   | cons b l ih =>
    have ih':=ih (fun x hx=>h x (by rcases List.mem_cons.1 hx with rfl | hx; simp; exact List.mem_cons_of_mem _ (List.mem_cons_of_mem _ hx)))
    by_cases hb : p b=true
    ·simp [List.filter_cons,hb,h b (by simp) hb]; exact ih'
    ·by_cases hb' : q b=true
     ·simp [List.filter_cons,hb,hb']; omega
     ·simp [List.filter_cons,hb,hb']; exact ih'
  rcases List.mem_cons.1 hy with rfl | hy
  ·simp [List.filter_cons,hp,hq]; omega
  ·have:=ih (fun x hx=>h x (List.mem_cons_of_mem _ hx)) hy
   by_cases ha : p a=true
   ·simp [List.filter_cons,ha,h a (by simp) ha]; exact this
   ·by_cases ha' : q a=true
    ·simp [List.filter_cons,ha,ha']; omega
    ·simp [List.filter_cons,ha,ha']; exact this
theorem AqO (n : Nat) (hS : ∀ v,S v=true→0≤v∧v<n) (hE : ∀ e ∈ E,0≤e.2∧e.2<n) : ∀ k : Nat,(∃ v,dst E S k v=(k : Int))→k+1≤cnt E S n k:=by
 have hin : ∀ (k : Nat) (v : Int),dst E S k v ≠ -1→0≤v∧v<n:=by
  intro k; induction k with
  | zero=>intro v h; unfold dst at h; split at h; exact hS v ‹_›; exact absurd rfl h
  | succ k ih =>
   intro v h; unfold dst at h; split at h
   ·exact ih v ‹_›
   ·split at h
    ·rename_i a
     simp only [List.any_eq_true,Bool.and_eq_true,beq_iff_eq] at a
     obtain ⟨e,m,rfl,_⟩:=a
     exact hE e m
    ·exact absurd rfl h
 intro k; induction k with
 | zero =>
  rintro ⟨v,h⟩
  have hv:=hin 0 v (by rw [h]; simp)
  have : 0<cnt E S n 0:=by
   unfold cnt
   apply List.length_pos_of_mem (a:=v.toNat)
   rw [List.mem_filter]
   refine ⟨by simp; omega,?_⟩
   rw [decide_eq_true_iff,show ((v.toNat : Nat) : Int)=v by omega,h]; simp
  omega
 | succ k ih =>
  rintro ⟨v,h⟩
  have h':=(dst_succ (k:=k) (v:=v)).1 (by simpa using h)
  obtain ⟨h1,u,m,h2⟩:=h'
  have:=ih ⟨u,h2⟩
  have hv:=hin (k+1) v (by rw [h]; simp; omega)
  have : cnt E S n k<cnt E S n (k+1):=by
   unfold cnt
   refine Al0 _ _ _ (fun x _ hx=>?_) v.toNat (by simp; omega) ?_ ?_
   ·rw [decide_eq_true_iff] at hx ⊢
    rw [dst_keep hx 1]; exact hx
   ·rw [decide_eq_false_iff_not,show ((v.toNat : Nat) : Int)=v by omega,h1]; simp
   ·rw [decide_eq_true_iff,show ((v.toNat : Nat) : Int)=v by omega,h]; simp; omega
  omega
theorem dst_lt (n : Nat) (hS : ∀ v,S v=true→0≤v∧v<n) (hE : ∀ e ∈ E,0≤e.2∧e.2<n) (k : Nat) (v : Int) (h : dst E S k v=(k : Int)) : k<n:=by
 have:=AqO (E:=E) (S:=S) n hS hE k ⟨v,h⟩; have:=AhQ (E:=E) (S:=S) n k; omega
theorem dst_at : ∀ (k j : Nat) (v : Int),dst E S k v=(j : Int)→dst E S j v=(j : Int):=by
 intro k; induction k with
 | zero =>
  intro j v h
  have:=dst_range (E:=E) (S:=S) 0 v
  have : j=0:=by omega
  subst this; exact h
 | succ k ih =>
  intro j v h
  by_cases e : j=k+1
  ·subst e; exact h
  ·rw [Am7] at h
   by_cases e' : dst E S (k+1) v=(k : Int)+1
   ·rw [if_pos e'] at h; omega
   ·rw [if_neg e'] at h; exact ih j v h
theorem dst_from {k j : Nat} {u v : Int} (h : dst E S k u=(j : Int)) (hj : j<k) (he : (u,v) ∈ E) : dst E S k v ≠ -1:=by
 have h1:=dst_at k j u h
 have : dst E S (j+1) v ≠ -1:=by
  by_cases e : dst E S j v = -1
  ·rw [show dst E S (j+1) v=(j : Int)+1 from (dst_succ).2 ⟨e,u,he,h1⟩]; omega
  ·rw [dst_keep e 1]; exact e
 obtain ⟨d,rfl⟩ : ∃ d,k=j+1+d:=⟨k-(j+1),by omega⟩
 rw [dst_keep this d]; exact this
end Go.TF.Dist
set_option linter.unusedVariables false
set_option linter.unusedSimpArgs false
namespace Go.TF
open Go Go.Abs
def tab (N : Nat) (f : Int→Int) : List Int:=(List.range N).map fun (v : Nat)=>f (v : Int)
@[simp] theorem ArO (N : Nat) (f : Int→Int) : (tab N f).length=N:=by simp [tab]
theorem Ajs {N : Nat} {f : Int→Int} {i : Nat} (h : i<(tab N f).length) : (tab N f)[i]=f (i : Int):=by simp [tab]
theorem Afi {β : Type} {N : Nat} {f : Int→Int} {x : Int} {F : Int→Option β} (h0 : 0≤x) (h1 : x<N) : idx (tab N f) x F=F (f x):=by
 obtain ⟨i,rfl⟩:=Int.eq_ofNat_of_zero_le h0
 rw [Aa9 (by simp; omega),Ajs]
theorem Ael {N : Nat} {f g : Int→Int} (h : ∀ v : Int,0≤v→v<N→f v=g v) : tab N f=tab N g :=
 List.map_congr_left fun v hv=>h v (by omega) (by have:=List.mem_range.1 hv; omega)
theorem Anw {N : Nat} {f : Int→Int} {x y : Int} (h0 : 0≤x) : (tab N f).set x.toNat y=tab N fun v=>if v=x then y else f v:=by
 obtain ⟨i,rfl⟩:=Int.eq_ofNat_of_zero_le h0
 refine List.ext_getElem (by simp) fun j h1 h2=>?_
 rw [List.getElem_set,Ajs,Ajs]
 by_cases e : i=j
 ·subst e; simp
 ·have : ¬ (j : Int)=(i : Int):=by omega
  simp [e,this]
theorem AmW (N : Nat) (f : Int→Int) : tab (N+1) f=tab N f++[f (N : Int)]:=by
 simp [tab,List.range_succ]
theorem AmZ (l : List Int) (i : Int) (x y : Int) (h : i.toNat=l.length) : (l++[x]).set i.toNat y=l++[y]:=by
 rw [List.set_append_right _ _ (by omega),h]; simp
def pr (e : AaA) : Int×Int:=(e.From,e.To)
abbrev dE (E : List AaA) (S : Int→Bool):=Dist.dst (E.map pr) S
def inE (N : Nat) (E : List AaA) : Prop:=∀ e ∈ E,0≤e.From∧e.From<N∧0≤e.To∧e.To<N
def sS (s g : List Int) (v : Int) : Bool:=decide (v ∈ s) && !decide (v ∈ g)
def mid (E : List AaA) (S : Int→Bool) (r i : Nat) (v : Int) : Int :=
 if dE E S r v ≠ -1 then dE E S r v else if (E.take i).any (fun e=>e.To==v&&dE E S r e.From==(r : Int)) then (r : Int)+1 else -1
theorem Amo (E : List AaA) (S : Int→Bool) (r : Nat) (v : Int) : mid E S r 0 v=dE E S r v:=by
 unfold mid
 by_cases h : dE E S r v = -1 <;> simp [h]
theorem AoV (E : List AaA) (S : Int→Bool) (r : Nat) (v : Int) : mid E S r E.length v=dE E S (r+1) v:=by
 unfold mid
 rw [List.take_length]
 show _=Dist.dst (E.map pr) S (r+1) v
 rw [Dist.dst,List.any_map]; rfl
theorem AiZ (E : List AaA) (S : Int→Bool) (r i : Nat) (hi : i<E.length) (v : Int) : mid E S r (i+1) v=if dE E S r v ≠ -1 then dE E S r v else if (E.take i).any (fun e=>e.To==v&&dE E S r e.From==(r : Int))||(E[i].To==v&&dE E S r E[i].From==(r : Int)) then (r : Int)+1 else -1:=by
 unfold mid
 rw [List.take_succ_eq_append_getElem hi,List.any_append]; simp
theorem AnR (k N : Nat) (E : List AaA) (S : Int→Bool) (kb : Int→List Int→Option (List Int)) (hE : inE N E) (h9 : E.length≤1000000) (r : Nat) (hr : r≤1000000) : ∀ (m i n : Nat),i+m=E.length→m<n →
 Aan.L4 k E (r : Int) kb n (i : Int) (tab N (mid E S r i))=kb ((r+1 : Nat) : Int) (tab N (dE E S (r+1)))
 | 0,i,n+1,h,_=>by
  have : i=E.length:=by omega
  subst this
  rw [Aan.L4,if_neg (by omega),AeT r (by omega)]
  have e0 : tab N (mid E S r E.length)=tab N (dE E S (r+1)):=Ael fun v _ _=>AoV E S r v
  rw [e0]
 | m+1,i,n+1,h,hn=>by
  have hi : i<E.length:=by omega
  have he:=hE E[i] (List.getElem_mem hi)
  have hrng : ∀ v,dE E S r v = -1∨(0≤dE E S r v∧dE E S r v≤r):=fun v=>Dist.dst_range r v
  have ih:=AnR k N E S kb hE h9 r hr m (i+1) n (by omega) (by omega)
  rw [Aan.L4,if_pos (by omega),Aa9 hi,Aam ⟨by omega,by simp; omega⟩,Afi he.1 he.2.1]
  unfold Aan.J5
  simp only [AeT i (by omega)]
  have hm : ∀ v,mid E S r i v=(r : Int)↔dE E S r v=(r : Int):=by
   intro v; unfold mid
   have:=hrng v
   by_cases a : dE E S r v = -1
   ·simp only [a]; simp
    split <;> omega
   ·simp [a]
  by_cases h1 : dE E S r E[i].From=(r : Int)
  ·rw [if_pos ((hm _).2 h1),Aam ⟨by omega,by simp; omega⟩,Afi he.2.2.1 he.2.2.2]
   by_cases h2 : mid E S r i E[i].To = -1
   ·rw [if_pos h2,Aam ⟨by omega,by simp; omega⟩,Anw he.2.2.1,AeT r (by omega),← ih]
    congr 1
    refine Ael fun v _ _=>?_
    rw [AiZ E S r i hi,h1]
    by_cases e : v=E[i].To
    ·subst e
     rw [if_pos rfl]
     unfold mid at h2
     by_cases a : dE E S r E[i].To = -1
     ·simp [a]
     ·simp [a] at h2
    ·rw [if_neg e]
     have e' : (E[i].To==v)=false:=by simpa using fun q=>e q.symm
     unfold mid; rw [e']; simp
   ·rw [if_neg h2,← ih]
    congr 1
    refine Ael fun v _ _=>?_
    rw [AiZ E S r i hi,h1]
    unfold mid at h2 ⊢
    by_cases a : dE E S r v = -1
    ·by_cases e : E[i].To=v
     ·subst e
      cases hB : (E.take i).any (fun e=>e.To==E[i].To&&dE E S r e.From==(r : Int)) with
      | false=>rw [hB] at h2; simp [a] at h2
      | true=>simp [a]
     ·simp [a,e]
    ·simp [a]
  ·rw [if_neg (fun q=>h1 ((hm _).1 q)),← ih]
   congr 1
   refine Ael fun v _ _=>?_
   rw [AiZ E S r i hi]
   have e' : (dE E S r E[i].From==(r : Int))=false:=by simpa using h1
   unfold mid; rw [e']; simp
theorem AnS (k N : Nat) (E : List AaA) (S : Int→Bool) (hE : inE N E) (h9 : E.length≤1000000) (hk : E.length<k) (hN : N≤1000000) : ∀ (m r n : Nat),r+m=N→m<n →
 Aan.L3 k (N : Int) E n (r : Int) (tab N (dE E S r))=some (tab N (dE E S N))
 | 0,r,n+1,h,_=>by
  have : r=N:=by omega
  subst this
  rw [Aan.L3,if_neg (by omega)]
 | m+1,r,n+1,h,hn=>by
  rw [Aan.L3,if_pos (by omega)]
  have:=AnR k N E S (fun v10_ v11_=>Aan.L3 k (N : Int) E n v10_ v11_) hE h9 r (by omega) E.length 0 k (by omega) hk
  have e0 : tab N (mid E S r 0)=tab N (dE E S r):=Ael fun v _ _=>Amo E S r v
  rw [e0] at this
  rw [show (0 : Int)=((0 : Nat) : Int) from rfl,this]
  exact AnS k N E S hE h9 hk hN m (r+1) n (by omega) (by omega)
theorem AnT (k N : Nat) (E : List AaA) (g s : List Int) (hE : inE N E) (h9 : E.length≤1000000) (hk : E.length<k) (hkN : N<k) (hN : N≤1000000) (hg : g.length<k) (hg9 : g.length≤1000000) (hs : s.length<k) (hs9 : s.length≤1000000) : ∀ (m i n : Nat),i+m=N→m<n →
 Aan.L1 k (N : Int) E g s n (i : Int) (tab i (dE E (sS s g) 0))=some (tab N (dE E (sS s g) N))
 | 0,i,n+1,h,_=>by
  have : i=N:=by omega
  subst this
  rw [Aan.L1,if_neg (by omega)]
  exact AnS k i E (sS s g) hE h9 hk hN i 0 k (by omega) hkN
 | m+1,i,n+1,h,hn=>by
  have ih:=AnT k N E g s hE h9 hk hkN hN hg hg9 hs hs9 m (i+1) n (by omega) (by omega)
  rw [Aan.L1,if_pos (by omega),Aam (by simp; omega),Adr k s _ hs hs9,Aae]
  unfold Aan.J2
  simp only [AeT i (by omega),Adr k g _ hg hg9,Aae]
  rw [AmW] at ih
  have hd : dE E (sS s g) 0 (i : Int)=if sS s g (i : Int) then 0 else -1:=rfl
  rw [hd] at ih
  unfold sS at ih ⊢
  by_cases a : (i : Int) ∈ s
  ·rw [if_pos (by simp [a])]
   by_cases b : (i : Int) ∈ g
   ·rw [if_neg (by simp [b])]
    simpa [a,b] using ih
   ·rw [if_pos (by simp [b]),Aam ⟨by omega,by simp⟩]
    rw [AmZ _ _ _ _ (by simp)]
    simpa [a,b] using ih
  ·rw [if_neg (by simp [a])]
   simpa [a] using ih
theorem AnQ (k N : Nat) (E : List AaA) (g s : List Int) (hE : inE N E) (h9 : E.length≤1000000) (hk : E.length<k) (hkN : N<k) (hN : N≤1000000) (hg : g.length<k) (hg9 : g.length≤1000000) (hs : s.length<k) (hs9 : s.length≤1000000) :
 Aan k (N : Int) E g s=some (tab N (dE E (sS s g) N)):=AnT k N E g s hE h9 hk hkN hN hg hg9 hs hs9 N 0 k (by omega) hkN
end Go.TF
set_option linter.unusedVariables false
set_option linter.unusedSimpArgs false
namespace Go.TF
open Go Go.Abs
theorem take_set {α : Type} {l : List α} {i : Nat} {x : α} (h : i<l.length) : (l.set i x).take (i+1)=l.take i++[x]:=by
 rw [List.set_eq_take_append_cons_drop,if_pos h]
 have hl : (l.take i).length=i:=by rw [List.length_take]; omega
 have : (l.take i++x::l.drop (i+1)).take (i+1)=((l.take i++[x])++l.drop (i+1)).take (l.take i++[x]).length:=by
  rw [List.length_append,hl]; simp
 rw [this,List.take_left']; rfl
theorem AkU {α : Type} {l : List α} {i n : Nat} {z : α} (h : i≤l.length) : (l.take i++List.replicate n z).take i=l.take i:=by
 rw [List.take_left']; rw [List.length_take]; omega
structure Del {α : Type} (p : α→Bool) (L l : List α) (i j : Nat) : Prop where
 len : l.length=L.length
 lt : i<j
 le : j≤L.length
 kept : l.take i=(L.take j).filter p
 rest : l.drop j=L.drop j
theorem Del.keep {α : Type} {p : α→Bool} {L l : List α} {i j : Nat} (D : Del p L l i j) (h : j<L.length) (hp : p L[j]=true) : Del p L (l.set i L[j]) (i+1) (j+1) where
 len:=by rw [List.length_set,D.len]
 lt:=by have:=D.lt; omega
 le:=h
 kept:=by
  have:=D.lt
  rw [take_set (by rw [D.len]; omega),D.kept,List.take_succ_eq_append_getElem h,List.filter_append]; simp [hp]
 rest:=by
  have:=D.lt
  rw [List.drop_set_of_lt (by omega)]
  have:=congrArg (List.drop 1) D.rest
  rwa [List.drop_drop,List.drop_drop] at this
theorem Del.pass {α : Type} {p : α→Bool} {L l : List α} {i j : Nat} (D : Del p L l i j) (h : j<L.length) (hp : p L[j]=false) : Del p L l i (j+1) where
 len:=D.len
 lt:=by have:=D.lt; omega
 le:=h
 kept:=by rw [D.kept,List.take_succ_eq_append_getElem h,List.filter_append]; simp [hp]
 rest:=by
  have:=congrArg (List.drop 1) D.rest
  rwa [List.drop_drop,List.drop_drop] at this
theorem Del.at {α : Type} {p : α→Bool} {L l : List α} {i j : Nat} (D : Del p L l i j) (h : j<l.length) : l[j]=L[j]'(by rw [← D.len]; exact h):=by
 have h' : j<L.length:=by rw [← D.len]; exact h
 have:=D.rest
 rw [List.drop_eq_getElem_cons h,List.drop_eq_getElem_cons h'] at this
 exact (List.cons.inj this).1
theorem Del.first {α : Type} {p : α→Bool} {L : List α} {i : Nat} (h : i<L.length) (h1 : ∀ x ∈ L.take i,p x=true) (h2 : p L[i]=false) : Del p L L i (i+1) where
 len:=rfl
 lt:=by omega
 le:=h
 kept:=by
  rw [List.take_succ_eq_append_getElem h,List.filter_append,List.filter_eq_self.2 h1]; simp [h2]
 rest:=rfl
def AtZ (d : List Int) (y : Int) : Bool := !decide (0≤y∧y<d.length)||decide (0≤d.getD y.toNat 0)
def lvE (lv : Int) (e : AaA) : Bool:=decide (lv≤e.Level)
theorem Anb (k : Nat) (e : AaA) (lv : Int) : Acd k e.From e.To e.Level lv=some (!lvE lv e):=by
 unfold Acd lvE
 by_cases h : lv≤e.Level
 ·have : ¬ e.Level<lv:=by omega
  simp [h,this]
 ·have : e.Level<lv:=by omega
  simp [h,this]
theorem AjT (k : Nat) (L : List AaA) (lv : Int) (h9 : L.length≤1000000) : ∀ (m i n : Nat),i+m=L.length→m<n→(∀ x ∈ L.take i,lvE lv x=true)→∃ r,AaV.L1 k L lv n (i : Int)=some r∧((r = -1∧∀ x ∈ L,lvE lv x=true)∨∃ j : Nat,∃ h : j<L.length,r=(j : Int)∧lvE lv L[j]=false∧∀ x ∈ L.take j,lvE lv x=true)
 | 0,i,n+1,h,_,hp=>by
  rw [AaV.L1,if_neg (by omega)]
  rw [List.take_of_length_le (by omega)] at hp
  exact ⟨_,rfl,.inl ⟨rfl,hp⟩⟩
 | m+1,i,n+1,h,hn,hp=>by
  have hi : i<L.length:=by omega
  rw [AaV.L1,if_pos (by omega),Aa9 hi,Anb,Aae]
  by_cases e : lvE lv L[i]=true
  ·rw [if_neg (by simp [e]),AeT i (by omega)]
   refine AjT k L lv h9 m (i+1) n (by omega) (by omega) fun x hx=>?_
   rw [List.take_succ_eq_append_getElem hi,List.mem_append] at hx
   rcases hx with hx | hx
   ·exact hp x hx
   ·simp only [List.mem_singleton] at hx; subst hx; exact e
  ·rw [if_pos (by simpa using e)]; exact ⟨_,rfl,.inr ⟨i,hi,rfl,by simpa using e,hp⟩⟩
theorem AhO (k : Nat) (L : List AaA) (lv : Int) (h9 : L.length≤1000000) : ∀ (m j i n : Nat) (l : List AaA),j+m=L.length→m<n→Del (lvE lv) L l i j→AaK.L1 k lv n (i : Int) (j : Int) l=some (L.filter (lvE lv))
 | 0,j,i,n+1,l,h,_,D=>by
  have h1:=D.len; have h2:=D.lt; have h3:=D.le
  rw [AaK.L1,if_neg (by omega),Aam (by omega),Aam (by omega),Alv,Aam (by simp; omega)]
  rw [show ((i : Int)).toNat=i by omega,AkU (by omega),D.kept,List.take_of_length_le (by omega)]
 | m+1,j,i,n+1,l,h,hn,D=>by
  have h1:=D.len; have h2:=D.lt; have h3:=D.le
  have hj : j<l.length:=by omega
  have hi : i<l.length:=by omega
  have hj' : j<L.length:=by omega
  rw [AaK.L1,if_pos (by omega),Aa9 hj,Anb,Aae,D.at hj]
  unfold AaK.J2
  simp only [AeT j (by omega),AeT i (by omega)]
  by_cases e : lvE lv L[j]=true
  ·rw [if_pos (by simp [e]),Aa9 hi,show ((i : Int)).toNat=i by omega]
   exact AhO k L lv h9 m (j+1) (i+1) n _ (by omega) (by omega) (D.keep hj' e)
  ·rw [if_neg (by simpa using e)]
   exact AhO k L lv h9 m (j+1) i n _ (by omega) (by omega) (D.pass hj' (by simpa using e))
theorem Aom (k : Nat) (L : List AaA) (lv : Int) (hk : L.length<k) (h9 : L.length≤1000000) : AaK k L lv=some (L.filter (lvE lv)):=by
 unfold AaK AaV
 obtain ⟨r,e,c⟩:=AjT k L lv h9 L.length 0 k (by omega) hk (by simp)
 rw [show (0 : Int)=((0 : Nat) : Int) from rfl,e,Aae]
 rcases c with ⟨rfl,c⟩ | ⟨j,hj,rfl,c1,c2⟩
 ·rw [if_pos rfl,List.filter_eq_self.2 c]
 ·rw [if_neg (by omega),AeT j (by omega)]
  exact AhO k L lv h9 (L.length-(j+1)) (j+1) j k L (by omega) (by omega) (Del.first hj c2 c1)
theorem Alz (k : Nat) (N : Int) (E : List AaA) (g : List Int) (lv : Int) (hk : E.length<k) (h9 : E.length≤1000000) (hg9 : g.length≤1000000) : Ac9 k N E g lv=some (N,E.filter (lvE lv),g):=by
 unfold Ac9 AdM Abb Abl
 rw [Aam (by omega),Aae,Aam (by omega),Aae,Adv,Aom k E lv hk h9,Aae]
theorem Aff (k : Nat) (E : List AaA) (lv N : Int) (g : List Int) (h9 : E.length≤1000000) : ∀ (m i n : Nat) (acc : List AaA),i+m=E.length→m<n→acc=(E.take i).filter (lvE lv)→AbB.L1 k E lv N g n (i : Int) acc=some (N,E.filter (lvE lv),g)
 | 0,i,n+1,acc,h,_,ha=>by
  rw [AbB.L1,if_neg (by omega),ha,List.take_of_length_le (by omega)]
 | m+1,i,n+1,acc,h,hn,ha=>by
  have hi : i<E.length:=by omega
  have hl : acc.length≤i:=by rw [ha]; exact Nat.le_trans (List.length_filter_le _ _) (by rw [List.length_take]; omega)
  have ht : (E.take (i+1)).filter (lvE lv)=acc++[E[i]].filter (lvE lv):=by rw [List.take_succ_eq_append_getElem hi,List.filter_append,ha]
  rw [AbB.L1,if_pos (by omega),Aa9 hi]
  unfold AbB.J2
  simp only [AeT i (by omega)]
  by_cases e : lv≤E[i].Level
  ·rw [if_pos e,Aam (by simp; omega)]
   exact Aff k E lv N g h9 m (i+1) n _ (by omega) (by omega) (by rw [ht]; simp [lvE,e])
  ·rw [if_neg e]
   exact Aff k E lv N g h9 m (i+1) n _ (by omega) (by omega) (by rw [ht]; simp [lvE,e])
theorem Ai3 (k : Nat) (N : Int) (E : List AaA) (g : List Int) (lv : Int) (hk : E.length<k) (h9 : E.length≤1000000) (hg9 : g.length≤1000000) : AbB k N E g lv=some (N,E.filter (lvE lv),g):=by
 unfold AbB AcG
 rw [Aam (by omega),Aam (by omega),Adv]
 exact Aff k E lv N g h9 E.length 0 k [] (by omega) hk (by simp)
end Go.TF
set_option linter.unusedVariables false
set_option linter.unusedSimpArgs false
namespace Go.TF
open Go Go.Abs
def AnK (a b : List Int) : Prop:=a.length=b.length∧∀ y,y ∈ a↔y ∈ b
theorem AnK.trans {a b c : List Int} (h : AnK a b) (h2 : AnK b c) : AnK a c:=⟨h.1.trans h2.1,fun y=>(h.2 y).trans (h2.2 y)⟩
theorem AoZ (k : Nat) (a b : Int) : AdS k a b=some (decide (a<b)):=by
 unfold AdS AdB; simp
theorem Arz : ∀ m : Fin 13,(Acc 0 (IntKind.wrap .u64 ((m.val : Nat) : Int))).isSome=true:=by decide
def outs (E : List AaA) (x : Int) : List Int:=(E.filter fun e=>e.From==x).map (·.To)
theorem Ac7 {E : List AaA} {x y : Int} : y ∈ outs E x↔∃ e ∈ E,e.From=x∧e.To=y:=by
 unfold outs
 simp only [List.mem_map,List.mem_filter,beq_iff_eq]
 constructor
 ·rintro ⟨e,⟨h1,h2⟩,h3⟩; exact ⟨e,h1,h2,h3⟩
 ·rintro ⟨e,h1,h2,h3⟩; exact ⟨e,⟨h1,h2⟩,h3⟩
def whF (p : Int→Bool) (i : Nat) : List Int:=((List.range i).filter fun (v : Nat)=>p (v : Int)).map fun (v : Nat)=>(v : Int)
def Atj (f0 : Int→Int) (F : List Int) (r : Int) (i : Nat) (v : Int) : Int:=if v ∈ F.take i then r else f0 v
structure Nxt (E : List AaA) (F : List Int) (i : Nat) (acc : List Int) : Prop where
 mem : ∀ y,y ∈ acc↔∃ x ∈ F.take i,y ∈ outs E x
 len : acc.length≤(E.filter fun e=>decide (e.From ∈ F.take i)).length
def frF (E : List AaA) (S : Int→Bool) (r : Nat) (v : Int) : Int:=if dE E S r v=(r : Int) then -1 else dE E S r v
end Go.TF
set_option linter.unusedVariables false
set_option linter.unusedSimpArgs false
namespace Go.TF
open Go Go.Abs
def ofC (t : List Int) (d : Int) : Int:=if d<0 then 0 else if d<t.length then t.getD d.toNat 0 else 1
structure GV (N : Nat) (E : List AaA) (g : List Int) : Prop where
 pos : 1≤N
 le : N≤12
 ok : okG N E g=true
theorem GV.inE {N : Nat} {E : List AaA} {g : List Int} (h : GV N E g) : inE N E:=by
 intro e he
 have:=(AiV _ _ _).1 (((Ac4 _ _ _).1 h.ok).2.2.1 e he)
 exact ⟨this.1,this.2.1,this.2.2.1,this.2.2.2.1⟩
theorem GV.len {N : Nat} {E : List AaA} {g : List Int} (h : GV N E g) : E.length≤500:=((Ac4 _ _ _).1 h.ok).1.2.2
theorem GV.glen {N : Nat} {E : List AaA} {g : List Int} (h : GV N E g) : g.length≤12:=by
 have h1:=((Ac4 _ _ _).1 h.ok).2.1
 have:=Afo g 0 N h1.1 h1.2 (by omega)
 have:=h.le; omega
theorem Agn : ∀ (E : List AaA) (x : Int),E.Pairwise (fun a b=>bef a b=true)→(outs E x).Pairwise (· < ·)
 | [],_,_=>by simp [outs]
 | e::E,x,h=>by
  rw [List.pairwise_cons] at h
  have ih:=Agn E x h.2
  by_cases q : e.From=x
  ·have : outs (e::E) x=e.To::outs E x:=by unfold outs; simp [q]
   rw [this,List.pairwise_cons]
   refine ⟨fun y hy=>?_,ih⟩
   obtain ⟨e',h1,h2,h3⟩:=Ac7.1 hy
   have:=h.1 e' h1
   unfold bef at this; rw [decide_eq_true_eq] at this; omega
  ·have : outs (e::E) x=outs E x:=by unfold outs; simp [q]
   rw [this]; exact ih
theorem GV.outs {N : Nat} {E : List AaA} {g : List Int} (h : GV N E g) (x : Int) : (outs E x).length≤12:=by
 have h1:=Agn E x ((Ac4 _ _ _).1 h.ok).2.2.2
 have:=Afo (Go.TF.outs E x) 0 N (fun y hy=>by
  obtain ⟨e,q1,_,q3⟩:=Ac7.1 hy
  have:=h.inE e q1
  omega) h1 (by omega)
 have:=h.le; omega
theorem Ajy (E : List AaA) (p : AaA→Bool) (x : Int) : (outs (E.filter p) x).length≤(outs E x).length:=by
 unfold outs
 rw [List.length_map,List.length_map]
 exact (List.filter_sublist.filter _).length_le
def Atl (N : Nat) (E : List AaA) (g s t : List Int) (lv : Int) : List Int:=tab N fun v=>ofC t (dE (E.filter (lvE lv)) (sS s g) N v)
def mx0 (a : Int) : Int:=if 0<a then a else 0
def AtF (Ev : List AaA) (s ks : List Int) (c : Int→Int) (x : Int) : Int :=
 if x ∈ ks then (if x ∈ s then c x else 0) else if (outs Ev x).any (fun y=>decide (y ∈ ks)) then mx0 (c x-1) else 0
def AsV (f : Int→Int) : Nat→Int
 | 0=>0
 | n+1=>AsV f n+f (n : Int)
def cF (N : Nat) (E : List AaA) (g s t : List Int) (lv : Int) (v : Int) : Int:=ofC t (dE (E.filter (lvE lv)) (sS s g) N v)
def Atm (N : Nat) (E : List AaA) (g s t : List Int) (lv : Int) (ks : List Int) : Int:=AsV (AtF (E.filter (lvE lv)) s ks (cF N E g s t lv)) N
end Go.TF
set_option linter.unusedVariables false
set_option linter.unusedSimpArgs false
namespace Go.TF
open Go Go.Abs
def tbF : Option Int→List Int→Bool
 | _,[]=>true
 | p,x::l=>decide (1≤x)&&decide (x≤0x3e8)&&(p.all fun y=>decide (x≤y))&&tbF (some x) l
def AtY (N : Int) (s t : List Int) (lv : Int) : Bool:=decide (s.length≠0∧1≤t.length∧t.length≤8∧1≤lv∧lv≤3)&&(setF N none s&&tbF none t)
theorem Aht (k : Nat) (E : List AaA) (f t : Int) (h9 : E.length≤1000000) : ∀ (m i n : Nat),i+m=E.length→m<n→(∀ e ∈ E.take i,bef e ⟨f,t,0⟩=true) →
 ∃ j : Nat,∃ b : Bool,AbG.L2 k E f t n (i : Int)=some ((j : Int),b)∧j≤E.length∧(∀ e ∈ E.take j,bef e ⟨f,t,0⟩=true)∧(∀ h : j<E.length,bef E[j] ⟨f,t,0⟩=false∧(b=false→¬ (E[j].From=f∧E[j].To=t)))
 | 0,i,n+1,h,_,ha=>by
  rw [AbG.L2,if_neg (by omega)]
  unfold AbG.J1
  rw [if_neg (by omega)]
  exact ⟨i,false,rfl,by omega,ha,fun h=>by omega⟩
 | m+1,i,n+1,h,hn,ha=>by
  have hi : i<E.length:=by omega
  rw [AbG.L2,if_pos (by omega),Aa9 hi,Aje,Aae]
  by_cases e : E[i].From<f∨(E[i].From=f∧E[i].To<t)
  ·rw [if_pos (by simpa using e),AeT i (by omega)]
   refine Aht k E f t h9 m (i+1) n (by omega) (by omega) fun x hx=>?_
   rw [List.take_succ_eq_append_getElem hi,List.mem_append,List.mem_singleton] at hx
   rcases hx with hx | rfl
   ·exact ha x hx
   ·unfold bef; rw [decide_eq_true_eq]; exact e
  ·rw [if_neg (by rw [decide_eq_true_eq]; exact e)]
   have hb : bef E[i] ⟨f,t,0⟩=false:=by unfold bef; rw [decide_eq_false_iff_not]; exact e
   unfold AbG.J1
   rw [if_pos (by omega),Aa9 hi]
   by_cases q : E[i].From=f
   ·rw [if_pos q]
    refine ⟨i,_,rfl,by omega,ha,fun _=>⟨hb,fun z=>?_⟩⟩
    intro z2
    simp [z2.2] at z
   ·rw [if_neg q]
    exact ⟨i,_,rfl,by omega,ha,fun _=>⟨hb,fun _ z=>q z.1⟩⟩
theorem Ans (k : Nat) (N : Int) (E : List AaA) (g : List Int) (f t lv : Int) (hk : 500<k) (ok : okG N E g=true) : ∃ N' E' g' e,AdO k N E g f t lv=some (N',E',g',e) ∧
 (e=0→N'=N∧g'=g∧okG N E' g=true∧(∀ x,x ∈ E'↔x ∈ E∨x=⟨f,t,lv⟩)):=by
 obtain ⟨⟨o1,o2,o3⟩,⟨o4,o5⟩,o6,o7⟩:=(Ac4 N E g).1 ok
 have hgl : (g.length : Int)≤N:=by have:=Afo g 0 N o4 o5 o1; omega
 unfold AdO
 rw [Alb k N E g hk (by omega) (by omega),Aae,if_pos ok,if_neg (by simp)]
 unfold AbG
 obtain ⟨j,b,e1,j1,j2,j3⟩:=Aht k E f t (by omega) E.length 0 k (by omega) (by omega) (by simp)
 rw [show AbG.L2 k E f t k 0=some ((j : Int),b) from e1,Ab2]
 have bad : ∀ c : Int,c≠0→∃ N' E' g' e,some ((0 : Int),([] : List AaA),([] : List Int),c)=some (N',E',g',e)∧(e=0→N'=N∧g'=g∧okG N E' g=true∧(∀ x,x ∈ E'↔x ∈ E∨x=⟨f,t,lv⟩)) :=
  fun c hc=>⟨_,_,_,_,rfl,fun h=>absurd h hc⟩
 by_cases a1 : f<0
 ·rw [if_pos a1]; exact bad 4 (by omega)
 rw [if_neg a1]
 by_cases a2 : N≤f
 ·rw [if_pos a2]; exact bad 4 (by omega)
 rw [if_neg a2]
 by_cases a3 : t<0
 ·rw [if_pos a3]; exact bad 4 (by omega)
 rw [if_neg a3]
 by_cases a4 : N≤t
 ·rw [if_pos a4]; exact bad 4 (by omega)
 rw [if_neg a4]
 by_cases a5 : f=t
 ·rw [if_pos a5]; exact bad 4 (by omega)
 rw [if_neg a5,Adr k g _ (by omega) (by omega),Aae]
 by_cases a6 : f ∈ g
 ·rw [if_pos (by simpa using a6)]; exact bad 4 (by omega)
 rw [if_neg (by simpa using a6),Adr k g _ (by omega) (by omega),Aae]
 by_cases a7 : t ∈ g
 ·rw [if_pos (by simpa using a7)]; exact bad 4 (by omega)
 rw [if_neg (by simpa using a7)]
 by_cases a8 : lv<1
 ·rw [if_pos a8]; exact bad 2 (by omega)
 rw [if_neg a8]
 by_cases a9 : 3<lv
 ·rw [if_pos a9]; exact bad 2 (by omega)
 rw [if_neg a9]
 by_cases b0 : b=true
 ·rw [if_pos b0]; exact bad 19 (by omega)
 rw [if_neg b0]
 by_cases b1 : (E.length : Int)=500
 ·rw [if_pos b1]; exact bad 3 (by omega)
 rw [if_neg b1]
 unfold AcG
 have hlt : (E.take j).length≤500:=by rw [List.length_take]; omega
 have hld : (E.drop j).length≤500:=by rw [List.length_drop]; omega
 rw [Aam (by omega),Aam (by omega),Adv,show ((j : Int)).toNat=j by omega,Aam (by omega),Aam (by omega),Aam (by simp only [List.length_cons,List.length_nil]; omega),Aam (by omega),Aam (by simp only [List.length_append,List.length_cons,List.length_nil]; omega)]
 refine ⟨_,_,_,_,rfl,fun _=>⟨rfl,rfl,?_,fun x=>?_⟩⟩
 ·rw [Ac4]
  simp only [Bool.not_eq_true] at b0
  refine ⟨⟨o1,o2,by simp only [List.length_append,List.length_cons,List.length_nil,List.length_take,List.length_drop]; omega⟩,⟨o4,o5⟩,fun x hx=>?_,?_⟩
  ·rw [List.mem_append,List.mem_append,List.mem_singleton] at hx
   rcases hx with (hx | rfl) | hx
   ·exact o6 x (List.mem_of_mem_take hx)
   ·rw [AiV]
    show 0≤f∧f<N∧0≤t∧t<N∧f≠t∧1≤lv∧lv≤3∧f ∉ g∧t ∉ g
    exact ⟨by omega,by omega,by omega,by omega,a5,by omega,by omega,a6,a7⟩
   ·exact o6 x (List.mem_of_mem_drop hx)
  ·have split : E.take j++E.drop j=E:=List.take_append_drop j E
   rw [← split,List.pairwise_append] at o7
   obtain ⟨q1,q2,q3⟩:=o7
   have hafter : ∀ x ∈ E.drop j,bef ⟨f,t,lv⟩ x=true:=by
    intro x hx
    have hj : j<E.length:=by
     by_cases z : j<E.length
     ·exact z
     ·rw [List.drop_eq_nil_of_le (by omega)] at hx; simp at hx
    obtain ⟨z1,z2⟩:=j3 hj
    have z2:=z2 b0
    have first : bef ⟨f,t,lv⟩ E[j]=true:=by
     unfold bef at z1 ⊢; rw [decide_eq_false_iff_not] at z1; rw [decide_eq_true_eq]
     simp only at z1 ⊢
     omega
    rw [List.drop_eq_getElem_cons hj] at hx q2
    rw [List.pairwise_cons] at q2
    rcases List.mem_cons.1 hx with rfl | hx
    ·exact first
    ·exact Ajf first (q2.1 x hx)
   rw [List.append_assoc,List.singleton_append,List.pairwise_append,List.pairwise_cons]
   refine ⟨q1,⟨hafter,q2⟩,fun a ha c hc=>?_⟩
   rcases List.mem_cons.1 hc with rfl | hc
   ·exact j2 a ha
   ·exact q3 a ha c hc
 ·have : x ∈ E↔x ∈ E.take j∨x ∈ E.drop j:=by rw [← List.mem_append,List.take_append_drop]
  rw [List.mem_append,List.mem_append,List.mem_singleton,this]
  constructor
  ·rintro ((h | h) | h)
   ·exact .inl (.inl h)
   ·exact .inr h
   ·exact .inl (.inr h)
  ·rintro ((h | h) | h)
   ·exact .inl (.inl h)
   ·exact .inr h
   ·exact .inl (.inr h)
theorem AgW (l : List Int) (hl : l.length≤1000000000) (N : Int) (hN : 2≤N∧N≤9) (g : List Int) : ∀ (m n : Nat) (p : Int) (E : List AaA),m<n→m≤1000000000→Pos p→okG N E g=true →
 ∃ E' q,AaX.L3 1000000000 l n (m : Int) p N E g=some (N,E',g,q)∧Pos q∧okG N E' g=true
 | 0,n+1,p,E,_,_,hp,ok=>by
  rw [AaX.L3,if_neg (by omega)]
  exact ⟨E,p,rfl,hp,ok⟩
 | m+1,n+1,p,E,hn,hm,hp,ok=>by
  rw [AaX.L3,if_pos (by omega)]
  obtain ⟨a,q,e,hq,ha⟩:=Ad9 1000000000 l p N hl hp
  obtain ⟨a2,q2,e2,hq2,ha2⟩:=Ad9 1000000000 l q N hl hq
  obtain ⟨a3,q3,e3,hq3,ha3⟩:=Ad9 1000000000 l q2 3 hl hq2
  rw [e,Ab2,e2,Ab2,e3,Ab2]
  obtain ⟨N',E',g',r,h1,h2⟩:=Ans 1000000000 N E g a a2 (IntKind.wrap .i64 (1+a3)) (by omega) ok
  rw [h1,Ajc]
  unfold AaX.J4
  rw [AoB m (by omega)]
  by_cases hr : r=0
  ·obtain ⟨rfl,rfl,k1,_⟩:=h2 hr
   rw [if_pos hr]
   exact AgW l hl N' hN g' m n q3 E' (by omega) (by omega) hq3 k1
  ·rw [if_neg hr]
   exact AgW l hl N hN g m n q3 E (by omega) (by omega) hq3 ok
theorem AnN (l : List Int) (p : Int) (hl : l.length≤1000000000) (hp : Pos p) : ∃ N E g q,AaX 1000000000 l p=some (((N : Nat) : Int),E,g,q)∧Pos q∧2≤N∧N≤9∧okG (N : Int) E g=true:=by
 unfold AaX
 obtain ⟨a,q,e,hq,ha⟩:=Ad9 1000000000 l p 8 hl hp
 have ha:=ha (by omega) (by omega)
 rw [e,Ab2]
 have key : ∀ N : Int,2≤N∧N≤9→∃ N' E g q',AaX.J1 1000000000 l q N=some (((N' : Nat) : Int),E,g,q')∧Pos q'∧2≤N'∧N'≤9∧okG (N' : Int) E g=true:=by
  intro N hN
  have fin : ∀ (p2 : Int) (g : List Int),Pos p2→okG N [] g=true→∃ N' E g' q',AaX.J2 1000000000 l N p2 g=some (((N' : Nat) : Int),E,g',q')∧Pos q'∧2≤N'∧N'≤9∧okG (N' : Int) E g'=true:=by
   intro p2 g hp2 ok
   unfold AaX.J2
   obtain ⟨b,q2,e2,hq2,hb⟩:=Ad9 1000000000 l p2 23 hl hp2
   have hb:=hb (by omega) (by omega)
   obtain ⟨m,rfl⟩:=Int.eq_ofNat_of_zero_le hb.1
   rw [e2,Ab2]
   obtain ⟨E',q3,h1,h2,h3⟩:=AgW l hl N hN g m 1000000000 q2 [] (by omega) (by omega) hq2 ok
   obtain ⟨n,rfl⟩:=Int.eq_ofNat_of_zero_le (show 0≤N by omega)
   exact ⟨n,E',g,q3,h1,h2,by omega,by omega,h3⟩
  unfold AaX.J1 Ade
  obtain ⟨b,q2,e2,hq2,hb⟩:=Ad9 1000000000 l q 8 hl hq
  rw [e2,Ab2,Ab2]
  have okn : okG N [] []=true:=by rw [Ac4]; simp; omega
  split
  ·obtain ⟨c,q3,e3,hq3,hc⟩:=Ad9 1000000000 l q2 N hl hq2
   have hc:=hc (by omega) (by omega)
   rw [e3,Ab2]
   exact fin q3 [c] hq3 (by rw [Ac4]; simp; omega)
  ·exact fin q2 [] hq2 okn
 split
 ·exact key 4 (by omega)
 ·rw [w64 (by omega) (by omega)]; exact key (2+a) (by omega)
end Go.TF
set_option linter.unusedVariables false
set_option linter.unusedSimpArgs false
namespace Go.TF
open Go Go.Abs
structure PV (N : Nat) (s t : List Int) (lv : Int) : Prop where
 s0 : s≠[]
 sl : s.length≤2
 sr : ∀ x ∈ s,0≤x∧x<N
 sa : s.Pairwise (· < ·)
 t0 : 1≤t.length
 t9 : t.length≤4
 tr : ∀ x ∈ t,1≤x∧x≤7
 td : t.Pairwise (fun a b=>b≤a)
 l1 : 1≤lv
 l3 : lv≤3
end Go.TF
set_option linter.unusedVariables false
set_option linter.unusedSimpArgs false
namespace Go.TF
open Go Go.Abs
def ArP (bad : List Int) (c : Int) : List Int→Int
 | []=>0
 | x::l=>(if x ∈ bad then c else 0)+ArP bad c l
end Go.TF
set_option linter.unusedVariables false
set_option linter.unusedSimpArgs false
namespace Go.TF
open Go Go.Abs
structure GW (N : Nat) (E : List AaA) (g : List Int) : Prop where
 pos : 1≤N
 le : N≤64
 ok : okG N E g=true
 o12 : ∀ x,(outs E x).length≤12
theorem GW.inE {N : Nat} {E : List AaA} {g : List Int} (h : GW N E g) : inE N E:=by
 intro e he
 have:=(AiV _ _ _).1 (((Ac4 _ _ _).1 h.ok).2.2.1 e he)
 exact ⟨this.1,this.2.1,this.2.2.1,this.2.2.2.1⟩
theorem GW.len {N : Nat} {E : List AaA} {g : List Int} (h : GW N E g) : E.length≤500:=((Ac4 _ _ _).1 h.ok).1.2.2
theorem GW.glen {N : Nat} {E : List AaA} {g : List Int} (h : GW N E g) : g.length≤64:=by
 have h1:=((Ac4 _ _ _).1 h.ok).2.1
 have:=Afo g 0 N h1.1 h1.2 (by omega)
 have:=h.le; omega
def arS (c : Int→Int) (x : Int) : AaI:=⟨0,2+2*x,c x⟩
def arI (c : Int→Int) (x : Int) : AaI:=⟨2+2*x,3+2*x,c x-1⟩
def arT (x : Int) : AaI:=⟨2+2*x,1,1⟩
def arE (e : AaA) : AaI:=⟨3+2*e.From,2+2*e.To,64⟩
def AoN (N : Nat) : List Int:=(List.range N).map fun (v : Nat)=>(v : Int)
def AsM (N : Nat) (P : Int→Bool) (c : Int→Int) (s ks : List Int) (Ev : List AaA) : List AaI :=
 (s.filter P).map (arS c)++((AoN N).filter P).map (arI c)++(ks.filter P).map arT++(Ev.filter fun e=>P e.From).map arE
theorem Amq {N : Nat} {x : Int} : x ∈ AoN N↔0≤x∧x<N:=by
 unfold AoN; simp only [List.mem_map,List.mem_range]
 constructor
 ·rintro ⟨a,h,rfl⟩; omega
 ·rintro ⟨h0,h1⟩; exact ⟨x.toNat,by omega,by omega⟩
section
variable (N : Nat) (P : Int→Bool) (c : Int→Int) (hN : N≤64)
include hN
end
def Asx (N : Nat) (E : List AaA) (g s : List Int) (lv : Int) (v : Int) : Bool:=decide (0≤dE (E.filter (lvE lv)) (sS s g) N v)
def Atg (N : Nat) (E : List AaA) (g s t : List Int) (lv : Int) (ks : List Int) : List AaI:=AsM N (Asx N E g s lv) (cF N E g s t lv) s ks (E.filter (lvE lv))
end Go.TF
set_option linter.unusedVariables false
set_option linter.unusedSimpArgs false
namespace Go.TF
open Go Go.Abs
def AtE : List AaI→Int
 | []=>0
 | a::l=>(if a.From=0 then 1 else 0)+AtE l
def AtD : List AaI→Int
 | []=>0
 | a::l=>(if a.From≠0∧a.To=1 then 1 else 0)+AtD l
def AtB (N : Nat) (s ks : List Int) (c : Int→Int) (a : AaI) : Prop :=
 (∃ x,a=arS c x∧0≤x∧x<N∧x ∈ s∧0<c x)∨(∃ x,a=arI c x∧0≤x∧x<N∧0<c x)∨(∃ x,a=arT x∧0≤x∧x<N∧x ∈ ks∧0<c x) ∨
 (∃ e,a=arE e∧0≤e.From∧e.From<N∧0≤e.To∧e.To<N∧0<c e.From∧0<c e.To)
end Go.TF
namespace Go.TF.Mf
structure Arc where
 fr : Int
 to : Int
 cap : Int
def sm (A : List Arc) (f : List Int) (w : Arc→Int) : Int:=((A.zip f).map fun p=>w p.1*p.2).sum
def b2 (p : Prop) [Decidable p] : Int:=if p then 1 else 0
def sur (A : List Arc) (f : List Int) (v : Int) : Int:=sm A f fun a=>b2 (a.fr=v)-b2 (a.to=v)
theorem Apc (f : List Int) (w : Arc→Int) : sm [] f w=0:=rfl
theorem An3 (A : List Arc) (w : Arc→Int) : sm A [] w=0:=by cases A <;> rfl
theorem AiN (a : Arc) (A : List Arc) (x : Int) (f : List Int) (w : Arc→Int) : sm (a::A) (x::f) w=w a*x+sm A f w:=by simp [sm]
theorem Aem (φ : Int→Int) (u : Int) : ∀ n : Nat,((List.range n).map fun (v : Nat)=>φ (v : Int)*b2 (u=(v : Int))).sum=if 0≤u∧u<n then φ u else 0:=by
 intro n; induction n with
 | zero=>simp; omega
 | succ n ih =>
  rw [List.range_succ,List.map_append,List.sum_append,ih]
  simp only [List.map_cons,List.map_nil,List.sum_cons,List.sum_nil,b2]
  by_cases h : u=(n : Int)
  ·subst h; rw [if_neg (by omega),if_pos rfl,if_pos (by omega)]; simp
  ·rw [if_neg h]
   by_cases h' : 0≤u∧u<n
   ·rw [if_pos h',if_pos (by omega)]; simp
   ·rw [if_neg h',if_neg (by omega)]; simp
theorem Ag2 {α : Type} (l : List α) (g h : α→Int) : (l.map fun x=>g x+h x).sum=(l.map g).sum+(l.map h).sum:=by
 induction l with
 | nil=>rfl
 | cons a l ih=>simp only [List.map_cons,List.sum_cons,ih]; omega
theorem Aen {α : Type} (l : List α) : (l.map fun _=>(0 : Int)).sum=0:=by
 induction l with
 | nil=>rfl
 | cons a l ih=>simp only [List.map_cons,List.sum_cons,ih]; rfl
theorem AiI {α : Type} (l : List α) (g h : α→Int) (e : ∀ x ∈ l,g x=h x) : (l.map g).sum=(l.map h).sum:=by rw [List.map_congr_left e]
theorem Anx (n : Nat) (φ : Int→Int) (A : List Arc) (hA : ∀ a ∈ A,0≤a.fr∧a.fr<n∧0≤a.to∧a.to<n) : ∀ f,((List.range n).map fun (v : Nat)=>φ (v : Int)*sur A f (v : Int)).sum=sm A f fun a=>φ a.fr-φ a.to:=by
 induction A with
 | nil=>intro f; simp [sur,Apc,Aen]
 | cons a A ih =>
  intro f; cases f with
  | nil=>simp [sur,An3,Aen]
  | cons x f =>
   have ha:=hA a (by simp)
   rw [AiN,← ih (fun b hb=>hA b (by simp [hb])) f]
   have e : (fun (v : Nat)=>φ (v : Int)*sur (a::A) (x::f) (v : Int))=fun (v : Nat)=>(x*(φ (v : Int)*b2 (a.fr=(v : Int)))+(-x)*(φ (v : Int)*b2 (a.to=(v : Int))))+φ (v : Int)*sur A f (v : Int):=by
    funext v
    simp only [sur,AiN,Int.mul_add,Int.sub_mul,Int.mul_sub,Int.neg_mul]
    rw [Int.mul_comm x (φ _*_),Int.mul_comm x (φ _*_),Int.mul_assoc,Int.mul_assoc]; omega
   rw [e,Ag2,Ag2]
   have hm : ∀ (c : Int) (g : Nat→Int) (l : List Nat),(l.map fun v=>c*g v).sum=c*(l.map g).sum:=by
    intro c g l; induction l with
    | nil=>simp
    | cons b l ih=>simp only [List.map_cons,List.sum_cons,ih,Int.mul_add]
   rw [hm,hm,Aem,Aem,if_pos ⟨ha.1,ha.2.1⟩,if_pos ⟨ha.2.2.1,ha.2.2.2⟩,Int.sub_mul,Int.neg_mul,Int.mul_comm x,Int.mul_comm x]; omega
structure Net (n : Nat) (A : List Arc) : Prop where
 two : 2≤n
 rng : ∀ a ∈ A,0≤a.fr∧a.fr<n∧0≤a.to∧a.to<n
 src : ∀ a ∈ A,a.to≠0
 snk : ∀ a ∈ A,a.fr≠1
 cap : ∀ a ∈ A,0≤a.cap
structure Flow (n : Nat) (A : List Arc) (f : List Int) : Prop where
 len : f.length=A.length
 lo : ∀ (i : Nat) (h : i<f.length),0≤f[i]
 hi : ∀ (i : Nat) (h : i<f.length) (h' : i<A.length),f[i]≤A[i].cap
 zero : ∀ v : Int,v≠0→v≠1→sur A f v=0
def val (A : List Arc) (f : List Int) : Int:=sur A f 0
def capS (A : List Arc) (S : Int→Bool) : Int:=(A.map fun a=>b2 (S a.fr=true∧S a.to=false)*a.cap).sum
variable {n : Nat} {A : List Arc}
theorem AkQ (hN : Net n A) {f : List Int} (hf : Flow n A f) (S : Int→Bool) (h0 : S 0=true) (h1 : S 1=false) : val A f=sm A f fun a=>b2 (S a.fr=true)-b2 (S a.to=true):=by
 have h:=Anx n (fun v=>b2 (S v=true)) A hN.rng f
 rw [← h]
 have h2:=hN.two
 obtain ⟨m,rfl⟩ : ∃ m,n=m+2:=⟨n-2,by omega⟩
 rw [List.range_succ_eq_map,List.range_succ_eq_map]
 simp only [List.map_cons,List.map_map,List.sum_cons]
 rw [AiI _ _ (fun _=>0),Aen]
 ·simp [b2,h0,h1,val]
 ·intro x _
  simp only [Function.comp]
  rw [hf.zero _ (by omega) (by omega)]; simp
theorem An4 (S : Int→Bool) : ∀ {A : List Arc} {f : List Int},f.length=A.length→(∀ (i : Nat) (h : i<f.length),0≤f[i])→(∀ (i : Nat) (h : i<f.length) (h' : i<A.length),f[i]≤A[i].cap)→(sm A f fun a=>b2 (S a.fr=true)-b2 (S a.to=true))≤capS A S:=by
 intro A; induction A with
 | nil=>intro f h _ _; simp [sm,capS]
 | cons a A ih =>
  intro f h hl hh; cases f with
  | nil=>cases h
  | cons x f =>
   have i1:=ih (f:=f) (by simpa using h) (fun i hi=>by have:=hl (i+1) (by simpa using hi); simpa using this) (fun i hi h'=>by have:=hh (i+1) (by simpa using hi) (by simpa using h'); simpa using this)
   have x0:=hl 0 (by simp); have xc:=hh 0 (by simp) (by simp)
   simp only [List.getElem_cons_zero] at x0 xc
   rw [AiN]; simp only [capS,List.map_cons,List.sum_cons] at i1 ⊢
   have : (b2 (S a.fr=true)-b2 (S a.to=true))*x≤b2 (S a.fr=true∧S a.to=false)*a.cap:=by
    cases hs : S a.fr <;> cases ht : S a.to <;> simp [b2] <;> omega
   omega
theorem val_le (hN : Net n A) {f : List Int} (hf : Flow n A f) (S : Int→Bool) (h0 : S 0=true) (h1 : S 1=false) : val A f≤capS A S:=by
 rw [AkQ hN hf S h0 h1]; exact An4 S hf.len hf.lo hf.hi
def Closed (A : List Arc) (f : List Int) (S : Int→Bool) : Prop:=∀ (i : Nat) (h : i<A.length) (h' : i<f.length),(S A[i].fr=true→S A[i].to=false→f[i]=A[i].cap)∧(S A[i].to=true→S A[i].fr=false→f[i]=0)
theorem An5 (S : Int→Bool) : ∀ {A : List Arc} {f : List Int},f.length=A.length→Closed A f S→(sm A f fun a=>b2 (S a.fr=true)-b2 (S a.to=true))=capS A S:=by
 intro A; induction A with
 | nil=>intro f h _; simp [sm,capS]
 | cons a A ih =>
  intro f h hc; cases f with
  | nil=>cases h
  | cons x f =>
   have i1:=ih (f:=f) (by simpa using h) (fun i hi h'=>by have:=hc (i+1) (by simpa using hi) (by simpa using h'); simpa using this)
   have x0:=hc 0 (by simp) (by simp)
   simp only [List.getElem_cons_zero] at x0
   rw [AiN]; simp only [capS,List.map_cons,List.sum_cons] at i1 ⊢
   have : (b2 (S a.fr=true)-b2 (S a.to=true))*x=b2 (S a.fr=true∧S a.to=false)*a.cap:=by
    cases hs : S a.fr <;> cases ht : S a.to <;> simp [b2]
    ·exact x0.2 ht hs
    ·exact x0.1 hs ht
   omega
theorem Akx (hN : Net n A) {f : List Int} (hf : Flow n A f) (S : Int→Bool) (h0 : S 0=true) (h1 : S 1=false) (hc : Closed A f S) : val A f=capS A S:=by
 rw [AkQ hN hf S h0 h1]; exact An5 S hf.len hc
end Go.TF.Mf
namespace Go.TF.Mf
abbrev Step:=Nat×Bool
def arc (A : List Arc) (i : Nat) : Arc:=A.getD i ⟨0,0,0⟩
def stTo (A : List Arc) (s : Step) : Int:=if s.2 then (arc A s.1).fr else (arc A s.1).to
def stFr (A : List Arc) (s : Step) : Int:=if s.2 then (arc A s.1).to else (arc A s.1).fr
def room (A : List Arc) (f : List Int) (s : Step) : Int:=if s.2 then f.getD s.1 0 else (arc A s.1).cap-f.getD s.1 0
def AsT (A : List Arc) : Int→List Step→Int→Prop
 | s,[],t=>s=t
 | s,st::l,t=>st.1<A.length∧stTo A st=t∧AsT A s l (stFr A st)
def ArR (f : List Int) (x : Int) (s : Step) : List Int:=f.set s.1 (f.getD s.1 0+if s.2 then -x else x)
def push (f : List Int) (x : Int) (l : List Step) : List Int:=l.foldl (fun g s=>ArR g x s) f
variable {A : List Arc}
theorem Age {α : Type} (l : List α) (d : α) (i : Nat) (h : i<l.length) : l[i]=l.getD i d:=by
 rw [List.getD_eq_getElem?_getD,List.getElem?_eq_getElem h]; rfl
def Disc (A : List Arc) (f : List Int) : List (Int×Step)→Prop
 | []=>True
 | (v,s)::V=>v≠0∧v ∉ V.map (·.1)∧s.1<A.length∧stTo A s=v∧(stFr A s=0∨stFr A s ∈ V.map (·.1))∧0<room A f s∧Disc A f V
def AnX (A : List Arc) : List (Int×Step)→Int→List Step
 | [],_=>[]
 | (v,s)::V,t=>if t=v then s::AnX A V (stFr A s) else AnX A V t
theorem disc_closed {n : Nat} {f : List Int} (hf : Flow n A f) {V : List (Int×Step)} (hc : ∀ s : Step,s.1<A.length→(stFr A s=0∨stFr A s ∈ V.map (·.1))→0<room A f s→stTo A s=0∨stTo A s ∈ V.map (·.1)) : Closed A f fun v=>decide (v=0∨v ∈ V.map (·.1)):=by
 intro i hi hi'
 have hl:=hf.lo i hi'; have hh:=hf.hi i hi' hi
 have e1 : arc A i=A[i]:=(Age A _ i hi).symm
 have e2:=Age f 0 i hi'
 constructor
 ·intro p q
  rw [decide_eq_true_iff] at p; rw [decide_eq_false_iff_not] at q
  have:=hc (i,false) hi (by simpa [stFr,e1] using p)
  simp only [room,stTo,e1,Bool.false_eq_true,if_false,← e2] at this
  by_cases h : f[i]=A[i].cap
  ·exact h
  ·exact absurd (this (by omega)) q
 ·intro p q
  rw [decide_eq_true_iff] at p; rw [decide_eq_false_iff_not] at q
  have:=hc (i,true) hi (by simpa [stFr,e1] using p)
  simp only [room,stTo,e1,if_true,← e2] at this
  by_cases h : f[i]=0
  ·exact h
  ·exact absurd (this (by omega)) q
end Go.TF.Mf
namespace Go.TF.Mf
variable {A : List Arc}
theorem capS_nonneg (hc : ∀ a ∈ A,0≤a.cap) (S : Int→Bool) : 0≤capS A S:=by
 unfold capS; induction A with
 | nil=>simp
 | cons a A ih =>
  have:=ih (fun b hb=>hc b (by simp [hb])); have ha:=hc a (by simp)
  simp only [List.map_cons,List.sum_cons]
  have : 0≤b2 (S a.fr=true∧S a.to=false)*a.cap:=Int.mul_nonneg (by unfold b2; split <;> simp) ha
  omega
structure Least (A : List Arc) (v : Int) : Prop where
 is : ∃ S : Int→Bool,S 0=true∧S 1=false∧capS A S=v
 le : ∀ S : Int→Bool,S 0=true→S 1=false→v≤capS A S
theorem Least.uniq {v w : Int} (h : Least A v) (h' : Least A w) : v=w:=by
 obtain ⟨S,s0,s1,e⟩:=h.is; obtain ⟨T,t0,t1,e'⟩:=h'.is
 have a:=h.le T t0 t1; have b:=h'.le S s0 s1; omega
theorem least_of {n : Nat} (hN : Net n A) {f : List Int} (hf : Flow n A f) (S : Int→Bool) (h0 : S 0=true) (h1 : S 1=false) (hc : Closed A f S) : Least A (val A f) :=
 ⟨⟨S,h0,h1,(Akx hN hf S h0 h1 hc).symm⟩,fun T t0 t1=>val_le hN hf T t0 t1⟩
theorem Least.mono {B : List Arc} {v w : Int} (hA : Least A v) (hB : Least B w) (h : ∀ S : Int→Bool,S 0=true→S 1=false→capS A S≤capS B S) : v≤w:=by
 obtain ⟨T,t0,t1,e⟩:=hB.is
 have:=hA.le T t0 t1; have:=h T t0 t1; omega
end Go.TF.Mf
set_option linter.unusedVariables false
set_option linter.unusedSimpArgs false
namespace Go.TF
open Go Go.Abs
def ar (A : List AaI) : List Mf.Arc:=A.map fun a=>⟨a.From,a.To,a.Cap⟩
theorem Anm (A : List AaI) : (ar A).length=A.length:=by simp [ar]
def okA (N : Int) (a : AaI) : Bool:=decide (0≤a.From∧a.From<N∧0≤a.To∧a.To<N∧a.From≠a.To∧a.To≠0∧a.From≠1∧0≤a.Cap∧a.Cap≤1048576)
def Asq (N : Int) (A : List AaI) : Bool:=decide (2≤N∧N≤130∧A.length≤1200)&&A.all (okA N)
structure NV (N : Nat) (A : List AaI) : Prop where
 two : 2≤N
 n130 : N≤130
 len : A.length≤1200
 ok : ∀ a ∈ A,0≤a.From∧a.From<N∧0≤a.To∧a.To<N∧a.From≠a.To∧a.To≠0∧a.From≠1∧0≤a.Cap∧a.Cap≤1048576
theorem NV.net {N : Nat} {A : List AaI} (h : NV N A) : Mf.Net N (ar A):=by
 have key : ∀ a ∈ ar A,∃ b ∈ A,a=⟨b.From,b.To,b.Cap⟩:=by
  intro a ha; obtain ⟨b,hb,rfl⟩:=List.mem_map.1 ha; exact ⟨b,hb,rfl⟩
 refine ⟨h.two,fun a ha=>?_,fun a ha=>?_,fun a ha=>?_,fun a ha=>?_⟩ <;> obtain ⟨b,hb,rfl⟩:=key a ha <;> have:=h.ok b hb
 ·exact ⟨this.1,this.2.1,this.2.2.1,this.2.2.2.1⟩
 ·exact this.2.2.2.2.2.1
 ·exact this.2.2.2.2.2.2.1
 ·exact this.2.2.2.2.2.2.2.1
def Asw {β : Type} (N : Nat) (f : Int→β) : List β:=(List.range N).map fun (v : Nat)=>f (v : Int)
def whB (p : Int→Bool) (i : Nat) : List Int:=((List.range i).filter fun (v : Nat)=>p (v : Int)).map fun (v : Nat)=>(v : Int)
def cvS (s : Mf.Step) : AaD:=⟨(s.1 : Int),s.2⟩
def AsW (A : List AaI) : Nat→Int→List AaD
 | 0,_=>[]
 | i+1,v=>(AsW A i v++if (Mf.arc (ar A) i).fr=v then [⟨(i : Int),false⟩] else [])++if (Mf.arc (ar A) i).to=v then [⟨(i : Int),true⟩] else []
def AtW (N : Nat) (A : List AaI) : List (List AaD):=Asw N (AsW A A.length)
theorem nodup_range : ∀ (N : Nat) (l : List Int),l.Nodup→(∀ x ∈ l,0≤x∧x<N)→l.length≤N
 | 0,l,_,h=>by
  cases l with
  | nil=>simp
  | cons a l=>have:=h a (by simp); omega
 | N+1,l,hn,h=>by
  by_cases e : (N : Int) ∈ l
  ·have:=nodup_range N (l.erase (N : Int)) (hn.erase _) fun x hx=>by
    have hx':=(hn.mem_erase_iff).1 hx
    have:=h x hx'.2
    have : x≠(N : Int):=hx'.1
    omega
   rw [List.length_erase_of_mem e] at this; omega
  ·have:=nodup_range N l hn fun x hx=>by
    have:=h x hx
    have : x≠(N : Int):=fun q=>e (q ▸ hx)
    omega
   omega
theorem Ab4 {β : Type} (m : List (Int×β)) (a b : Int) (v : β) : Ab5 (AbE m a v) b=if b=a then some v else Ab5 m b:=by
 have fi : ∀ m : List (Int×β),∀ b : Int,mgI m b=m.findIdx? fun p=>b==p.1:=fun _ _=>rfl
 unfold AbE
 cases h : mgI m a with
 | none =>
  simp only
  have hn : ∀ p ∈ m,¬ a=p.1:=by
   rw [fi,List.findIdx?_eq_none_iff] at h
   intro p hp; simpa using h p hp
  unfold Ab5
  rw [fi,fi,List.findIdx?_append]
  by_cases e : b=a
  ·subst e
   rw [if_pos rfl]
   have : m.findIdx? (fun p=>b==p.1)=none:=by rw [← fi]; exact h
   rw [this]; simp [List.findIdx?_cons]
  ·rw [if_neg e]
   cases hb : m.findIdx? (fun p=>b==p.1) with
   | none=>simp [List.findIdx?_cons,e]
   | some j =>
    have hj : j<m.length:=(List.findIdx?_eq_some_iff_findIdx_eq.1 hb).1
    simp [List.getElem?_append_left hj]
 | some j =>
  simp only
  rw [fi,List.findIdx?_eq_some_iff_findIdx_eq] at h
  have hj:=h.1
  have haj : a=m[j].1:=by
   have:=List.findIdx_getElem (xs:=m) (p:=fun p=>a==p.1) (w:=by rw [h.2]; exact hj)
   simp only [h.2,beq_iff_eq] at this; exact this
  have e1 : (m.set j (a,v)).findIdx? (fun p=>b==p.1)=m.findIdx? (fun p=>b==p.1):=by
   have : (m.set j (a,v)).map (fun p=>p.1)=m.map (fun p=>p.1):=by
    rw [List.map_set]
    refine List.ext_getElem (by simp) fun i h1 h2=>?_
    rw [List.getElem_set]
    split
    ·rename_i e; subst e; simp [haj]
    ·rfl
   have g : ∀ l : List (Int×β),l.findIdx? (fun p=>b==p.1)=(l.map (fun p=>p.1)).findIdx? (fun x=>b==x):=fun l=>by rw [List.findIdx?_map]; rfl
   rw [g,g,this]
  unfold Ab5
  rw [fi,fi,e1]
  by_cases e : b=a
  ·subst e
   rw [if_pos rfl]
   have : m.findIdx? (fun p=>b==p.1)=some j:=List.findIdx?_eq_some_iff_findIdx_eq.2 h
   rw [this]; simp [hj]
  ·rw [if_neg e]
   cases hb : m.findIdx? (fun p=>b==p.1) with
   | none=>rfl
   | some i =>
    have hi:=List.findIdx?_eq_some_iff_findIdx_eq.1 hb
    have hbi : b=m[i].1:=by
     have:=List.findIdx_getElem (xs:=m) (p:=fun p=>b==p.1) (w:=by rw [hi.2]; exact hi.1)
     simp only [hi.2,beq_iff_eq] at this; exact this
    have : ¬ j=i:=by rintro rfl; exact e (hbi.trans haj.symm)
    simp [List.getElem?_set,this]
abbrev Vs:=List (Int×Mf.Step)
def lk : Vs→Int→Option Mf.Step
 | [],_=>none
 | (w,s)::V,v=>if v=w then some s else lk V v
def Cm (m : List (Int×AaD)) (V : Vs) : Prop:=∀ v,Ab5 m v=if v=0 then some ⟨-1,false⟩ else (lk V v).map cvS
def Cpl (A : List Mf.Arc) (f : List Int) (V : Vs) : Prop:=∀ s : Mf.Step,s.1<A.length→(Mf.stFr A s=0∨Mf.stFr A s ∈ V.map (·.1))→0<Mf.room A f s→Mf.stTo A s=0∨Mf.stTo A s ∈ V.map (·.1)
structure FB (A : List AaI) (f : List Int) : Prop where
 len : f.length=A.length
 lo : ∀ (i : Nat) (h : i<f.length),0≤f[i]
 hi : ∀ (i : Nat) (h : i<f.length) (h' : i<A.length),f[i]≤A[i].Cap
theorem FB.of {N : Nat} {A : List AaI} {f : List Int} (h : Mf.Flow N (ar A) f) : FB A f :=
 ⟨by rw [h.len,Anm],h.lo,fun i a b=>by have:=h.hi i a (by rw [Anm]; exact b); simpa [ar] using this⟩
end Go.TF
set_option linter.unusedVariables false
set_option linter.unusedSimpArgs false
namespace Go.TF
open Go Go.Abs
structure ApV (N : Nat) (A : List AaI) (f : List Int) : Prop where
 fl : Mf.Flow N (ar A) f
 ex : ∃ V : Vs,Mf.Disc (ar A) f V∧Cpl (ar A) f V∧(1 : Int) ∉ V.map (·.1)
theorem Alw (k : Nat) (x a b : Int) : Acm k x a b=some (decide (a≤x∧x≤b)):=by
 unfold Acm
 by_cases h : a≤x
 ·rw [if_pos h]; simp [h]
 ·rw [if_neg h]; simp [h]
theorem AlR {N : Nat} {A : List AaI} (h : NV N A) : ∀ g,Mf.Flow N (ar A) g→Mf.val (ar A) g≤((A.length*1048576 : Nat) : Int):=by
 intro g hg
 have h1:=Mf.val_le h.net hg (fun v=>decide (v=0)) (by simp) (by simp)
 have h2 : ∀ B : List AaI,(∀ a ∈ B,0≤a.Cap∧a.Cap≤1048576)→Mf.capS (ar B) (fun v=>decide (v=0))≤((B.length*1048576 : Nat) : Int):=by
  intro B hB
  induction B with
  | nil=>simp [ar,Mf.capS]
  | cons b B ih =>
   have:=ih fun a ha=>hB a (by simp [ha])
   have hb:=hB b (by simp)
   unfold ar Mf.capS at this ⊢
   simp only [List.map_cons,List.sum_cons,List.length_cons] at this ⊢
   have : Mf.b2 (decide (b.From=0)=true∧decide (b.To=0)=false)*b.Cap≤1048576:=by
    unfold Mf.b2; split <;> omega
   omega
 have:=h2 A fun a ha=>by have:=h.ok a ha; omega
 omega
theorem ApV.side {N : Nat} {A : List AaI} {f : List Int} (h : NV N A) (hd : ApV N A f) : ∃ S : Int→Bool,S 0=true∧S 1=false∧Mf.Closed (ar A) f S:=by
 obtain ⟨V,d1,d2,d3⟩:=hd.ex
 exact ⟨fun v=>decide (v=0∨v ∈ V.map (·.1)),by simp,by simpa using d3,Mf.disc_closed hd.fl d2⟩
def AtX (N : Nat) (V : Vs) : List Int:=whB (fun v=>decide (v=0∨v ∈ V.map (·.1))) N
end Go.TF
set_option linter.unusedVariables false
set_option linter.unusedSimpArgs false
namespace Go.TF
open Go Go.Abs
def rb (V : Vs) (v : Int) : Int:=match lk V v with
 | none=>0
 | some s=>if s.2 then -((s.1 : Int)+1) else (s.1 : Int)+1
def sn (V : Vs) (v : Int) : Bool:=decide (v=0∨v ∈ V.map (·.1))
end Go.TF
set_option linter.unusedVariables false
set_option linter.unusedSimpArgs false
namespace Go.TF
open Go Go.Abs
end Go.TF
set_option linter.unusedVariables false
set_option linter.unusedSimpArgs false
set_option maxRecDepth 100000
namespace Go.TF
open Go Go.Abs
def vS (N : Int) (A : List AaI) (side : List Int) : Bool:=Asq N A&&(setF N none side&&(decide ((0 : Int) ∈ side) && !decide ((1 : Int) ∈ side)))
def inS (side : List Int) (v : Int) : Bool:=decide (v ∈ side)
def cpS (A : List AaI) (side : List Int) : Int:=Mf.capS (ar A) (inS side)
structure NM (N : Nat) (A : List AaI) : Prop where
 nv : NV N A
 n8 : N≤8
 l15 : A.length≤15
 c5 : ∀ a ∈ A,a.Cap≤5
end Go.TF
set_option linter.unusedVariables false
set_option linter.unusedSimpArgs false
set_option maxRecDepth 100000
namespace Go.TF
open Go Go.Abs
def inB (A : List AaI) (f : List Int) : Bool:=(A.zip f).all fun p=>decide (0≤p.2∧p.2≤p.1.Cap)
def ArM (N : Nat) (A : List AaI) (f : List Int) : Bool:=(List.range N).all fun (v : Nat)=>decide (v<2∨Mf.sur (ar A) f (v : Int)=0)
def flB (N : Int) (A : List AaI) (f : List Int) : Bool:=Asq N A&&(decide (f.length=A.length)&&(inB A f&&ArM N.toNat A f))
end Go.TF
set_option linter.unusedVariables false
set_option linter.unusedSimpArgs false
set_option maxRecDepth 100000
namespace Go.TF
open Go Go.Abs
end Go.TF
set_option linter.unusedVariables false
set_option linter.unusedSimpArgs false
set_option maxRecDepth 100000
namespace Go.TF
open Go Go.Abs
theorem ApV.least {N : Nat} {A : List AaI} {f : List Int} (h : NV N A) (d : ApV N A f) : Mf.Least (ar A) (Mf.val (ar A) f):=by
 obtain ⟨S,s0,s1,sc⟩:=d.side h
 exact Mf.least_of h.net d.fl S s0 s1 sc
theorem ApV.rng {N : Nat} {A : List AaI} {f : List Int} (h : NV N A) (d : ApV N A f) : 0≤Mf.val (ar A) f∧Mf.val (ar A) f≤((A.length*1048576 : Nat) : Int):=by
 refine ⟨?_,AlR h f d.fl⟩
 obtain ⟨S,s0,s1,e⟩:=(d.least h).is
 rw [← e]
 exact Mf.capS_nonneg h.net.cap S
def Asv : List AaI→List AaI
 | []=>[]
 | a::l=>Asv l++[a,⟨0,1,0⟩]
def twF (A : List AaI) : List AaI:=A.map fun a=>⟨a.From,a.To,2*a.Cap⟩
def btF (s : Int) (i : Nat) : Bool:=decide (Aim .and .i64 (Int.fdiv s (2 ^ (min ((IntKind.wrap .u64 (i : Int)).toNat) 64))) 1=1)
def ofB (S : Nat→Bool) : Nat→Nat
 | 0=>0
 | n+1=>ofB S n+if S n then 2 ^ n else 0
structure Sx (s : Int) (i : Nat) (a : List Int) : Prop where
 rng : ∀ x ∈ a,0≤x∧x<i
 mem : ∀ j : Nat,j<i→((j : Int) ∈ a↔btF s j=true)
 len : a.length≤i
def ldB (s : Int) (v : Int) : Bool:=btF s v.toNat
end Go.TF
set_option linter.unusedVariables false
set_option linter.unusedSimpArgs false
set_option maxRecDepth 100000
namespace Go.TF
open Go Go.Abs
theorem Aia {β : Type} (a b : Int) (v : β) (m : List (Int×β)) : mgI ((a,v)::m) b=if b=a then some 0 else (mgI m b).map (· + 1):=by
 unfold mgI
 rw [List.findIdx?_cons]
 by_cases e : b=a
 ·rw [if_pos e,if_pos (by simpa using e)]
 ·rw [if_neg e,if_neg (by simpa using e)]
theorem Af4 {β : Type} (a b : Int) (v : β) (m : List (Int×β)) : Ab5 ((a,v)::m) b=if b=a then some v else Ab5 m b:=by
 unfold Ab5
 rw [Aia]
 by_cases e : b=a
 ·rw [if_pos e,if_pos e]; rfl
 ·rw [if_neg e,if_neg e]
  cases mgI m b with
  | none=>rfl
  | some j=>simp
theorem AhG {β : Type} (a b : Int) (v : β) (m : List (Int×β)) : Aki ((a,v)::m) b=if b=a then m else (a,v)::Aki m b:=by
 unfold Aki
 rw [Aia]
 by_cases e : b=a
 ·rw [if_pos e,if_pos e]; rfl
 ·rw [if_neg e,if_neg e]
  cases mgI m b with
  | none=>rfl
  | some j=>rfl
theorem AjI {β : Type} (a b : Int) (v w : β) (m : List (Int×β)) : AbE ((a,v)::m) b w=if b=a then (b,w)::m else (a,v)::AbE m b w:=by
 unfold AbE
 rw [Aia]
 by_cases e : b=a
 ·rw [if_pos e,if_pos e]; rfl
 ·rw [if_neg e,if_neg e]
  cases mgI m b with
  | none=>rfl
  | some j=>rfl
def KN {β : Type} (m : List (Int×β)) : Prop:=(m.map (·.1)).Nodup
theorem Akh {β : Type} (b : Int) : ∀ (m : List (Int×β)) (x : Int),x ∈ (Aki m b).map (·.1)→x ∈ m.map (·.1)
 | [],x,h=>h
 | (a,v)::m,x,h=>by
  rw [AhG] at h
  split at h
  ·exact List.mem_cons_of_mem _ h
  ·rw [List.map_cons,List.mem_cons] at h
   rcases h with h | h
   ·rw [h]; exact List.mem_cons_self
   ·exact List.mem_cons_of_mem _ (Akh b m x h)
theorem Agp {β : Type} (b : Int) (w : β) : ∀ (m : List (Int×β)) (x : Int),x ∈ (AbE m b w).map (·.1)→x ∈ m.map (·.1)∨x=b
 | [],x,h=>by
  have : AbE ([] : List (Int×β)) b w = [(b,w)]:=rfl
  rw [this] at h
  simp at h; exact .inr h
 | (a,v)::m,x,h=>by
  rw [AjI] at h
  split at h
  ·rename_i e; subst e; exact .inl h
  ·rw [List.map_cons,List.mem_cons] at h
   rcases h with h | h
   ·rw [h]; exact .inl List.mem_cons_self
   ·rcases Agp b w m x h with z | z
    ·exact .inl (List.mem_cons_of_mem _ z)
    ·exact .inr z
theorem KN.del {β : Type} (b : Int) : ∀ {m : List (Int×β)},KN m→KN (Aki m b)
 | [],h=>h
 | (a,v)::m,h=>by
  unfold KN at h
  rw [List.map_cons,List.nodup_cons] at h
  rw [AhG]
  split
  ·exact h.2
  ·unfold KN
   rw [List.map_cons,List.nodup_cons]
   exact ⟨fun z=>h.1 (Akh b m _ z),KN.del b h.2⟩
theorem KN.put {β : Type} (b : Int) (w : β) : ∀ {m : List (Int×β)},KN m→KN (AbE m b w)
 | [],h=>by
  have : AbE ([] : List (Int×β)) b w = [(b,w)]:=rfl
  rw [this]; simp [KN]
 | (a,v)::m,h=>by
  have h':=h
  unfold KN at h
  rw [List.map_cons,List.nodup_cons] at h
  rw [AjI]
  split
  ·rename_i e; subst e; exact h'
  ·rename_i e
   unfold KN
   rw [List.map_cons,List.nodup_cons]
   refine ⟨fun z=>?_,KN.put b w h.2⟩
   rcases Agp b w m _ z with q | q
   ·exact h.1 q
   ·exact e q.symm
theorem AjK {β : Type} : ∀ {m : List (Int×β)} {b : Int},b ∉ m.map (·.1)→Ab5 m b=none
 | [],b,_=>rfl
 | (a,v)::m,b,h=>by
  rw [List.map_cons,List.mem_cons] at h
  rw [Af4,if_neg (fun e=>h (.inl e)),AjK fun e=>h (.inr e)]
theorem Akg {β : Type} : ∀ {m : List (Int×β)} (_ : KN m) (a b : Int),Ab5 (Aki m a) b=if b=a then none else Ab5 m b
 | [],_,a,b=>by split <;> rfl
 | (c,v)::m,h,a,b=>by
  unfold KN at h
  rw [List.map_cons,List.nodup_cons] at h
  rw [AhG]
  by_cases e : a=c
  ·subst e
   rw [if_pos rfl,Af4]
   by_cases e2 : b=a
   ·subst e2
    rw [if_pos rfl]; exact AjK h.1
   ·rw [if_neg e2,if_neg e2]
  ·rw [if_neg e,Af4,Af4,Akg h.2 a b]
   by_cases e2 : b=c
   ·subst e2
    rw [if_pos rfl,if_neg (fun z=>e z.symm),if_pos rfl]
   ·rw [if_neg e2,if_neg e2]
theorem AjL {β : Type} : ∀ (L : List Int) {m : List (Int×β)} (_ : KN m) (b : Int),KN (L.foldl Aki m)∧Ab5 (L.foldl Aki m) b=if b ∈ L then none else Ab5 m b
 | [],m,h,b=>⟨h,by simp⟩
 | a::L,m,h,b=>by
  have ih:=AjL L (KN.del a h) b
  rw [List.foldl_cons]
  refine ⟨ih.1,?_⟩
  rw [ih.2,Akg h]
  by_cases e : b ∈ L
  ·rw [if_pos e,if_pos (List.mem_cons_of_mem _ e)]
  ·rw [if_neg e]
   by_cases e2 : b=a
   ·rw [if_pos e2,if_pos (e2 ▸ List.mem_cons_self)]
   ·rw [if_neg e2,if_neg (by rw [List.mem_cons]; rintro (z | z); exact e2 z; exact e z)]
def gA (A : List AaI) (a : Int) : AaI:=A.getD a.toNat ⟨0,0,0⟩
theorem AqH {A : List AaI} {i : Nat} (h : i<A.length) : gA A (i : Int)=A[i]:=by
 unfold gA
 rw [show ((i : Int)).toNat=i by omega,List.getD_eq_getElem?_getD,List.getElem?_eq_getElem h]; rfl
def nds (A : List AaI) (W : List Int) : List Int:=0::W.map fun a=>(gA A a).To
theorem AoR (A : List AaI) (W : List Int) : (nds A W).length=W.length+1:=by simp [nds]
theorem AiW (A : List AaI) (W : List Int) (k : Nat) : nds A (W.take k)=(nds A W).take (k+1):=by simp [nds,List.map_take]
structure Wy (A : List AaI) (W : List Int) (t : Int) : Prop where
 rng : ∀ a ∈ W,0≤a∧a<A.length
 nd : (nds A W).Nodup
 fr : ∀ j : Nat,j<W.length→(gA A (W.getD j 0)).From=(nds A W).getD j 0
 last : (nds A W).getD W.length 0=t
theorem Wy.nil (A : List AaI) : Wy A [] 0:=⟨by simp,by simp [nds],fun j h=>absurd h (Nat.not_lt_zero _),rfl⟩
theorem Ahu {l l' : List Int} {a : Int} (h : a ∈ l) : (l++l').idxOf a=l.idxOf a:=by
 induction l with
 | nil=>cases h
 | cons b l ih =>
  rw [List.cons_append,List.idxOf_cons,List.idxOf_cons]
  by_cases e : b=a
  ·simp [e]
  ·rw [List.mem_cons] at h
   have e' : (b==a)=false:=by simpa using e
   rw [e',ih (h.resolve_left (fun z=>e z.symm))]
theorem AlH {l l' : List Int} {a : Int} (h : a ∉ l) : (l++l').idxOf a=l.length+l'.idxOf a:=by
 induction l with
 | nil=>simp
 | cons b l ih =>
  rw [List.mem_cons] at h
  have e' : (b==a)=false:=by simpa using fun z=>h (.inl z.symm)
  rw [List.cons_append,List.idxOf_cons,e',ih (fun z=>h (.inr z)),List.length_cons]
  simp; omega
theorem AhK {l : List Int} {k j : Nat} (h : j<k) : (l.take k).getD j 0=l.getD j 0:=by
 rw [List.getD_eq_getElem?_getD,List.getD_eq_getElem?_getD,List.getElem?_take,if_pos h]
theorem Wy.take {A : List AaI} {W : List Int} {t : Int} (hw : Wy A W t) {k : Nat} (hk : k≤W.length) : Wy A (W.take k) ((nds A W).getD k 0):=by
 have hl : (W.take k).length=k:=by rw [List.length_take]; omega
 refine ⟨fun a ha=>hw.rng a (List.mem_of_mem_take ha),?_,fun j hj=>?_,?_⟩
 ·rw [AiW]; exact hw.nd.sublist (List.take_sublist _ _)
 ·rw [hl] at hj
  rw [AiW,AhK hj,AhK (by omega)]
  exact hw.fr j (by omega)
 ·rw [hl,AiW,AhK (by omega)]
theorem Wy.len {N : Nat} {A : List AaI} (nv : NV N A) {W : List Int} {t : Int} (hw : Wy A W t) : W.length+1≤N:=by
 have:=nodup_range N (nds A W) hw.nd fun x hx=>by
  have n2:=nv.two
  unfold nds at hx
  rw [List.mem_cons] at hx
  rcases hx with hx | hx
  ·omega
  ·obtain ⟨a,ha,rfl⟩:=List.mem_map.1 hx
   have r:=hw.rng a ha
   have e : a=((a.toNat : Nat) : Int):=by omega
   have ok:=nv.ok _ (List.getElem_mem (show a.toNat<A.length by omega))
   rw [e,AqH (by omega)]; exact ⟨ok.2.2.1,ok.2.2.2.1⟩
 rw [AoR] at this; exact this
def Mt (m : List (Int×Int)) (L : List Int) : Prop:=KN m∧∀ v,Ab5 m v=if v ∈ L then some ((L.idxOf v : Nat) : Int) else none
theorem Mt.cut {m : List (Int×Int)} {L : List Int} (h : Mt m L) (hn : L.Nodup) {k : Nat} (hk : k<L.length) : Mt (AbE ((L.drop (k+1)++[L.getD k 0]).foldl Aki m) (L.getD k 0) (k : Int)) (L.take (k+1)):=by
 have d:=fun v=>AjL (L.drop (k+1)++[L.getD k 0]) h.1 v
 have gk : L.getD k 0=L[k]:=by rw [List.getD_eq_getElem?_getD,List.getElem?_eq_getElem hk]; rfl
 have et : L.take (k+1)=L.take k++[L[k]]:=List.take_succ_eq_append_getElem hk
 have sp : L=L.take (k+1)++L.drop (k+1):=(List.take_append_drop _ _).symm
 have nt : L[k] ∉ L.take k:=by
  have q:=hn
  rw [sp,et] at q
  rw [List.nodup_append] at q
  have q:=q.1
  rw [List.nodup_append] at q
  intro z
  exact q.2.2 _ z _ (List.mem_singleton.2 rfl) rfl
 refine ⟨KN.put _ _ (d 0).1,fun v=>?_⟩
 rw [Ab4,(d v).2,h.2 v,gk,et]
 by_cases e : v=L[k]
 ·subst e
  rw [if_pos rfl,if_pos (List.mem_append_right _ (List.mem_singleton.2 rfl)),AlH nt]
  simp; omega
 ·rw [if_neg e]
  by_cases e1 : v ∈ L.take k
  ·have n1 : v ∉ L.drop (k+1):=by
    have q:=hn
    rw [sp,et,List.nodup_append] at q
    intro z
    exact q.2.2 v (List.mem_append_left _ e1) v z rfl
   rw [if_neg (by rw [List.mem_append,List.mem_singleton]; rintro (z | z); exact n1 z; exact e z),if_pos (List.mem_of_mem_take e1),if_pos (List.mem_append_left _ e1),Ahu e1]
   congr 2
   conv=>lhs; rw [sp,et,List.append_assoc]
   rw [Ahu e1]
  ·rw [if_neg (show ¬ v ∈ L.take k++[L[k]] by rw [List.mem_append,List.mem_singleton]; rintro (z | z); exact e1 z; exact e z)]
   by_cases e2 : v ∈ L.drop (k+1)
   ·rw [if_pos (List.mem_append_left _ e2)]
   ·rw [if_neg (by rw [List.mem_append,List.mem_singleton]; rintro (z | z); exact e2 z; exact e z),if_neg]
    intro z
    rw [sp,et,List.mem_append,List.mem_append,List.mem_singleton] at z
    rcases z with (z | z) | z
    ·exact e1 z
    ·exact e z
    ·exact e2 z
structure Lf (N : Nat) (A : List AaI) (f left W : List Int) (met : List (Int×Int)) (t r : Int) : Prop where
 len : left.length=A.length
 nn : ∀ (i : Nat) (h : i<left.length),0≤left[i]
 sur : ∀ v,Mf.sur (ar A) left v=r*(Mf.b2 (0=v)-Mf.b2 (1=v))-(Mf.b2 (0=v)-Mf.b2 (t=v))
 wy : Wy A W t
 mt : Mt met (nds A W)
 use : ∀ i : Nat,i<A.length→((W.count (i : Int) : Nat) : Int)+left.getD i 0≤f.getD i 0
def ArD (out : List (List Int)) (a : Int) : Nat:=out.flatten.count a
structure PW (A : List AaI) (f : List Int) (out : List (List Int)) (V : Int) : Prop where
 len : (out.length : Int)=V
 wy : ∀ W ∈ out,Wy A W 1
 use : ∀ j : Nat,j<A.length→((ArD out (j : Int) : Nat) : Int)≤f.getD j 0
theorem AhQ (out : List (List Int)) (i : Nat) (a : Int) : ArD (out.take i) a≤ArD out a:=by
 unfold ArD
 conv=>rhs; rw [← List.take_append_drop i out,List.flatten_append,List.count_append]
 omega
end Go.TF
set_option linter.unusedVariables false
set_option linter.unusedSimpArgs false
set_option maxRecDepth 100000
namespace Go.TF
open Go Go.Abs
def Atk (A : List AaI) (w : AaI→Int) : Int:=(A.map fun a=>w a*a.Cap).sum
end Go.TF
set_option linter.unusedVariables false
set_option linter.unusedSimpArgs false
namespace Go.TF
open Go Go.Abs
def Agw (N lv a b : Int) : Bool:=decide (1≤lv∧lv≤3∧0≤a∧a<N∧0≤b∧b<N∧a≠b)
theorem Aku (k : Nat) (N : Int) (E : List AaA) (g : List Int) (lv a b : Int) (hN : -1000001≤N∧N≤1000001) : AcW k N E g lv a b=some (Agw N lv a b):=by
 unfold AcW Agw
 rw [Alw,Aae]
 by_cases h1 : 1≤lv∧lv≤3
 ·rw [if_pos (decide_eq_true h1),Alw,Aae,w64 (by omega) (by omega)]
  by_cases h2 : 0≤a∧a≤N-1
  ·rw [if_pos (decide_eq_true h2),Alw,Aae]
   by_cases h3 : 0≤b∧b≤N-1
   ·rw [if_pos (decide_eq_true h3)]
    congr 1
    by_cases h4 : a=b
    ·subst h4; simp
    ·rw [decide_eq_true (by omega)]; simpa using h4
   ·rw [if_neg (by simpa using h3),decide_eq_false (by omega)]
  ·rw [if_neg (by simpa using h2),decide_eq_false (by omega)]
 ·rw [if_neg (by simpa using h1),decide_eq_false (by omega)]
def ndA (a b : Int) (i : Nat) : List AaI:=((AoN i).filter fun x=>decide (x≠a∧x≠b)).map fun x=>⟨2+2*x,3+2*x,1⟩
def egP (lv a b : Int) (e : AaA) : Bool:=decide (lv≤e.Level∧e.To≠a∧e.From≠b)
def egM (a b : Int) (e : AaA) : AaI:=⟨if e.From=a then 0 else 3+2*e.From,if e.To=b then 1 else 2+2*e.To,1⟩
def egA (lv a b : Int) (E : List AaA) : List AaI:=(E.filter (egP lv a b)).map (egM a b)
def Asy (N : Nat) (E : List AaA) (lv a b : Int) : List AaI:=ndA a b N++egA lv a b E
structure AmO (N : Nat) (E : List AaA) (lv a b v : Int) : Prop where
 no : Agw N lv a b=false→v=0
 yes : Agw N lv a b=true→Mf.Least (ar (Asy N E lv a b)) v
 r0 : 0≤v
 r1 : v≤1000001
end Go.TF
set_option linter.unusedVariables false
set_option linter.unusedSimpArgs false
namespace Go.TF
open Go Go.Abs
theorem Anc (k N : Nat) (hN : N<k) (h9 : N≤1000000) (l : List Int) (hl : l.length=N) (hs : l.Pairwise (· < ·)) : ∀ (m i n : Nat),1≤i→i+m=N→m<n→AaL.L1 k 0 (N : Int) n (i : Int) l=some l
 | 0,i,n+1,_,h,_=>by rw [AaL.L1,if_neg (by omega)]
 | m+1,i,n+1,h1,h,hn=>by
  rw [AaL.L1,if_pos (by omega)]
  obtain ⟨j,rfl⟩ : ∃ j,i=j+1:=⟨i-1,by omega⟩
  obtain ⟨q,rfl⟩ : ∃ q,k=q+1:=⟨k-1,by omega⟩
  have hj : j<l.length:=by omega
  have hj1 : j+1<l.length:=by omega
  have hlt : l[j]<l[j+1]:=by
   rw [List.pairwise_iff_getElem] at hs; exact hs j (j+1) hj hj1 (by omega)
  rw [AaL.L3,if_pos (by omega),Aam (by omega),Aa9 hj1,AoB j (by omega),Aam (by omega),Aa9 hj,AoZ,Aae,if_neg (by simp; omega)]
  unfold AaL.J2
  rw [AeT (j+1) (by omega)]
  exact Anc (q+1) N hN h9 l hl hs m (j+2) n (by omega) (by omega) (by omega)
theorem An2 (k : Nat) (l : List Int) (hl : l.length≤12) (hk : 20<k) (hs : l.Pairwise (· < ·)) : Abz k l=some l:=by
 unfold Abz
 have h0 : Acc k (IntKind.wrap .u64 (l.length : Int))=Acc 0 (IntKind.wrap .u64 (l.length : Int)):=rfl
 have h1:=Arz ⟨l.length,by omega⟩
 obtain ⟨v,hv⟩:=Option.isSome_iff_exists.1 h1
 simp only at hv
 rw [h0,hv,Aae]
 unfold Aay
 obtain ⟨q,rfl⟩ : ∃ q,k=q+1:=⟨k-1,by omega⟩
 rw [Aay.L1,w64 (by omega) (by omega),if_pos (by omega)]
 unfold AaL
 by_cases e : l.length=0
 ·rw [w64 (by omega) (by omega),AaL.L1,if_neg (by omega),Aae,Aam rfl,Aae,Aam rfl]
 ·have:=Anc (q+1) l.length (by omega) (by omega) l rfl hs (l.length-1) 1 (q+1) (by omega) (by omega) (by omega)
  rw [show IntKind.wrap .i64 ((0 : Int)+1)=((1 : Nat) : Int) from AeT 0 (by omega),this,Aae,Aam rfl,Aae,Aam rfl]
theorem AhD (k : Nat) (E : List AaA) (x : Int) (h9 : E.length≤1000000) (ho : (outs E x).length≤12) (hs : (outs E x).Pairwise (· < ·)) (hk : 20<k) : ∀ (m i n : Nat) (acc : List Int),i+m=E.length→m<n→acc=outs (E.take i) x→AbH.L1 k E x n (i : Int) acc=some (outs E x)
 | 0,i,n+1,acc,h,_,ha=>by
  have : acc=outs E x:=by rw [ha,List.take_of_length_le (by omega)]
  subst this
  rw [AbH.L1,if_neg (by omega),An2 k _ ho hk hs,Aae,Aam rfl]
 | m+1,i,n+1,acc,h,hn,ha=>by
  have hi : i<E.length:=by omega
  have e : outs (E.take (i+1)) x=outs (E.take i) x++if E[i].From=x then [E[i].To] else []:=by
   rw [List.take_succ_eq_append_getElem hi]
   unfold outs
   rw [List.filter_append,List.map_append]
   congr 1
   rw [List.filter_cons]
   by_cases q : E[i].From=x
   ·rw [if_pos (by simpa using q),if_pos q]; rfl
   ·rw [if_neg (by simpa using q),if_neg q]; rfl
  have la : acc.length≤i:=by
   rw [ha]; unfold outs; rw [List.length_map]
   exact Nat.le_trans (List.length_filter_le _ _) (by rw [List.length_take]; omega)
  rw [AbH.L1,if_pos (by omega),Aa9 hi]
  unfold AbH.J2
  simp only [AeT i (by omega)]
  by_cases q : E[i].From=x
  ·rw [if_pos q,Aam (by simp only [List.length_cons,List.length_nil]; omega)]
   exact AhD k E x h9 ho hs hk m (i+1) n _ (by omega) (by omega) (by rw [e,if_pos q,ha])
  ·rw [if_neg q]
   exact AhD k E x h9 ho hs hk m (i+1) n _ (by omega) (by omega) (by rw [e,if_neg q,ha,List.append_nil])
theorem AoI (k : Nat) (N : Int) (E : List AaA) (g : List Int) (x : Int) (h9 : E.length≤1000000) (hE : E.length<k) (ho : (outs E x).length≤12) (hs : (outs E x).Pairwise (· < ·)) (hk : 20<k) : AbH k N E g x=some (outs E x) :=
 AhD k E x h9 ho hs hk E.length 0 k [] (by omega) hE (by simp [outs])
def usB (m : List (Int×Bool)) (y : Int) : Bool:=(Ab5 m y).getD false
def stB (m : List (Int×Bool)) (a b : Int) (dr : Bool) (u y : Int) : Bool:=usB m y||(decide (u=a∧y=b)&&dr)
theorem AnP (k : Nat) (y N : Int) (E : List AaA) (g : List Int) (lv a b : Int) (m : List (Int×Bool)) (dr : Bool) (u : Int) : Abm k y N E g lv a b m dr u=some (stB m a b dr u y):=by
 unfold Abm stB usB AgS
 have e : (if u=a then if y=b then some dr else some false else some false)=some (decide (u=a∧y=b)&&dr):=by
  by_cases h1 : u=a <;> by_cases h2 : y=b <;> simp [h1,h2]
 rw [e]
 cases Ab5 m y with
 | none=>simp
 | some v=>cases v <;> simp
theorem AjS (k : Nat) (L : List Int) (N : Int) (E : List AaA) (g : List Int) (lv a b : Int) (mm : List (Int×Bool)) (dr : Bool) (u : Int) (h9 : L.length≤1000000) : ∀ (m i n : Nat),i+m=L.length→m<n→(∀ x ∈ L.take i,(!stB mm a b dr u x)=true)→∃ r,Aac.L1 k L N E g lv a b mm dr u n (i : Int)=some r ∧
 ((r = -1∧∀ x ∈ L,(!stB mm a b dr u x)=true)∨∃ j : Nat,∃ h : j<L.length,r=(j : Int)∧(!stB mm a b dr u L[j])=false∧∀ x ∈ L.take j,(!stB mm a b dr u x)=true)
 | 0,i,n+1,e,_,ha=>by
  rw [Aac.L1,if_neg (by omega)]
  exact ⟨-1,rfl,.inl ⟨rfl,fun x hx=>ha x (by rw [List.take_of_length_le (by omega)]; exact hx)⟩⟩
 | m+1,i,n+1,e,hn,ha=>by
  have hi : i<L.length:=by omega
  rw [Aac.L1,if_pos (by omega),Aam (by omega),Aa9 hi,AnP,Aae]
  by_cases q : stB mm a b dr u L[i]=true
  ·rw [if_pos q]; exact ⟨i,rfl,.inr ⟨i,hi,rfl,by simp [q],ha⟩⟩
  ·rw [if_neg q,AeT i (by omega)]
   refine AjS k L N E g lv a b mm dr u h9 m (i+1) n (by omega) (by omega) fun x hx=>?_
   rw [List.take_succ_eq_append_getElem hi,List.mem_append,List.mem_singleton] at hx
   rcases hx with hx | rfl
   ·exact ha x hx
   ·simpa using q
theorem AhN (k : Nat) (L : List Int) (N : Int) (E : List AaA) (g : List Int) (lv a b : Int) (mm : List (Int×Bool)) (dr : Bool) (u : Int) (h9 : L.length≤1000000) : ∀ (m j i n : Nat) (l : List Int),j+m=L.length→m<n→Del (fun x => !stB mm a b dr u x) L l i j→AaP.L1 k N E g lv a b mm dr u n (i : Int) (j : Int) l=some (L.filter fun x => !stB mm a b dr u x)
 | 0,j,i,n+1,l,e,_,D=>by
  have h1:=D.len; have h2:=D.lt; have h3:=D.le
  rw [AaP.L1,if_neg (by omega),Aam (by omega),Aam (by omega)]
  unfold AoY
  simp only []
  rw [show ((i : Int)).toNat=i by omega,Aam (by simp; omega),AkU (by omega),D.kept,List.take_of_length_le (by omega)]
 | m+1,j,i,n+1,l,e,hn,D=>by
  have h1:=D.len; have h2:=D.lt; have h3:=D.le
  have hj : j<L.length:=by omega
  rw [AaP.L1,if_pos (by omega),Aam (by omega),Aa9 (show j<l.length by omega),AnP,Aae,D.at (by omega)]
  unfold AaP.J2
  simp only [AeT j (by omega),AeT i (by omega)]
  by_cases q : (!stB mm a b dr u L[j])=true
  ·rw [if_pos q,Aam (by omega),show ((i : Int)).toNat=i by omega]
   exact AhN k L N E g lv a b mm dr u h9 m (j+1) (i+1) n _ (by omega) (by omega) (D.keep hj q)
  ·rw [if_neg q]
   exact AhN k L N E g lv a b mm dr u h9 m (j+1) i n _ (by omega) (by omega) (D.pass hj (by simpa using q))
theorem Aol (k : Nat) (L : List Int) (N : Int) (E : List AaA) (g : List Int) (lv a b : Int) (mm : List (Int×Bool)) (dr : Bool) (u : Int) (hk : L.length<k) (h9 : L.length≤1000000) : AaP k L N E g lv a b mm dr u=some (L.filter fun x => !stB mm a b dr u x):=by
 unfold AaP Aac
 obtain ⟨r,e1,h⟩:=AjS k L N E g lv a b mm dr u h9 L.length 0 k (by omega) hk (by simp)
 rw [show Aac.L1 k L N E g lv a b mm dr u k 0=some r from e1,Aae]
 rcases h with ⟨rfl,h⟩ | ⟨j,hj,rfl,h1,h2⟩
 ·rw [if_pos rfl,List.filter_eq_self.2 h]
 ·rw [if_neg (by omega),AeT j (by omega)]
  exact AhN k L N E g lv a b mm dr u h9 (L.length-(j+1)) (j+1) j k L (by omega) (by omega) (Del.first hj h2 h1)
def stp (E : List AaA) (lv a b : Int) (m : List (Int×Bool)) (dr : Bool) (u : Int) : List Int:=(outs (E.filter (lvE lv)) u).filter fun y => !stB m a b dr u y
theorem AmY (k : Nat) (N : Int) (E : List AaA) (g : List Int) (lv a b : Int) (m : List (Int×Bool)) (dr : Bool) (u : Int) (hE : E.length<k) (h9 : E.length≤1000000) (hg9 : g.length≤1000000) (ho : (outs (E.filter (lvE lv)) u).length≤12) (hs : (outs (E.filter (lvE lv)) u).Pairwise (· < ·)) (hk : 20<k) : AbP k N E g lv a b m dr u=some (stp E lv a b m dr u):=by
 have hl:=List.length_filter_le (lvE lv) E
 unfold AbP
 rw [Alz k N E g lv hE (by omega) hg9,Adv,AoI k N _ g u (by omega) (by omega) ho hs hk,Aae,Aol k _ N E g lv a b m dr u (by omega) (by omega),Aae]
 rfl
theorem An0 {E : List AaA} {lv a b : Int} {m : List (Int×Bool)} {dr : Bool} {u : Int} (hE : E.Pairwise fun a b=>bef a b=true) : (stp E lv a b m dr u).Pairwise (· < ·):=(Agn _ u (hE.filter _)).filter _
theorem AoW {E : List AaA} {lv a b : Int} {m : List (Int×Bool)} {dr : Bool} {u y : Int} : y ∈ stp E lv a b m dr u↔(∃ e ∈ E,lv≤e.Level∧e.From=u∧e.To=y)∧usB m y=false∧¬ (u=a∧y=b∧dr=true):=by
 unfold stp stB
 rw [List.mem_filter,Ac7]
 simp only [List.mem_filter,lvE,decide_eq_true_eq,Bool.not_or,Bool.and_eq_true,Bool.not_eq_true',Bool.and_eq_false_imp]
 constructor
 ·rintro ⟨⟨e,⟨he,h1⟩,h2,h3⟩,h4,h5⟩
  exact ⟨⟨e,he,h1,h2,h3⟩,h4,fun q=>by have:=h5 ⟨q.1,q.2.1⟩; rw [q.2.2] at this; cases this⟩
 ·rintro ⟨⟨e,he,h1,h2,h3⟩,h4,h5⟩
  refine ⟨⟨e,⟨he,h1⟩,h2,h3⟩,h4,fun q=>?_⟩
  cases dr with
  | false=>rfl
  | true=>exact absurd ⟨q.1,q.2,rfl⟩ h5
end Go.TF
