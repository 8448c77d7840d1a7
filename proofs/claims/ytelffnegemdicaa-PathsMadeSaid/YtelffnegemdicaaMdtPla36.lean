import Derived.Test.YtelffnegemdicaaMdtWal30
import Derived.Test.YtelffnegemdicaaMdtLay24
set_option linter.unusedVariables false
set_option linter.unusedSimpArgs false
namespace Go.TF
open Go Go.Abs
theorem AaT {α : Type} {c : Prop} [Decidable c] {x : Option α} (h : c) : chk c x=x:=by simp [chk,h]
theorem Aae {α β : Type} {l : List α} {i : Nat} {f : α→Option β} (h : i<l.length) : idx l (i : Int) f=f l[i]:=by
 simp [idx,h]
@[simp] theorem AaP {α γ : Type} (a : α) (f : α→Option γ) : Abh (some a) f=f a:=rfl
@[simp] theorem AbK {α β γ : Type} (a : α) (b : β) (f : α→β→Option γ) : Agh (some (a,b)) f=f a b:=rfl
@[simp] theorem Ado {α β δ γ : Type} (a : α) (b : β) (c : δ) (f : α→β→δ→Option γ) : AoY (some (a,b,c)) f=f a b c:=rfl
@[simp] theorem Akx {α β δ ε γ : Type} (a : α) (b : β) (c : δ) (d : ε) (f : α→β→δ→ε→Option γ) : Ati (some (a,b,c,d)) f=f a b c d:=rfl
@[simp] theorem Af4 {α γ : Type} (x : α) (f : α→Option γ) : Anh x f=f x:=rfl
theorem w64 {n : Int} (h1 : -9223372036854775808≤n) (h2 : n≤9223372036854775807) : IntKind.wrap .i64 n=n:=Apa h1 h2
end Go.TF
set_option linter.unusedVariables false
set_option linter.unusedSimpArgs false
namespace Go.TF
open Go Go.Abs
def AsQ (a b : Int) : Int:=if b<1 then 0 else if Int.tmod a b<0 then IntKind.wrap .i64 (Int.tmod a b+b) else Int.tmod a b
theorem AmO (k : Nat) (a b : Int) : Acd k a b=some (AsQ a b):=by
 unfold Acd AsQ Acd.J1
 split; · rfl
 rw [AaT (by omega)]
 split <;> rfl
theorem Amh (a b : Int) (h1 : 1≤b) (h2 : b≤1000000000) : 0≤AsQ a b∧AsQ a b<b:=by
 have:=Int.tmod_lt_of_pos a (show 0<b by omega)
 have:=Int.lt_tmod_of_pos a (show 0<b by omega)
 unfold AsQ
 rw [if_neg (by omega)]
 split
 ·rw [w64 (by omega) (by omega)]; omega
 ·omega
abbrev Pos (p : Int) : Prop:=0≤p∧p≤1000000000
theorem AeW (k : Nat) (l : List Int) (p n : Int) (hl : l.length≤1000000000) (hp : Pos p) : ∃ a q,AbI k l p n=some (a,q)∧Pos q∧(1≤n→n≤1000000000→0≤a∧a<n):=by
 unfold AbI
 by_cases h : (l.length : Int)≤p
 ·rw [if_pos h]; exact ⟨0,p,rfl,hp,fun _ _=>by omega⟩
 ·rw [if_neg h]
  obtain ⟨i,rfl⟩:=Int.eq_ofNat_of_zero_le hp.1
  have e1 : IntKind.wrap .i64 (IntKind.wrap .i64 ((i : Int)+1)-1)=i:=by
   rw [w64 (n:=(i : Int)+1) (by omega) (by omega),w64 (by omega) (by omega)]; omega
  rw [e1,Aae (by omega),AmO,AaP,w64 (by omega) (by omega)]
  exact ⟨_,_,rfl,by omega,fun h1 h2=>Amh _ _ h1 h2⟩
theorem ApX (k : Nat) (l : List Int) : Afa k l=some (decide ((l.length : Int)≤400)):=rfl
theorem ArG (k : Nat) (l : List Int) : AgV k l=some (l,0):=rfl
end Go.TF
set_option linter.unusedVariables false
set_option linter.unusedSimpArgs false
namespace Go.TF
open Go Go.Abs
theorem AdA (i : Nat) (h : i<9223372036854775807) : IntKind.wrap .i64 ((i : Int)+1)=((i+1 : Nat) : Int):=by rw [w64 (by omega) (by omega)]; omega
theorem ArN (i : Nat) (h : i<9223372036854775806) : IntKind.wrap .i64 (((i+1 : Nat) : Int)-1)=(i : Int):=by rw [w64 (by omega) (by omega)]; omega
theorem AkH (k : Nat) (l : List Int) (x : Int) (h9 : l.length≤1000000) : ∀ (m i n : Nat),i+m=l.length→m<n→AbM.L1 k l x n (i : Int)=some (decide (x ∈ l.drop i))
 | 0,i,n+1,h,_=>by rw [AbM.L1,if_neg (by omega),List.drop_eq_nil_of_le (by omega)]; rfl
 | m+1,i,n+1,h,hn=>by
  have hi : i<l.length:=by omega
  rw [AbM.L1,if_pos (by omega),Aae hi,List.drop_eq_getElem_cons hi]
  by_cases e : l[i]=x
  ·rw [if_pos e]; simp [-List.getElem_cons_drop,e]
  ·rw [if_neg e,AdA i (by omega),AkH k l x h9 m (i+1) n (by omega) (by omega)]
   have e' : ¬ x=l[i]:=fun q=>e q.symm
   simp [-List.getElem_cons_drop,e']
theorem AeB (k : Nat) (l : List Int) (x : Int) (hk : l.length<k) (h9 : l.length≤1000000) : AbM k l x=some (decide (x ∈ l)):=AkH k l x h9 l.length 0 k (by omega) hk
theorem Ahj (k : Nat) (l : List Int) (x : Int) (h9 : l.length≤1000000) : ∀ (m i n : Nat),i+m=l.length→m<n→∃ r,Aa1.L1 k l x n (i : Int)=some r∧(0≤r↔x ∈ l.drop i)
 | 0,i,n+1,h,_=>by rw [Aa1.L1,if_neg (by omega),List.drop_eq_nil_of_le (by omega)]; exact ⟨_,rfl,by simp⟩
 | m+1,i,n+1,h,hn=>by
  have hi : i<l.length:=by omega
  rw [Aa1.L1,if_pos (by omega),Aae hi,List.drop_eq_getElem_cons hi]
  by_cases e : x=l[i]
  ·rw [if_pos e]; exact ⟨_,rfl,by simp [-List.getElem_cons_drop,e]⟩
  ·rw [if_neg e,AdA i (by omega)]
   obtain ⟨r,h1,h2⟩:=Ahj k l x h9 m (i+1) n (by omega) (by omega)
   exact ⟨r,h1,by rw [h2]; simp [-List.getElem_cons_drop,e]⟩
theorem AhA (k : Nat) (l : List Int) (x : Int) (hk : l.length<k) (h9 : l.length≤1000000) : Aba k l x=some (decide (x ∈ l)):=by
 unfold Aba Aa1
 obtain ⟨r,h1,h2⟩:=Ahj k l x h9 l.length 0 k (by omega) hk
 rw [show (0 : Int)=((0 : Nat) : Int) from rfl,h1,AaP]
 simp only [List.drop_zero] at h2
 simp [← h2]
def prv {α : Type} (l : List α) : Nat→Option α
 | 0=>none
 | i+1=>l[i]?
theorem Aoo {α : Type} {l : List α} {i : Nat} (h : i<l.length) : prv l (i+1)=some l[i]:=List.getElem?_eq_getElem h
def loI : Option Int→Int→Bool
 | none,_=>true
 | some y,x=>decide (y<x)
def setF (N : Int) : Option Int→List Int→Bool
 | _,[]=>true
 | p,x::l=>decide (0≤x)&&decide (x<N)&&loI p x&&setF N (some x) l
theorem AkG (k : Nat) (l : List Int) (N : Int) (h9 : l.length≤1000000) : ∀ (m i n : Nat),i+m=l.length→m<n→Abl.L1 k l N n (i : Int)=some (setF N (prv l i) (l.drop i))
 | 0,i,n+1,h,_=>by rw [Abl.L1,if_neg (by omega),List.drop_eq_nil_of_le (by omega)]; rfl
 | m+1,i,n+1,h,hn=>by
  have hi : i<l.length:=by omega
  rw [Abl.L1,if_pos (by omega),Aae hi,List.drop_eq_getElem_cons hi,setF]
  by_cases h1 : l[i]<0
  ·rw [if_pos h1]; have : ¬ 0≤l[i]:=by omega
   simp [this]
  rw [if_neg h1]
  by_cases h2 : N≤l[i]
  ·rw [if_pos h2]; have : ¬ l[i]<N:=by omega
   simp [this]
  rw [if_neg h2]
  have a1 : 0≤l[i]:=by omega
  have a2 : l[i]<N:=by omega
  have ih:=AkG k l N h9 m (i+1) n (by omega) (by omega)
  rw [Aoo hi] at ih
  unfold Abl.J2
  simp only [AdA i (by omega),ih]
  cases i with
  | zero=>rw [if_neg (by omega)]; simp [prv,loI,a1,a2]
  | succ j =>
   rw [if_pos (by omega),ArN j (by omega),Aae (by omega : j<l.length),Aoo (by omega)]
   by_cases h3 : l[j+1]≤l[j]
   ·rw [if_pos h3]; have : ¬ l[j]<l[j+1]:=by omega
    simp [loI,this]
   ·rw [if_neg h3]; have : l[j]<l[j+1]:=by omega
    simp [loI,this,a1,a2]
theorem AqJ (k : Nat) (l : List Int) (N : Int) (hk : l.length<k) (h9 : l.length≤1000000) : Abl k l N=some (setF N none l):=AkG k l N h9 l.length 0 k (by omega) hk
theorem AkA (N : Int) : ∀ (l : List Int) (p : Option Int),setF N p l=true↔(∀ x ∈ l,0≤x∧x<N)∧l.Pairwise (· < ·)∧(∀ q,p=some q→∀ x ∈ l,q<x)
 | [],p=>by simp [setF]
 | x::l,p=>by
  rw [setF]
  simp only [Bool.and_eq_true,decide_eq_true_eq,AkA N l (some x),List.mem_cons,List.pairwise_cons]
  constructor
  ·rintro ⟨⟨⟨h1,h2⟩,h3⟩,h4,h5,h6⟩
   refine ⟨fun y hy=>?_,⟨fun y hy=>h6 x rfl y hy,h5⟩,fun q hq y hy=>?_⟩
   ·rcases hy with rfl | hy
    ·exact ⟨h1,h2⟩
    ·exact h4 y hy
   ·subst hq
    simp only [loI,decide_eq_true_eq] at h3
    rcases hy with rfl | hy
    ·exact h3
    ·have:=h6 x rfl y hy; omega
  ·rintro ⟨h1,⟨h2,h3⟩,h4⟩
   refine ⟨⟨h1 x (.inl rfl),?_⟩,fun y hy=>h1 y (.inr hy),h3,fun q hq y hy=>?_⟩
   ·cases p with
    | none=>rfl
    | some q=>simp only [loI,decide_eq_true_eq]; exact h4 q rfl x (.inl rfl)
   ·simp only [Option.some.injEq] at hq; subst hq; exact h2 y hy
theorem Aoh (N : Int) (l : List Int) : setF N none l=true↔(∀ x ∈ l,0≤x∧x<N)∧l.Pairwise (· < ·):=by
 rw [AkA]; simp
theorem Ag6 : ∀ (l : List Int) (a N : Int),(∀ x ∈ l,a≤x∧x<N)→l.Pairwise (· < ·)→a≤N→(l.length : Int)≤N-a
 | [],a,N,_,_,h=>by simp; omega
 | x::l,a,N,h1,h2,h=>by
  rw [List.pairwise_cons] at h2
  have hx:=h1 x (by simp)
  have:=Ag6 l (x+1) N (fun y hy=>⟨by have:=h2.1 y hy; omega,(h1 y (by simp [hy])).2⟩) h2.2 (by omega)
  simp only [List.length_cons]; omega
def bef (a b : AaA) : Bool:=decide (a.From<b.From∨(a.From=b.From∧a.To<b.To))
def okE (N : Int) (g : List Int) (e : AaA) : Bool:=decide (0≤e.From∧e.From<N∧0≤e.To∧e.To<N∧e.From≠e.To∧1≤e.Level∧e.Level≤3∧e.From ∉ g∧e.To ∉ g)
def loE : Option AaA→AaA→Bool
 | none,_=>true
 | some q,e=>bef q e
def edF (N : Int) (g : List Int) : Option AaA→List AaA→Bool
 | _,[]=>true
 | p,e::l=>okE N g e&&loE p e&&edF N g (some e) l
def okG (N : Int) (E : List AaA) (g : List Int) : Bool:=decide (0≤N∧N≤64∧E.length≤500)&&(setF N none g&&edF N g none E)
theorem Akz (k : Nat) (a b c d e f : Int) : Ac5 k a b c d e f=some (decide (a<d∨(a=d∧b<e))):=by
 unfold Ac5
 by_cases h : a<d
 ·rw [if_pos h]; simp [h]
 ·rw [if_neg h]
  by_cases h2 : a=d
  ·rw [if_pos h2]; simp [h2]
  ·rw [if_neg h2]; simp [h,h2]
theorem Ahp (k : Nat) (N : Int) (E : List AaA) (g : List Int) (hg : g.length<k) (hg9 : g.length≤1000000) (h9 : E.length≤1000000) : ∀ (m i n : Nat),i+m=E.length→m<n→Aa0.L1 k N E g n (i : Int)=some (if edF N g (prv E i) (E.drop i) then 0 else 14)
 | 0,i,n+1,h,_=>by rw [Aa0.L1,if_neg (by omega),List.drop_eq_nil_of_le (by omega)]; rfl
 | m+1,i,n+1,h,hn=>by
  have hi : i<E.length:=by omega
  have ih:=Ahp k N E g hg hg9 h9 m (i+1) n (by omega) (by omega)
  rw [Aoo hi] at ih
  rw [Aa0.L1,if_pos (by omega),Aae hi,List.drop_eq_getElem_cons hi,edF]
  unfold Aa0.J2
  simp only [AeB k g _ hg hg9,AaP,AdA i (by omega),ih]
  generalize edF N g (some E[i]) (E.drop (i+1))=R
  by_cases a1 : E[i].From<0
  ·rw [if_pos a1]; have : okE N g E[i]=false:=by unfold okE; rw [decide_eq_false_iff_not]; omega
   simp [this]
  rw [if_neg a1]
  by_cases a2 : N≤E[i].From
  ·rw [if_pos a2]; have : okE N g E[i]=false:=by unfold okE; rw [decide_eq_false_iff_not]; omega
   simp [this]
  rw [if_neg a2]
  by_cases a3 : E[i].To<0
  ·rw [if_pos a3]; have : okE N g E[i]=false:=by unfold okE; rw [decide_eq_false_iff_not]; omega
   simp [this]
  rw [if_neg a3]
  by_cases a4 : N≤E[i].To
  ·rw [if_pos a4]; have : okE N g E[i]=false:=by unfold okE; rw [decide_eq_false_iff_not]; omega
   simp [this]
  rw [if_neg a4]
  by_cases a5 : E[i].From=E[i].To
  ·rw [if_pos a5]; have : okE N g E[i]=false:=by unfold okE; rw [decide_eq_false_iff_not]; omega
   simp [this]
  rw [if_neg a5]
  by_cases a6 : E[i].Level<1
  ·rw [if_pos a6]; have : okE N g E[i]=false:=by unfold okE; rw [decide_eq_false_iff_not]; omega
   simp [this]
  rw [if_neg a6]
  by_cases a7 : 3<E[i].Level
  ·rw [if_pos a7]; have : okE N g E[i]=false:=by unfold okE; rw [decide_eq_false_iff_not]; omega
   simp [this]
  rw [if_neg a7]
  have ok : okE N g E[i]=(!decide (E[i].From ∈ g) && !decide (E[i].To ∈ g)):=by
   unfold okE
   by_cases b1 : E[i].From ∈ g <;> by_cases b2 : E[i].To ∈ g <;> simp [b1,b2] <;> omega
  rw [ok]
  cases i with
  | zero =>
   rw [if_neg (by omega)]
   by_cases b1 : E[0].From ∈ g <;> by_cases b2 : E[0].To ∈ g <;> simp [b1,b2,prv,loE]
  | succ j =>
   rw [if_pos (by omega),ArN j (by omega),Aae (by omega : j<E.length),Aoo (by omega),Akz,AaP]
   rw [show loE (some E[j]) E[j+1]=bef E[j] E[j+1] from rfl]
   have hb : decide (E[j].From<E[j+1].From∨(E[j].From=E[j+1].From∧E[j].To<E[j+1].To))=bef E[j] E[j+1]:=rfl
   rw [hb]
   by_cases b0 : bef E[j] E[j+1]=true
   ·by_cases b1 : E[j+1].From ∈ g <;> by_cases b2 : E[j+1].To ∈ g <;> simp [b0,b1,b2]
   ·simp only [Bool.not_eq_true] at b0
    simp [b0]
theorem AnF (k : Nat) (N : Int) (E : List AaA) (g : List Int) (hk : 500<k) (hg : g.length<k) (hg9 : g.length≤1000000) : Aa0 k N E g=some (if okG N E g then 0 else 14):=by
 unfold Aa0 okG
 by_cases h1 : N<0
 ·rw [if_pos h1]; have : ¬ (0≤N∧N≤64∧E.length≤500):=by omega
  simp [this]
 rw [if_neg h1]
 by_cases h2 : 64<N
 ·rw [if_pos h2]; have : ¬ (0≤N∧N≤64∧E.length≤500):=by omega
  simp [this]
 rw [if_neg h2]
 by_cases h3 : 500<(E.length : Int)
 ·rw [if_pos h3]; have : ¬ (0≤N∧N≤64∧E.length≤500):=by omega
  simp [this]
 rw [if_neg h3,AqJ k g N hg hg9,AaP]
 have : (0≤N∧N≤64∧E.length≤500):=by omega
 by_cases h4 : setF N none g=true
 ·rw [if_neg (by simp [h4])]
  have:=Ahp k N E g hg hg9 (by omega) E.length 0 k (by omega) (by omega)
  rw [show (0 : Int)=((0 : Nat) : Int) from rfl,this]
  simp only [prv,List.drop_zero,h4,Bool.true_and]
  have q : (0≤N∧N≤64∧E.length≤500):=by omega
  simp [q]
 ·rw [if_pos (by simpa using h4)]
  simp only [Bool.not_eq_true] at h4
  simp [h4]
theorem Ak0 {a b c : AaA} (h1 : bef a b=true) (h2 : bef b c=true) : bef a c=true:=by
 unfold bef at *; rw [decide_eq_true_eq] at *; omega
theorem AmK (N : Int) (g : List Int) : ∀ (l : List AaA) (p : Option AaA),edF N g p l=true↔(∀ x ∈ l,okE N g x=true)∧l.Pairwise (fun a b=>bef a b=true)∧(∀ q,p=some q→∀ x ∈ l,bef q x=true)
 | [],p=>by simp [edF]
 | x::l,p=>by
  rw [edF]
  simp only [Bool.and_eq_true,AmK N g l (some x),List.mem_cons,List.pairwise_cons]
  constructor
  ·rintro ⟨⟨h1,h3⟩,h4,h5,h6⟩
   refine ⟨fun y hy=>?_,⟨fun y hy=>h6 x rfl y hy,h5⟩,fun q hq y hy=>?_⟩
   ·rcases hy with rfl | hy
    ·exact h1
    ·exact h4 y hy
   ·subst hq
    rcases hy with rfl | hy
    ·exact h3
    ·exact Ak0 h3 (h6 x rfl y hy)
  ·rintro ⟨h1,⟨h2,h3⟩,h4⟩
   refine ⟨⟨h1 x (.inl rfl),?_⟩,fun y hy=>h1 y (.inr hy),h3,fun q hq y hy=>?_⟩
   ·cases p with
    | none=>rfl
    | some q=>exact h4 q rfl x (.inl rfl)
   ·simp only [Option.some.injEq] at hq; subst hq; exact h2 y hy
theorem AdR (N : Int) (E : List AaA) (g : List Int) : okG N E g=true↔(0≤N∧N≤64∧E.length≤500)∧((∀ x ∈ g,0≤x∧x<N)∧g.Pairwise (· < ·))∧(∀ x ∈ E,okE N g x=true)∧E.Pairwise (fun a b=>bef a b=true):=by
 unfold okG
 rw [Bool.and_eq_true,Bool.and_eq_true,Aoh,AmK,decide_eq_true_eq]; simp
theorem AjT (N : Int) (g : List Int) (e : AaA) : okE N g e=true↔0≤e.From∧e.From<N∧0≤e.To∧e.To<N∧e.From≠e.To∧1≤e.Level∧e.Level≤3∧e.From ∉ g∧e.To ∉ g:=by
 unfold okE; rw [decide_eq_true_eq]
end Go.TF
namespace Go.TF.Dist
def dst (E : List (Int×Int)) (S : Int→Bool) : Nat→Int→Int
 | 0,v=>if S v then 0 else -1
 | k+1,v=>if dst E S k v ≠ -1 then dst E S k v else if E.any (fun e=>e.2==v&&dst E S k e.1==(k : Int)) then (k : Int)+1 else -1
variable {E : List (Int×Int)} {S : Int→Bool}
theorem dst_range (k : Nat) (v : Int) : dst E S k v = -1∨(0≤dst E S k v∧dst E S k v≤k):=by
 induction k with
 | zero=>unfold dst; split <;> simp
 | succ k ih =>
  unfold dst; split
  ·rcases ih with h | h
   ·contradiction
   ·right; omega
  ·split
   ·right; omega
   ·left; rfl
theorem dst_keep {k : Nat} {v : Int} (h : dst E S k v ≠ -1) : ∀ j,dst E S (k+j) v=dst E S k v:=by
 intro j; induction j with
 | zero=>rfl
 | succ j ih=>rw [← Nat.add_assoc]; rw [show dst E S (k+j+1) v=if dst E S (k+j) v ≠ -1 then dst E S (k+j) v else _ from rfl,if_pos (by rw [ih]; exact h),ih]
theorem dst_succ {k : Nat} {v : Int} : dst E S (k+1) v=(k : Int)+1↔dst E S k v = -1∧∃ u,(u,v) ∈ E∧dst E S k u=k:=by
 have hr:=dst_range (E:=E) (S:=S) k v
 rw [show dst E S (k+1) v=if dst E S k v ≠ -1 then dst E S k v else if E.any (fun e=>e.2==v&&dst E S k e.1==(k : Int)) then (k : Int)+1 else -1 from rfl]
 by_cases h : dst E S k v ≠ -1
 ·rw [if_pos h]; constructor
  ·intro e; omega
  ·intro e; exact absurd e.1 h
 ·rw [if_neg h]; have h' : dst E S k v = -1:=Classical.not_not.1 h
  split
  ·rename_i a
   simp only [List.any_eq_true,Bool.and_eq_true,beq_iff_eq] at a
   obtain ⟨⟨x,y⟩,m,rfl,e⟩:=a
   exact ⟨fun _=>⟨h',x,m,e⟩,fun _=>rfl⟩
  ·rename_i a
   simp only [List.any_eq_true,Bool.and_eq_true,beq_iff_eq,not_exists,not_and] at a
   exact ⟨fun e=>by omega,fun ⟨_,u,m,e⟩=>absurd e (a (u,v) m rfl)⟩
theorem ApJ {k : Nat} {v : Int} : dst E S (k+1) v=if dst E S (k+1) v=(k : Int)+1 then (k : Int)+1 else dst E S k v:=by
 have hr:=dst_range (E:=E) (S:=S) k v
 by_cases h : dst E S (k+1) v=(k : Int)+1
 ·rw [if_pos h,h]
 ·rw [if_neg h]
  rw [show dst E S (k+1) v=if dst E S k v ≠ -1 then dst E S k v else if E.any (fun e=>e.2==v&&dst E S k e.1==(k : Int)) then (k : Int)+1 else -1 from rfl] at h ⊢
  split
  ·rfl
  ·rename_i a
   rw [if_neg a] at h
   rw [Classical.not_not.1 a]
   split
   ·rename_i b; rw [if_pos b] at h; exact absurd rfl h
   ·rfl
def cnt (E : List (Int×Int)) (S : Int→Bool) (n k : Nat) : Nat:=((List.range n).filter fun (x : Nat)=>decide (dst E S k (x : Int) ≠ -1)).length
theorem AiI (n k : Nat) : cnt E S n k≤n:=by
 unfold cnt; exact Nat.le_trans (List.length_filter_le _ _) (by simp)
theorem Ano {α : Type} (p q : α→Bool) (l : List α) (h : ∀ x ∈ l,p x=true→q x=true) (y : α) (hy : y ∈ l) (hp : p y=false) (hq : q y=true) : (l.filter p).length<(l.filter q).length:=by
 induction l with
 | nil=>cases hy
 | cons a l ih =>
  have hle : (l.filter p).length≤(l.filter q).length:=by
   clear ih hy
   induction l with
   | nil=>simp
   | cons b l ih =>
    have ih':=ih (fun x hx=>h x (by rcases List.mem_cons.1 hx with rfl | hx; simp; exact List.mem_cons_of_mem _ (List.mem_cons_of_mem _ hx)))
    by_cases hb : p b=true
    ·simp [List.filter_cons,hb,h b (by simp) hb]; exact ih'
    ·by_cases hb' : q b=true
     ·simp [List.filter_cons,hb,hb']; omega
     ·simp [List.filter_cons,hb,hb']; exact ih'
  rcases List.mem_cons.1 hy with rfl | hy
  ·simp [List.filter_cons,hp,hq]; omega
  ·have:=ih (fun x hx=>h x (List.mem_cons_of_mem _ hx)) hy
   by_cases ha : p a=true
   ·simp [List.filter_cons,ha,h a (by simp) ha]; exact this
   ·by_cases ha' : q a=true
    ·simp [List.filter_cons,ha,ha']; omega
    ·simp [List.filter_cons,ha,ha']; exact this
theorem Asm (n : Nat) (hS : ∀ v,S v=true→0≤v∧v<n) (hE : ∀ e ∈ E,0≤e.2∧e.2<n) : ∀ k : Nat,(∃ v,dst E S k v=(k : Int))→k+1≤cnt E S n k:=by
 have hin : ∀ (k : Nat) (v : Int),dst E S k v ≠ -1→0≤v∧v<n:=by
  intro k; induction k with
  | zero=>intro v h; unfold dst at h; split at h; exact hS v ‹_›; exact absurd rfl h
  | succ k ih =>
   intro v h; unfold dst at h; split at h
   ·exact ih v ‹_›
   ·split at h
    ·rename_i a
     simp only [List.any_eq_true,Bool.and_eq_true,beq_iff_eq] at a
     obtain ⟨e,m,rfl,_⟩:=a
     exact hE e m
    ·exact absurd rfl h
 intro k; induction k with
 | zero =>
  rintro ⟨v,h⟩
  have hv:=hin 0 v (by rw [h]; simp)
  have : 0<cnt E S n 0:=by
   unfold cnt
   apply List.length_pos_of_mem (a:=v.toNat)
   rw [List.mem_filter]
   refine ⟨by simp; omega,?_⟩
   rw [decide_eq_true_iff,show ((v.toNat : Nat) : Int)=v by omega,h]; simp
  omega
 | succ k ih =>
  rintro ⟨v,h⟩
  have h':=(dst_succ (k:=k) (v:=v)).1 (by simpa using h)
  obtain ⟨h1,u,m,h2⟩:=h'
  have:=ih ⟨u,h2⟩
  have hv:=hin (k+1) v (by rw [h]; simp; omega)
  have : cnt E S n k<cnt E S n (k+1):=by
   unfold cnt
   refine Ano _ _ _ (fun x _ hx=>?_) v.toNat (by simp; omega) ?_ ?_
   ·rw [decide_eq_true_iff] at hx ⊢
    rw [dst_keep hx 1]; exact hx
   ·rw [decide_eq_false_iff_not,show ((v.toNat : Nat) : Int)=v by omega,h1]; simp
   ·rw [decide_eq_true_iff,show ((v.toNat : Nat) : Int)=v by omega,h]; simp; omega
  omega
theorem dst_lt (n : Nat) (hS : ∀ v,S v=true→0≤v∧v<n) (hE : ∀ e ∈ E,0≤e.2∧e.2<n) (k : Nat) (v : Int) (h : dst E S k v=(k : Int)) : k<n:=by
 have:=Asm (E:=E) (S:=S) n hS hE k ⟨v,h⟩; have:=AiI (E:=E) (S:=S) n k; omega
theorem dst_at : ∀ (k j : Nat) (v : Int),dst E S k v=(j : Int)→dst E S j v=(j : Int):=by
 intro k; induction k with
 | zero =>
  intro j v h
  have:=dst_range (E:=E) (S:=S) 0 v
  have : j=0:=by omega
  subst this; exact h
 | succ k ih =>
  intro j v h
  by_cases e : j=k+1
  ·subst e; exact h
  ·rw [ApJ] at h
   by_cases e' : dst E S (k+1) v=(k : Int)+1
   ·rw [if_pos e'] at h; omega
   ·rw [if_neg e'] at h; exact ih j v h
theorem dst_from {k j : Nat} {u v : Int} (h : dst E S k u=(j : Int)) (hj : j<k) (he : (u,v) ∈ E) : dst E S k v ≠ -1:=by
 have h1:=dst_at k j u h
 have : dst E S (j+1) v ≠ -1:=by
  by_cases e : dst E S j v = -1
  ·rw [show dst E S (j+1) v=(j : Int)+1 from (dst_succ).2 ⟨e,u,he,h1⟩]; omega
  ·rw [dst_keep e 1]; exact e
 obtain ⟨d,rfl⟩ : ∃ d,k=j+1+d:=⟨k-(j+1),by omega⟩
 rw [dst_keep this d]; exact this
end Go.TF.Dist
set_option linter.unusedVariables false
set_option linter.unusedSimpArgs false
namespace Go.TF
open Go Go.Abs
def tab (N : Nat) (f : Int→Int) : List Int:=(List.range N).map fun (v : Nat)=>f (v : Int)
@[simp] theorem Atn (N : Nat) (f : Int→Int) : (tab N f).length=N:=by simp [tab]
theorem AlG {N : Nat} {f : Int→Int} {i : Nat} (h : i<(tab N f).length) : (tab N f)[i]=f (i : Int):=by simp [tab]
theorem Af5 {β : Type} {N : Nat} {f : Int→Int} {x : Int} {F : Int→Option β} (h0 : 0≤x) (h1 : x<N) : idx (tab N f) x F=F (f x):=by
 obtain ⟨i,rfl⟩:=Int.eq_ofNat_of_zero_le h0
 rw [Aae (by simp; omega),AlG]
theorem Ae8 {N : Nat} {f g : Int→Int} (h : ∀ v : Int,0≤v→v<N→f v=g v) : tab N f=tab N g :=
 List.map_congr_left fun v hv=>h v (by omega) (by have:=List.mem_range.1 hv; omega)
theorem Ap5 {N : Nat} {f : Int→Int} {x y : Int} (h0 : 0≤x) : (tab N f).set x.toNat y=tab N fun v=>if v=x then y else f v:=by
 obtain ⟨i,rfl⟩:=Int.eq_ofNat_of_zero_le h0
 refine List.ext_getElem (by simp) fun j h1 h2=>?_
 rw [List.getElem_set,AlG,AlG]
 by_cases e : i=j
 ·subst e; simp
 ·have : ¬ (j : Int)=(i : Int):=by omega
  simp [e,this]
theorem Aoc (N : Nat) (f : Int→Int) : tab (N+1) f=tab N f++[f (N : Int)]:=by
 simp [tab,List.range_succ]
theorem Aof (l : List Int) (i x y : Int) (h : i.toNat=l.length) : (l++[x]).set i.toNat y=l++[y]:=by
 rw [List.set_append_right _ _ (by omega),h]; simp
def pr (e : AaA) : Int×Int:=(e.From,e.To)
abbrev dE (E : List AaA) (S : Int→Bool):=Dist.dst (E.map pr) S
def inE (N : Nat) (E : List AaA) : Prop:=∀ e ∈ E,0≤e.From∧e.From<N∧0≤e.To∧e.To<N
def sS (s g : List Int) (v : Int) : Bool:=decide (v ∈ s) && !decide (v ∈ g)
def mid (E : List AaA) (S : Int→Bool) (r i : Nat) (v : Int) : Int :=
 if dE E S r v ≠ -1 then dE E S r v else if (E.take i).any (fun e=>e.To==v&&dE E S r e.From==(r : Int)) then (r : Int)+1 else -1
theorem Ao0 (E : List AaA) (S : Int→Bool) (r : Nat) (v : Int) : mid E S r 0 v=dE E S r v:=by
 unfold mid
 by_cases h : dE E S r v = -1 <;> simp [h]
theorem Aqf (E : List AaA) (S : Int→Bool) (r : Nat) (v : Int) : mid E S r E.length v=dE E S (r+1) v:=by
 unfold mid
 rw [List.take_length]
 show _=Dist.dst (E.map pr) S (r+1) v
 rw [Dist.dst,List.any_map]; rfl
theorem AjW (E : List AaA) (S : Int→Bool) (r i : Nat) (hi : i<E.length) (v : Int) : mid E S r (i+1) v=if dE E S r v ≠ -1 then dE E S r v else if (E.take i).any (fun e=>e.To==v&&dE E S r e.From==(r : Int))||(E[i].To==v&&dE E S r E[i].From==(r : Int)) then (r : Int)+1 else -1:=by
 unfold mid
 rw [List.take_succ_eq_append_getElem hi,List.any_append]; simp
theorem Apf (k N : Nat) (E : List AaA) (S : Int→Bool) (kb : Int→List Int→Option (List Int)) (hE : inE N E) (h9 : E.length≤1000000) (r : Nat) (hr : r≤1000000) : ∀ (m i n : Nat),i+m=E.length→m<n →
 Aan.L4 k E (r : Int) kb n (i : Int) (tab N (mid E S r i))=kb ((r+1 : Nat) : Int) (tab N (dE E S (r+1)))
 | 0,i,n+1,h,_=>by
  have : i=E.length:=by omega
  subst this
  rw [Aan.L4,if_neg (by omega),AdA r (by omega)]
  have e0 : tab N (mid E S r E.length)=tab N (dE E S (r+1)):=Ae8 fun v _ _=>Aqf E S r v
  rw [e0]
 | m+1,i,n+1,h,hn=>by
  have hi : i<E.length:=by omega
  have he:=hE E[i] (List.getElem_mem hi)
  have hrng : ∀ v,dE E S r v = -1∨(0≤dE E S r v∧dE E S r v≤r):=fun v=>Dist.dst_range r v
  have ih:=Apf k N E S kb hE h9 r hr m (i+1) n (by omega) (by omega)
  rw [Aan.L4,if_pos (by omega),Aae hi,AaT ⟨by omega,by simp; omega⟩,Af5 he.1 he.2.1]
  unfold Aan.J5
  simp only [AdA i (by omega)]
  have hm : ∀ v,mid E S r i v=(r : Int)↔dE E S r v=(r : Int):=by
   intro v; unfold mid
   have:=hrng v
   by_cases a : dE E S r v = -1
   ·simp only [a]; simp
    split <;> omega
   ·simp [a]
  by_cases h1 : dE E S r E[i].From=(r : Int)
  ·rw [if_pos ((hm _).2 h1),AaT ⟨by omega,by simp; omega⟩,Af5 he.2.2.1 he.2.2.2]
   by_cases h2 : mid E S r i E[i].To = -1
   ·rw [if_pos h2,AaT ⟨by omega,by simp; omega⟩,Ap5 he.2.2.1,AdA r (by omega),← ih]
    congr 1
    refine Ae8 fun v _ _=>?_
    rw [AjW E S r i hi,h1]
    by_cases e : v=E[i].To
    ·subst e
     rw [if_pos rfl]
     unfold mid at h2
     by_cases a : dE E S r E[i].To = -1
     ·simp [a]
     ·simp [a] at h2
    ·rw [if_neg e]
     have e' : (E[i].To==v)=false:=by simpa using fun q=>e q.symm
     unfold mid; rw [e']; simp
   ·rw [if_neg h2,← ih]
    congr 1
    refine Ae8 fun v _ _=>?_
    rw [AjW E S r i hi,h1]
    unfold mid at h2 ⊢
    by_cases a : dE E S r v = -1
    ·by_cases e : E[i].To=v
     ·subst e
      cases hB : (E.take i).any (fun e=>e.To==E[i].To&&dE E S r e.From==(r : Int)) with
      | false=>rw [hB] at h2; simp [a] at h2
      | true=>simp [a]
     ·simp [a,e]
    ·simp [a]
  ·rw [if_neg (fun q=>h1 ((hm _).1 q)),← ih]
   congr 1
   refine Ae8 fun v _ _=>?_
   rw [AjW E S r i hi]
   have e' : (dE E S r E[i].From==(r : Int))=false:=by simpa using h1
   unfold mid; rw [e']; simp
theorem Apg (k N : Nat) (E : List AaA) (S : Int→Bool) (hE : inE N E) (h9 : E.length≤1000000) (hk : E.length<k) (hN : N≤1000000) : ∀ (m r n : Nat),r+m=N→m<n →
 Aan.L3 k (N : Int) E n (r : Int) (tab N (dE E S r))=some (tab N (dE E S N))
 | 0,r,n+1,h,_=>by
  have : r=N:=by omega
  subst this
  rw [Aan.L3,if_neg (by omega)]
 | m+1,r,n+1,h,hn=>by
  rw [Aan.L3,if_pos (by omega)]
  have:=Apf k N E S (fun v10_ v11_=>Aan.L3 k (N : Int) E n v10_ v11_) hE h9 r (by omega) E.length 0 k (by omega) hk
  have e0 : tab N (mid E S r 0)=tab N (dE E S r):=Ae8 fun v _ _=>Ao0 E S r v
  rw [e0] at this
  rw [show (0 : Int)=((0 : Nat) : Int) from rfl,this]
  exact Apg k N E S hE h9 hk hN m (r+1) n (by omega) (by omega)
theorem Aph (k N : Nat) (E : List AaA) (g s : List Int) (hE : inE N E) (h9 : E.length≤1000000) (hk : E.length<k) (hkN : N<k) (hN : N≤1000000) (hg : g.length<k) (hg9 : g.length≤1000000) (hs : s.length<k) (hs9 : s.length≤1000000) : ∀ (m i n : Nat),i+m=N→m<n →
 Aan.L1 k (N : Int) E g s n (i : Int) (tab i (dE E (sS s g) 0))=some (tab N (dE E (sS s g) N))
 | 0,i,n+1,h,_=>by
  have : i=N:=by omega
  subst this
  rw [Aan.L1,if_neg (by omega)]
  exact Apg k i E (sS s g) hE h9 hk hN i 0 k (by omega) hkN
 | m+1,i,n+1,h,hn=>by
  have ih:=Aph k N E g s hE h9 hk hkN hN hg hg9 hs hs9 m (i+1) n (by omega) (by omega)
  rw [Aan.L1,if_pos (by omega),AaT (by simp; omega),AeB k s _ hs hs9,AaP]
  unfold Aan.J2
  simp only [AdA i (by omega),AeB k g _ hg hg9,AaP]
  rw [Aoc] at ih
  have hd : dE E (sS s g) 0 (i : Int)=if sS s g (i : Int) then 0 else -1:=rfl
  rw [hd] at ih
  unfold sS at ih ⊢
  by_cases a : (i : Int) ∈ s
  ·rw [if_pos (by simp [a])]
   by_cases b : (i : Int) ∈ g
   ·rw [if_neg (by simp [b])]
    simpa [a,b] using ih
   ·rw [if_pos (by simp [b]),AaT ⟨by omega,by simp⟩]
    rw [Aof _ _ _ _ (by simp)]
    simpa [a,b] using ih
  ·rw [if_neg (by simp [a])]
   simpa [a] using ih
theorem Ape (k N : Nat) (E : List AaA) (g s : List Int) (hE : inE N E) (h9 : E.length≤1000000) (hk : E.length<k) (hkN : N<k) (hN : N≤1000000) (hg : g.length<k) (hg9 : g.length≤1000000) (hs : s.length<k) (hs9 : s.length≤1000000) :
 Aan k (N : Int) E g s=some (tab N (dE E (sS s g) N)):=Aph k N E g s hE h9 hk hkN hN hg hg9 hs hs9 N 0 k (by omega) hkN
end Go.TF
set_option linter.unusedVariables false
set_option linter.unusedSimpArgs false
namespace Go.TF
open Go Go.Abs
theorem take_set {α : Type} {l : List α} {i : Nat} {x : α} (h : i<l.length) : (l.set i x).take (i+1)=l.take i++[x]:=by
 rw [List.set_eq_take_append_cons_drop,if_pos h]
 have hl : (l.take i).length=i:=by rw [List.length_take]; omega
 have : (l.take i++x::l.drop (i+1)).take (i+1)=((l.take i++[x])++l.drop (i+1)).take (l.take i++[x]).length:=by
  rw [List.length_append,hl]; simp
 rw [this,List.take_left']; rfl
theorem Aly {α : Type} {l : List α} {i n : Nat} {z : α} (h : i≤l.length) : (l.take i++List.replicate n z).take i=l.take i:=by
 rw [List.take_left']; rw [List.length_take]; omega
structure Del {α : Type} (p : α→Bool) (L l : List α) (i j : Nat) : Prop where
 len : l.length=L.length
 lt : i<j
 le : j≤L.length
 kept : l.take i=(L.take j).filter p
 rest : l.drop j=L.drop j
theorem Del.keep {α : Type} {p : α→Bool} {L l : List α} {i j : Nat} (D : Del p L l i j) (h : j<L.length) (hp : p L[j]=true) : Del p L (l.set i L[j]) (i+1) (j+1) where
 len:=by rw [List.length_set,D.len]
 lt:=by have:=D.lt; omega
 le:=h
 kept:=by
  have:=D.lt
  rw [take_set (by rw [D.len]; omega),D.kept,List.take_succ_eq_append_getElem h,List.filter_append]; simp [hp]
 rest:=by
  have:=D.lt
  rw [List.drop_set_of_lt (by omega)]
  have:=congrArg (List.drop 1) D.rest
  rwa [List.drop_drop,List.drop_drop] at this
theorem Del.pass {α : Type} {p : α→Bool} {L l : List α} {i j : Nat} (D : Del p L l i j) (h : j<L.length) (hp : p L[j]=false) : Del p L l i (j+1) where
 len:=D.len
 lt:=by have:=D.lt; omega
 le:=h
 kept:=by rw [D.kept,List.take_succ_eq_append_getElem h,List.filter_append]; simp [hp]
 rest:=by
  have:=congrArg (List.drop 1) D.rest
  rwa [List.drop_drop,List.drop_drop] at this
theorem Del.at {α : Type} {p : α→Bool} {L l : List α} {i j : Nat} (D : Del p L l i j) (h : j<l.length) : l[j]=L[j]'(by rw [← D.len]; exact h):=by
 have h' : j<L.length:=by rw [← D.len]; exact h
 have:=D.rest
 rw [List.drop_eq_getElem_cons h,List.drop_eq_getElem_cons h'] at this
 exact (List.cons.inj this).1
theorem Del.first {α : Type} {p : α→Bool} {L : List α} {i : Nat} (h : i<L.length) (h1 : ∀ x ∈ L.take i,p x=true) (h2 : p L[i]=false) : Del p L L i (i+1) where
 len:=rfl
 lt:=by omega
 le:=h
 kept:=by
  rw [List.take_succ_eq_append_getElem h,List.filter_append,List.filter_eq_self.2 h1]; simp [h2]
 rest:=rfl
def Avr (d : List Int) (y : Int) : Bool := !decide (0≤y∧y<d.length)||decide (0≤d.getD y.toNat 0)
def lvE (lv : Int) (e : AaA) : Bool:=decide (lv≤e.Level)
theorem Apm (k : Nat) (e : AaA) (lv : Int) : Acp k e.From e.To e.Level lv=some (!lvE lv e):=by
 unfold Acp lvE
 by_cases h : lv≤e.Level
 ·have : ¬ e.Level<lv:=by omega
  simp [h,this]
 ·have : e.Level<lv:=by omega
  simp [h,this]
theorem Akk (k : Nat) (L : List AaA) (lv : Int) (h9 : L.length≤1000000) : ∀ (m i n : Nat),i+m=L.length→m<n→(∀ x ∈ L.take i,lvE lv x=true)→∃ r,AaY.L1 k L lv n (i : Int)=some r∧((r = -1∧∀ x ∈ L,lvE lv x=true)∨∃ j : Nat,∃ h : j<L.length,r=(j : Int)∧lvE lv L[j]=false∧∀ x ∈ L.take j,lvE lv x=true)
 | 0,i,n+1,h,_,hp=>by
  rw [AaY.L1,if_neg (by omega)]
  rw [List.take_of_length_le (by omega)] at hp
  exact ⟨_,rfl,.inl ⟨rfl,hp⟩⟩
 | m+1,i,n+1,h,hn,hp=>by
  have hi : i<L.length:=by omega
  rw [AaY.L1,if_pos (by omega),Aae hi,Apm,AaP]
  by_cases e : lvE lv L[i]=true
  ·rw [if_neg (by simp [e]),AdA i (by omega)]
   refine Akk k L lv h9 m (i+1) n (by omega) (by omega) fun x hx=>?_
   rw [List.take_succ_eq_append_getElem hi,List.mem_append] at hx
   rcases hx with hx | hx
   ·exact hp x hx
   ·simp only [List.mem_singleton] at hx; subst hx; exact e
  ·rw [if_pos (by simpa using e)]; exact ⟨_,rfl,.inr ⟨i,hi,rfl,by simpa using e,hp⟩⟩
theorem AiG (k : Nat) (L : List AaA) (lv : Int) (h9 : L.length≤1000000) : ∀ (m j i n : Nat) (l : List AaA),j+m=L.length→m<n→Del (lvE lv) L l i j→AaJ.L1 k lv n (i : Int) (j : Int) l=some (L.filter (lvE lv))
 | 0,j,i,n+1,l,h,_,D=>by
  have h1:=D.len; have h2:=D.lt; have h3:=D.le
  rw [AaJ.L1,if_neg (by omega),AaT (by omega),AaT (by omega),Af4,AaT (by simp; omega)]
  rw [show ((i : Int)).toNat=i by omega,Aly (by omega),D.kept,List.take_of_length_le (by omega)]
 | m+1,j,i,n+1,l,h,hn,D=>by
  have h1:=D.len; have h2:=D.lt; have h3:=D.le
  have hj : j<l.length:=by omega
  have hi : i<l.length:=by omega
  have hj' : j<L.length:=by omega
  rw [AaJ.L1,if_pos (by omega),Aae hj,Apm,AaP,D.at hj]
  unfold AaJ.J2
  simp only [AdA j (by omega),AdA i (by omega)]
  by_cases e : lvE lv L[j]=true
  ·rw [if_pos (by simp [e]),Aae hi,show ((i : Int)).toNat=i by omega]
   exact AiG k L lv h9 m (j+1) (i+1) n _ (by omega) (by omega) (D.keep hj' e)
  ·rw [if_neg (by simpa using e)]
   exact AiG k L lv h9 m (j+1) i n _ (by omega) (by omega) (D.pass hj' (by simpa using e))
theorem Aqv (k : Nat) (L : List AaA) (lv : Int) (hk : L.length<k) (h9 : L.length≤1000000) : AaJ k L lv=some (L.filter (lvE lv)):=by
 unfold AaJ AaY
 obtain ⟨r,e,c⟩:=Akk k L lv h9 L.length 0 k (by omega) hk (by simp)
 rw [show (0 : Int)=((0 : Nat) : Int) from rfl,e,AaP]
 rcases c with ⟨rfl,c⟩ | ⟨j,hj,rfl,c1,c2⟩
 ·rw [if_pos rfl,List.filter_eq_self.2 c]
 ·rw [if_neg (by omega),AdA j (by omega)]
  exact AiG k L lv h9 (L.length-(j+1)) (j+1) j k L (by omega) (by omega) (Del.first hj c2 c1)
theorem Ann (k : Nat) (N : Int) (E : List AaA) (g : List Int) (lv : Int) (hk : E.length<k) (h9 : E.length≤1000000) (hg9 : g.length≤1000000) : AdJ k N E g lv=some (N,E.filter (lvE lv),g):=by
 unfold AdJ Adb Abe AbS
 rw [AaT (by omega),AaP,AaT (by omega),AaP,Ado,Aqv k E lv hk h9,AaP]
theorem Af0 (k : Nat) (E : List AaA) (lv N : Int) (g : List Int) (h9 : E.length≤1000000) : ∀ (m i n : Nat) (acc : List AaA),i+m=E.length→m<n→acc=(E.take i).filter (lvE lv)→Aa7.L1 k E lv N g n (i : Int) acc=some (N,E.filter (lvE lv),g)
 | 0,i,n+1,acc,h,_,ha=>by
  rw [Aa7.L1,if_neg (by omega),ha,List.take_of_length_le (by omega)]
 | m+1,i,n+1,acc,h,hn,ha=>by
  have hi : i<E.length:=by omega
  have hl : acc.length≤i:=by rw [ha]; exact Nat.le_trans (List.length_filter_le _ _) (by rw [List.length_take]; omega)
  have ht : (E.take (i+1)).filter (lvE lv)=acc++[E[i]].filter (lvE lv):=by rw [List.take_succ_eq_append_getElem hi,List.filter_append,ha]
  rw [Aa7.L1,if_pos (by omega),Aae hi]
  unfold Aa7.J2
  simp only [AdA i (by omega)]
  by_cases e : lv≤E[i].Level
  ·rw [if_pos e,AaT (by simp; omega)]
   exact Af0 k E lv N g h9 m (i+1) n _ (by omega) (by omega) (by rw [ht]; simp [lvE,e])
  ·rw [if_neg e]
   exact Af0 k E lv N g h9 m (i+1) n _ (by omega) (by omega) (by rw [ht]; simp [lvE,e])
theorem Aho (k : Nat) (N : Int) (E : List AaA) (g : List Int) (lv : Int) (hk : E.length<k) (h9 : E.length≤1000000) (hg9 : g.length≤1000000) : Aa7 k N E g lv=some (N,E.filter (lvE lv),g):=by
 unfold Aa7 AcQ
 rw [AaT (by omega),AaT (by omega),Ado]
 exact Af0 k E lv N g h9 E.length 0 k [] (by omega) hk (by simp)
end Go.TF
set_option linter.unusedVariables false
set_option linter.unusedSimpArgs false
namespace Go.TF
open Go Go.Abs
def ApV (a b : List Int) : Prop:=a.length=b.length∧∀ y,y ∈ a↔y ∈ b
theorem ApV.trans {a b c : List Int} (h : ApV a b) (h2 : ApV b c) : ApV a c:=⟨h.1.trans h2.1,fun y=>(h.2 y).trans (h2.2 y)⟩
theorem Aqi (k : Nat) (a b : Int) : Adn k a b=some (decide (a<b)):=by
 unfold Adn AdK; simp
theorem AuL : ∀ m : Fin 13,(Acn 0 (IntKind.wrap .u64 ((m.val : Nat) : Int))).isSome=true:=by decide
def outs (E : List AaA) (x : Int) : List Int:=(E.filter fun e=>e.From==x).map (·.To)
theorem AdG {E : List AaA} {x y : Int} : y ∈ outs E x↔∃ e ∈ E,e.From=x∧e.To=y:=by
 unfold outs
 simp only [List.mem_map,List.mem_filter,beq_iff_eq]
 constructor
 ·rintro ⟨e,⟨h1,h2⟩,h3⟩; exact ⟨e,h1,h2,h3⟩
 ·rintro ⟨e,h1,h2,h3⟩; exact ⟨e,⟨h1,h2⟩,h3⟩
def whF (p : Int→Bool) (i : Nat) : List Int:=((List.range i).filter fun (v : Nat)=>p (v : Int)).map fun (v : Nat)=>(v : Int)
def Av0 (f0 : Int→Int) (F : List Int) (r : Int) (i : Nat) (v : Int) : Int:=if v ∈ F.take i then r else f0 v
structure Nxt (E : List AaA) (F : List Int) (i : Nat) (acc : List Int) : Prop where
 mem : ∀ y,y ∈ acc↔∃ x ∈ F.take i,y ∈ outs E x
 len : acc.length≤(E.filter fun e=>decide (e.From ∈ F.take i)).length
def frF (E : List AaA) (S : Int→Bool) (r : Nat) (v : Int) : Int:=if dE E S r v=(r : Int) then -1 else dE E S r v
end Go.TF
set_option linter.unusedVariables false
set_option linter.unusedSimpArgs false
namespace Go.TF
open Go Go.Abs
def ofC (t : List Int) (d : Int) : Int:=if d<0 then 0 else if d<t.length then t.getD d.toNat 0 else 1
structure GV (N : Nat) (E : List AaA) (g : List Int) : Prop where
 pos : 1≤N
 le : N≤12
 ok : okG N E g=true
theorem GV.inE {N : Nat} {E : List AaA} {g : List Int} (h : GV N E g) : inE N E:=by
 intro e he
 have:=(AjT _ _ _).1 (((AdR _ _ _).1 h.ok).2.2.1 e he)
 exact ⟨this.1,this.2.1,this.2.2.1,this.2.2.2.1⟩
theorem GV.len {N : Nat} {E : List AaA} {g : List Int} (h : GV N E g) : E.length≤500:=((AdR _ _ _).1 h.ok).1.2.2
theorem GV.glen {N : Nat} {E : List AaA} {g : List Int} (h : GV N E g) : g.length≤12:=by
 have h1:=((AdR _ _ _).1 h.ok).2.1
 have:=Ag6 g 0 N h1.1 h1.2 (by omega)
 have:=h.le; omega
theorem AhQ : ∀ (E : List AaA) (x : Int),E.Pairwise (fun a b=>bef a b=true)→(outs E x).Pairwise (· < ·)
 | [],_,_=>by simp [outs]
 | e::E,x,h=>by
  rw [List.pairwise_cons] at h
  have ih:=AhQ E x h.2
  by_cases q : e.From=x
  ·have : outs (e::E) x=e.To::outs E x:=by unfold outs; simp [q]
   rw [this,List.pairwise_cons]
   refine ⟨fun y hy=>?_,ih⟩
   obtain ⟨e',h1,h2,h3⟩:=AdG.1 hy
   have:=h.1 e' h1
   unfold bef at this; rw [decide_eq_true_eq] at this; omega
  ·have : outs (e::E) x=outs E x:=by unfold outs; simp [q]
   rw [this]; exact ih
theorem GV.outs {N : Nat} {E : List AaA} {g : List Int} (h : GV N E g) (x : Int) : (outs E x).length≤12:=by
 have h1:=AhQ E x ((AdR _ _ _).1 h.ok).2.2.2
 have:=Ag6 (Go.TF.outs E x) 0 N (fun y hy=>by
  obtain ⟨e,q1,_,q3⟩:=AdG.1 hy
  have:=h.inE e q1
  omega) h1 (by omega)
 have:=h.le; omega
theorem AlN (E : List AaA) (p : AaA→Bool) (x : Int) : (outs (E.filter p) x).length≤(outs E x).length:=by
 unfold outs
 rw [List.length_map,List.length_map]
 exact (List.filter_sublist.filter _).length_le
def Av2 (N : Nat) (E : List AaA) (g s t : List Int) (lv : Int) : List Int:=tab N fun v=>ofC t (dE (E.filter (lvE lv)) (sS s g) N v)
def mx0 (a : Int) : Int:=if 0<a then a else 0
def AvY (Ev : List AaA) (s ks : List Int) (c : Int→Int) (x : Int) : Int :=
 if x ∈ ks then (if x ∈ s then c x else 0) else if (outs Ev x).any (fun y=>decide (y ∈ ks)) then mx0 (c x-1) else 0
def Auq (f : Int→Int) : Nat→Int
 | 0=>0
 | n+1=>Auq f n+f (n : Int)
def cF (N : Nat) (E : List AaA) (g s t : List Int) (lv v : Int) : Int:=ofC t (dE (E.filter (lvE lv)) (sS s g) N v)
def Av3 (N : Nat) (E : List AaA) (g s t : List Int) (lv : Int) (ks : List Int) : Int:=Auq (AvY (E.filter (lvE lv)) s ks (cF N E g s t lv)) N
end Go.TF
set_option linter.unusedVariables false
set_option linter.unusedSimpArgs false
namespace Go.TF
open Go Go.Abs
def tbF : Option Int→List Int→Bool
 | _,[]=>true
 | p,x::l=>decide (1≤x)&&decide (x≤0x3e8)&&(p.all fun y=>decide (x≤y))&&tbF (some x) l
def Avq (N : Int) (s t : List Int) (lv : Int) : Bool:=decide (s.length≠0∧1≤t.length∧t.length≤8∧1≤lv∧lv≤3)&&(setF N none s&&tbF none t)
theorem Ail (k : Nat) (E : List AaA) (f t : Int) (h9 : E.length≤1000000) : ∀ (m i n : Nat),i+m=E.length→m<n→(∀ e ∈ E.take i,bef e ⟨f,t,0⟩=true) →
 ∃ j : Nat,∃ b : Bool,AbG.L2 k E f t n (i : Int)=some ((j : Int),b)∧j≤E.length∧(∀ e ∈ E.take j,bef e ⟨f,t,0⟩=true)∧(∀ h : j<E.length,bef E[j] ⟨f,t,0⟩=false∧(b=false→¬ (E[j].From=f∧E[j].To=t)))
 | 0,i,n+1,h,_,ha=>by
  rw [AbG.L2,if_neg (by omega)]
  unfold AbG.J1
  rw [if_neg (by omega)]
  exact ⟨i,false,rfl,by omega,ha,fun h=>by omega⟩
 | m+1,i,n+1,h,hn,ha=>by
  have hi : i<E.length:=by omega
  rw [AbG.L2,if_pos (by omega),Aae hi,Akz,AaP]
  by_cases e : E[i].From<f∨(E[i].From=f∧E[i].To<t)
  ·rw [if_pos (by simpa using e),AdA i (by omega)]
   refine Ail k E f t h9 m (i+1) n (by omega) (by omega) fun x hx=>?_
   rw [List.take_succ_eq_append_getElem hi,List.mem_append,List.mem_singleton] at hx
   rcases hx with hx | rfl
   ·exact ha x hx
   ·unfold bef; rw [decide_eq_true_eq]; exact e
  ·rw [if_neg (by rw [decide_eq_true_eq]; exact e)]
   have hb : bef E[i] ⟨f,t,0⟩=false:=by unfold bef; rw [decide_eq_false_iff_not]; exact e
   unfold AbG.J1
   rw [if_pos (by omega),Aae hi]
   by_cases q : E[i].From=f
   ·rw [if_pos q]
    refine ⟨i,_,rfl,by omega,ha,fun _=>⟨hb,fun z=>?_⟩⟩
    intro z2
    simp [z2.2] at z
   ·rw [if_neg q]
    exact ⟨i,_,rfl,by omega,ha,fun _=>⟨hb,fun _ z=>q z.1⟩⟩
theorem Ap1 (k : Nat) (N : Int) (E : List AaA) (g : List Int) (f t lv : Int) (hk : 500<k) (ok : okG N E g=true) : ∃ N' E' g' e,Adf k N E g f t lv=some (N',E',g',e) ∧
 (e=0→N'=N∧g'=g∧okG N E' g=true∧(∀ x,x ∈ E'↔x ∈ E∨x=⟨f,t,lv⟩)):=by
 obtain ⟨⟨o1,o2,o3⟩,⟨o4,o5⟩,o6,o7⟩:=(AdR N E g).1 ok
 have hgl : (g.length : Int)≤N:=by have:=Ag6 g 0 N o4 o5 o1; omega
 unfold Adf
 rw [AnF k N E g hk (by omega) (by omega),AaP,if_pos ok,if_neg (by simp)]
 unfold AbG
 obtain ⟨j,b,e1,j1,j2,j3⟩:=Ail k E f t (by omega) E.length 0 k (by omega) (by omega) (by simp)
 rw [show AbG.L2 k E f t k 0=some ((j : Int),b) from e1,AbK]
 have bad : ∀ c : Int,c≠0→∃ N' E' g' e,some ((0 : Int),([] : List AaA),([] : List Int),c)=some (N',E',g',e)∧(e=0→N'=N∧g'=g∧okG N E' g=true∧(∀ x,x ∈ E'↔x ∈ E∨x=⟨f,t,lv⟩)) :=
  fun c hc=>⟨_,_,_,_,rfl,fun h=>absurd h hc⟩
 by_cases a1 : f<0
 ·rw [if_pos a1]; exact bad 4 (by omega)
 rw [if_neg a1]
 by_cases a2 : N≤f
 ·rw [if_pos a2]; exact bad 4 (by omega)
 rw [if_neg a2]
 by_cases a3 : t<0
 ·rw [if_pos a3]; exact bad 4 (by omega)
 rw [if_neg a3]
 by_cases a4 : N≤t
 ·rw [if_pos a4]; exact bad 4 (by omega)
 rw [if_neg a4]
 by_cases a5 : f=t
 ·rw [if_pos a5]; exact bad 4 (by omega)
 rw [if_neg a5,AeB k g _ (by omega) (by omega),AaP]
 by_cases a6 : f ∈ g
 ·rw [if_pos (by simpa using a6)]; exact bad 4 (by omega)
 rw [if_neg (by simpa using a6),AeB k g _ (by omega) (by omega),AaP]
 by_cases a7 : t ∈ g
 ·rw [if_pos (by simpa using a7)]; exact bad 4 (by omega)
 rw [if_neg (by simpa using a7)]
 by_cases a8 : lv<1
 ·rw [if_pos a8]; exact bad 2 (by omega)
 rw [if_neg a8]
 by_cases a9 : 3<lv
 ·rw [if_pos a9]; exact bad 2 (by omega)
 rw [if_neg a9]
 by_cases b0 : b=true
 ·rw [if_pos b0]; exact bad 19 (by omega)
 rw [if_neg b0]
 by_cases b1 : (E.length : Int)=500
 ·rw [if_pos b1]; exact bad 3 (by omega)
 rw [if_neg b1]
 unfold AcQ
 have hlt : (E.take j).length≤500:=by rw [List.length_take]; omega
 have hld : (E.drop j).length≤500:=by rw [List.length_drop]; omega
 rw [AaT (by omega),AaT (by omega),Ado,show ((j : Int)).toNat=j by omega,AaT (by omega),AaT (by omega),AaT (by simp only [List.length_cons,List.length_nil]; omega),AaT (by omega),AaT (by simp only [List.length_append,List.length_cons,List.length_nil]; omega)]
 refine ⟨_,_,_,_,rfl,fun _=>⟨rfl,rfl,?_,fun x=>?_⟩⟩
 ·rw [AdR]
  simp only [Bool.not_eq_true] at b0
  refine ⟨⟨o1,o2,by simp only [List.length_append,List.length_cons,List.length_nil,List.length_take,List.length_drop]; omega⟩,⟨o4,o5⟩,fun x hx=>?_,?_⟩
  ·rw [List.mem_append,List.mem_append,List.mem_singleton] at hx
   rcases hx with (hx | rfl) | hx
   ·exact o6 x (List.mem_of_mem_take hx)
   ·rw [AjT]
    show 0≤f∧f<N∧0≤t∧t<N∧f≠t∧1≤lv∧lv≤3∧f ∉ g∧t ∉ g
    exact ⟨by omega,by omega,by omega,by omega,a5,by omega,by omega,a6,a7⟩
   ·exact o6 x (List.mem_of_mem_drop hx)
  ·have split : E.take j++E.drop j=E:=List.take_append_drop j E
   rw [← split,List.pairwise_append] at o7
   obtain ⟨q1,q2,q3⟩:=o7
   have hafter : ∀ x ∈ E.drop j,bef ⟨f,t,lv⟩ x=true:=by
    intro x hx
    have hj : j<E.length:=by
     by_cases z : j<E.length
     ·exact z
     ·rw [List.drop_eq_nil_of_le (by omega)] at hx; simp at hx
    obtain ⟨z1,z2⟩:=j3 hj
    have z2:=z2 b0
    have first : bef ⟨f,t,lv⟩ E[j]=true:=by
     unfold bef at z1 ⊢; rw [decide_eq_false_iff_not] at z1; rw [decide_eq_true_eq]
     simp only at z1 ⊢
     omega
    rw [List.drop_eq_getElem_cons hj] at hx q2
    rw [List.pairwise_cons] at q2
    rcases List.mem_cons.1 hx with rfl | hx
    ·exact first
    ·exact Ak0 first (q2.1 x hx)
   rw [List.append_assoc,List.singleton_append,List.pairwise_append,List.pairwise_cons]
   refine ⟨q1,⟨hafter,q2⟩,fun a ha c hc=>?_⟩
   rcases List.mem_cons.1 hc with rfl | hc
   ·exact j2 a ha
   ·exact q3 a ha c hc
 ·have : x ∈ E↔x ∈ E.take j∨x ∈ E.drop j:=by rw [← List.mem_append,List.take_append_drop]
  rw [List.mem_append,List.mem_append,List.mem_singleton,this]
  constructor
  ·rintro ((h | h) | h)
   ·exact .inl (.inl h)
   ·exact .inr h
   ·exact .inl (.inr h)
  ·rintro ((h | h) | h)
   ·exact .inl (.inl h)
   ·exact .inr h
   ·exact .inl (.inr h)
theorem Ag2 (l : List Int) (hl : l.length≤1000000000) (N : Int) (hN : 2≤N∧N≤9) (g : List Int) : ∀ (m n : Nat) (p : Int) (E : List AaA),m<n→m≤1000000000→Pos p→okG N E g=true →
 ∃ E' q,AaZ.L3 1000000000 l n (m : Int) p N E g=some (N,E',g,q)∧Pos q∧okG N E' g=true
 | 0,n+1,p,E,_,_,hp,ok=>by
  rw [AaZ.L3,if_neg (by omega)]
  exact ⟨E,p,rfl,hp,ok⟩
 | m+1,n+1,p,E,hn,hm,hp,ok=>by
  rw [AaZ.L3,if_pos (by omega)]
  obtain ⟨a,q,e,hq,ha⟩:=AeW 1000000000 l p N hl hp
  obtain ⟨a2,q2,e2,hq2,ha2⟩:=AeW 1000000000 l q N hl hq
  obtain ⟨a3,q3,e3,hq3,ha3⟩:=AeW 1000000000 l q2 3 hl hq2
  rw [e,AbK,e2,AbK,e3,AbK]
  obtain ⟨N',E',g',r,h1,h2⟩:=Ap1 1000000000 N E g a a2 (IntKind.wrap .i64 (1+a3)) (by omega) ok
  rw [h1,Akx]
  unfold AaZ.J4
  rw [ArN m (by omega)]
  by_cases hr : r=0
  ·obtain ⟨rfl,rfl,k1,_⟩:=h2 hr
   rw [if_pos hr]
   exact Ag2 l hl N' hN g' m n q3 E' (by omega) (by omega) hq3 k1
  ·rw [if_neg hr]
   exact Ag2 l hl N hN g m n q3 E (by omega) (by omega) hq3 ok
theorem ApZ (l : List Int) (p : Int) (hl : l.length≤1000000000) (hp : Pos p) : ∃ N E g q,AaZ 1000000000 l p=some (((N : Nat) : Int),E,g,q)∧Pos q∧2≤N∧N≤9∧okG (N : Int) E g=true:=by
 unfold AaZ
 obtain ⟨a,q,e,hq,ha⟩:=AeW 1000000000 l p 8 hl hp
 have ha:=ha (by omega) (by omega)
 rw [e,AbK]
 have key : ∀ N : Int,2≤N∧N≤9→∃ N' E g q',AaZ.J1 1000000000 l q N=some (((N' : Nat) : Int),E,g,q')∧Pos q'∧2≤N'∧N'≤9∧okG (N' : Int) E g=true:=by
  intro N hN
  have fin : ∀ (p2 : Int) (g : List Int),Pos p2→okG N [] g=true→∃ N' E g' q',AaZ.J2 1000000000 l N p2 g=some (((N' : Nat) : Int),E,g',q')∧Pos q'∧2≤N'∧N'≤9∧okG (N' : Int) E g'=true:=by
   intro p2 g hp2 ok
   unfold AaZ.J2
   obtain ⟨b,q2,e2,hq2,hb⟩:=AeW 1000000000 l p2 23 hl hp2
   have hb:=hb (by omega) (by omega)
   obtain ⟨m,rfl⟩:=Int.eq_ofNat_of_zero_le hb.1
   rw [e2,AbK]
   obtain ⟨E',q3,h1,h2,h3⟩:=Ag2 l hl N hN g m 1000000000 q2 [] (by omega) (by omega) hq2 ok
   obtain ⟨n,rfl⟩:=Int.eq_ofNat_of_zero_le (show 0≤N by omega)
   exact ⟨n,E',g,q3,h1,h2,by omega,by omega,h3⟩
  unfold AaZ.J1 Ad1
  obtain ⟨b,q2,e2,hq2,hb⟩:=AeW 1000000000 l q 8 hl hq
  rw [e2,AbK,AbK]
  have okn : okG N [] []=true:=by rw [AdR]; simp; omega
  split
  ·obtain ⟨c,q3,e3,hq3,hc⟩:=AeW 1000000000 l q2 N hl hq2
   have hc:=hc (by omega) (by omega)
   rw [e3,AbK]
   exact fin q3 [c] hq3 (by rw [AdR]; simp; omega)
  ·exact fin q2 [] hq2 okn
 split
 ·exact key 4 (by omega)
 ·rw [w64 (by omega) (by omega)]; exact key (2+a) (by omega)
end Go.TF
set_option linter.unusedVariables false
set_option linter.unusedSimpArgs false
namespace Go.TF
open Go Go.Abs
theorem AtA (k : Nat) (l : List Int) (p : Int) (xs : List Int) (hl : l.length≤1000000000) (hp : Pos p) (h1 : 1≤xs.length) (h9 : xs.length≤1000000000) : ∃ a q,Ac6 k l p xs=some (a,q)∧Pos q∧a ∈ xs:=by
 unfold Ac6
 obtain ⟨a,q,e,hq,ha⟩:=AeW k l p (xs.length : Int) hl hp
 have ha:=ha (by omega) (by omega)
 obtain ⟨j,rfl⟩:=Int.eq_ofNat_of_zero_le ha.1
 rw [e,AbK,Aae (by omega)]
 exact ⟨_,_,rfl,hq,List.getElem_mem _⟩
structure PV (N : Nat) (s t : List Int) (lv : Int) : Prop where
 s0 : s≠[]
 sl : s.length≤2
 sr : ∀ x ∈ s,0≤x∧x<N
 sa : s.Pairwise (· < ·)
 t0 : 1≤t.length
 t9 : t.length≤4
 tr : ∀ x ∈ t,1≤x∧x≤7
 td : t.Pairwise (fun a b=>b≤a)
 l1 : 1≤lv
 l3 : lv≤3
end Go.TF
set_option linter.unusedVariables false
set_option linter.unusedSimpArgs false
namespace Go.TF
open Go Go.Abs
def Ato (bad : List Int) (c : Int) : List Int→Int
 | []=>0
 | x::l=>(if x ∈ bad then c else 0)+Ato bad c l
end Go.TF
set_option linter.unusedVariables false
set_option linter.unusedSimpArgs false
namespace Go.TF
open Go Go.Abs
structure GW (N : Nat) (E : List AaA) (g : List Int) : Prop where
 pos : 1≤N
 le : N≤64
 ok : okG N E g=true
 o12 : ∀ x,(outs E x).length≤12
theorem GW.inE {N : Nat} {E : List AaA} {g : List Int} (h : GW N E g) : inE N E:=by
 intro e he
 have:=(AjT _ _ _).1 (((AdR _ _ _).1 h.ok).2.2.1 e he)
 exact ⟨this.1,this.2.1,this.2.2.1,this.2.2.2.1⟩
theorem GW.len {N : Nat} {E : List AaA} {g : List Int} (h : GW N E g) : E.length≤500:=((AdR _ _ _).1 h.ok).1.2.2
theorem GW.glen {N : Nat} {E : List AaA} {g : List Int} (h : GW N E g) : g.length≤64:=by
 have h1:=((AdR _ _ _).1 h.ok).2.1
 have:=Ag6 g 0 N h1.1 h1.2 (by omega)
 have:=h.le; omega
def arS (c : Int→Int) (x : Int) : AaE:=⟨0,2+2*x,c x⟩
def arI (c : Int→Int) (x : Int) : AaE:=⟨2+2*x,3+2*x,c x-1⟩
def arT (x : Int) : AaE:=⟨2+2*x,1,1⟩
def arE (e : AaA) : AaE:=⟨3+2*e.From,2+2*e.To,64⟩
def Ala (N : Nat) : List Int:=(List.range N).map fun (v : Nat)=>(v : Int)
def Aui (N : Nat) (P : Int→Bool) (c : Int→Int) (s ks : List Int) (Ev : List AaA) : List AaE :=
 (s.filter P).map (arS c)++((Ala N).filter P).map (arI c)++(ks.filter P).map arT++(Ev.filter fun e=>P e.From).map arE
theorem Aoy (N : Nat) : (Ala N).length=N:=by simp [Ala]
theorem Ao2 {N : Nat} {x : Int} : x ∈ Ala N↔0≤x∧x<N:=by
 unfold Ala; simp only [List.mem_map,List.mem_range]
 constructor
 ·rintro ⟨a,h,rfl⟩; omega
 ·rintro ⟨h0,h1⟩; exact ⟨x.toNat,by omega,by omega⟩
section
variable (N : Nat) (P : Int→Bool) (c : Int→Int) (hN : N≤64)
include hN
end
def AvI (N : Nat) (E : List AaA) (g s : List Int) (lv v : Int) : Bool:=decide (0≤dE (E.filter (lvE lv)) (sS s g) N v)
def Avy (N : Nat) (E : List AaA) (g s t : List Int) (lv : Int) (ks : List Int) : List AaE:=Aui N (AvI N E g s lv) (cF N E g s t lv) s ks (E.filter (lvE lv))
end Go.TF
set_option linter.unusedVariables false
set_option linter.unusedSimpArgs false
namespace Go.TF
open Go Go.Abs
def AvX : List AaE→Int
 | []=>0
 | a::l=>(if a.From=0 then 1 else 0)+AvX l
def Arf : List AaE→Int
 | []=>0
 | a::l=>(if a.From≠0∧a.To=1 then 1 else 0)+Arf l
def AvV (N : Nat) (s ks : List Int) (c : Int→Int) (a : AaE) : Prop :=
 (∃ x,a=arS c x∧0≤x∧x<N∧x ∈ s∧0<c x)∨(∃ x,a=arI c x∧0≤x∧x<N∧0<c x)∨(∃ x,a=arT x∧0≤x∧x<N∧x ∈ ks∧0<c x) ∨
 (∃ e,a=arE e∧0≤e.From∧e.From<N∧0≤e.To∧e.To<N∧0<c e.From∧0<c e.To)
end Go.TF
namespace Go.TF.Mf
structure Arc where
 fr : Int
 to : Int
 cap : Int
def sm (A : List Arc) (f : List Int) (w : Arc→Int) : Int:=((A.zip f).map fun p=>w p.1*p.2).sum
def b2 (p : Prop) [Decidable p] : Int:=if p then 1 else 0
def sur (A : List Arc) (f : List Int) (v : Int) : Int:=sm A f fun a=>b2 (a.fr=v)-b2 (a.to=v)
theorem sm_nil (f : List Int) (w : Arc→Int) : sm [] f w=0:=rfl
theorem sm_nil' (A : List Arc) (w : Arc→Int) : sm A [] w=0:=by cases A <;> rfl
theorem sm_cons (a : Arc) (A : List Arc) (x : Int) (f : List Int) (w : Arc→Int) : sm (a::A) (x::f) w=w a*x+sm A f w:=by simp [sm]
theorem sm_congr {A : List Arc} {w w' : Arc→Int} (h : ∀ a ∈ A,w a=w' a) : ∀ f,sm A f w=sm A f w':=by
 induction A with
 | nil=>intro f; rfl
 | cons a A ih =>
  intro f; cases f with
  | nil=>rfl
  | cons x f=>rw [sm_cons,sm_cons,h a (by simp),ih (fun b hb=>h b (by simp [hb]))]
theorem sm_mul (A : List Arc) (c : Int) (w : Arc→Int) : ∀ f,sm A f (fun a=>c*w a)=c*sm A f w:=by
 induction A with
 | nil=>intro f; simp [sm]
 | cons a A ih =>
  intro f; cases f with
  | nil=>simp [sm]
  | cons x f=>rw [sm_cons,sm_cons,ih,Int.mul_add,Int.mul_assoc]
theorem sm_zero (A : List Arc) : ∀ f,sm A f (fun _=>0)=0:=by
 induction A with
 | nil=>intro f; rfl
 | cons a A ih =>
  intro f; cases f with
  | nil=>rfl
  | cons x f=>rw [sm_cons,ih]; simp
theorem sm_set (A : List Arc) (w : Arc→Int) (y : Int) : ∀ (f : List Int) (i : Nat) (h : i<A.length) (h' : i<f.length),sm A (f.set i (f[i]+y)) w=sm A f w+w A[i]*y:=by
 induction A with
 | nil=>intro f i h; cases h
 | cons a A ih =>
  intro f i h h'; cases f with
  | nil=>cases h'
  | cons x f=>cases i with
   | zero=>simp only [List.set_cons_zero,List.getElem_cons_zero,sm_cons,Int.mul_add]; omega
   | succ i=>simp only [List.set_cons_succ,List.getElem_cons_succ,sm_cons]; rw [ih f i (by simpa using h) (by simpa using h')]; omega
theorem sur_set (A : List Arc) (f : List Int) (v y : Int) (i : Nat) (h : i<A.length) (h' : i<f.length) : sur A (f.set i (f[i]+y)) v=sur A f v+(b2 (A[i].fr=v)-b2 (A[i].to=v))*y:=sm_set A _ y f i h h'
theorem Ae9 (φ : Int→Int) (u : Int) : ∀ n : Nat,((List.range n).map fun (v : Nat)=>φ (v : Int)*b2 (u=(v : Int))).sum=if 0≤u∧u<n then φ u else 0:=by
 intro n; induction n with
 | zero=>simp; omega
 | succ n ih =>
  rw [List.range_succ,List.map_append,List.sum_append,ih]
  simp only [List.map_cons,List.map_nil,List.sum_cons,List.sum_nil,b2]
  by_cases h : u=(n : Int)
  ·subst h; rw [if_neg (by omega),if_pos rfl,if_pos (by omega)]; simp
  ·rw [if_neg h]
   by_cases h' : 0≤u∧u<n
   ·rw [if_pos h',if_pos (by omega)]; simp
   ·rw [if_neg h',if_neg (by omega)]; simp
theorem Ahg {α : Type} (l : List α) (g h : α→Int) : (l.map fun x=>g x+h x).sum=(l.map g).sum+(l.map h).sum:=by
 induction l with
 | nil=>rfl
 | cons a l ih=>simp only [List.map_cons,List.sum_cons,ih]; omega
theorem AfA {α : Type} (l : List α) : (l.map fun _=>(0 : Int)).sum=0:=by
 induction l with
 | nil=>rfl
 | cons a l ih=>simp only [List.map_cons,List.sum_cons,ih]; rfl
theorem AjA {α : Type} (l : List α) (g h : α→Int) (e : ∀ x ∈ l,g x=h x) : (l.map g).sum=(l.map h).sum:=by rw [List.map_congr_left e]
theorem Ap7 (n : Nat) (φ : Int→Int) (A : List Arc) (hA : ∀ a ∈ A,0≤a.fr∧a.fr<n∧0≤a.to∧a.to<n) : ∀ f,((List.range n).map fun (v : Nat)=>φ (v : Int)*sur A f (v : Int)).sum=sm A f fun a=>φ a.fr-φ a.to:=by
 induction A with
 | nil=>intro f; simp [sur,sm_nil,AfA]
 | cons a A ih =>
  intro f; cases f with
  | nil=>simp [sur,sm_nil',AfA]
  | cons x f =>
   have ha:=hA a (by simp)
   rw [sm_cons,← ih (fun b hb=>hA b (by simp [hb])) f]
   have e : (fun (v : Nat)=>φ (v : Int)*sur (a::A) (x::f) (v : Int))=fun (v : Nat)=>(x*(φ (v : Int)*b2 (a.fr=(v : Int)))+(-x)*(φ (v : Int)*b2 (a.to=(v : Int))))+φ (v : Int)*sur A f (v : Int):=by
    funext v
    simp only [sur,sm_cons,Int.mul_add,Int.sub_mul,Int.mul_sub,Int.neg_mul]
    rw [Int.mul_comm x (φ _*_),Int.mul_comm x (φ _*_),Int.mul_assoc,Int.mul_assoc]; omega
   rw [e,Ahg,Ahg]
   have hm : ∀ (c : Int) (g : Nat→Int) (l : List Nat),(l.map fun v=>c*g v).sum=c*(l.map g).sum:=by
    intro c g l; induction l with
    | nil=>simp
    | cons b l ih=>simp only [List.map_cons,List.sum_cons,ih,Int.mul_add]
   rw [hm,hm,Ae9,Ae9,if_pos ⟨ha.1,ha.2.1⟩,if_pos ⟨ha.2.2.1,ha.2.2.2⟩,Int.sub_mul,Int.neg_mul,Int.mul_comm x,Int.mul_comm x]; omega
structure Net (n : Nat) (A : List Arc) : Prop where
 two : 2≤n
 rng : ∀ a ∈ A,0≤a.fr∧a.fr<n∧0≤a.to∧a.to<n
 src : ∀ a ∈ A,a.to≠0
 snk : ∀ a ∈ A,a.fr≠1
 cap : ∀ a ∈ A,0≤a.cap
structure Flow (n : Nat) (A : List Arc) (f : List Int) : Prop where
 len : f.length=A.length
 lo : ∀ (i : Nat) (h : i<f.length),0≤f[i]
 hi : ∀ (i : Nat) (h : i<f.length) (h' : i<A.length),f[i]≤A[i].cap
 zero : ∀ v : Int,v≠0→v≠1→sur A f v=0
def val (A : List Arc) (f : List Int) : Int:=sur A f 0
def capS (A : List Arc) (S : Int→Bool) : Int:=(A.map fun a=>b2 (S a.fr=true∧S a.to=false)*a.cap).sum
variable {n : Nat} {A : List Arc}
theorem val_side (hN : Net n A) {f : List Int} (hf : Flow n A f) (S : Int→Bool) (h0 : S 0=true) (h1 : S 1=false) : val A f=sm A f fun a=>b2 (S a.fr=true)-b2 (S a.to=true):=by
 have h:=Ap7 n (fun v=>b2 (S v=true)) A hN.rng f
 rw [← h]
 have h2:=hN.two
 obtain ⟨m,rfl⟩ : ∃ m,n=m+2:=⟨n-2,by omega⟩
 rw [List.range_succ_eq_map,List.range_succ_eq_map]
 simp only [List.map_cons,List.map_map,List.sum_cons]
 rw [AjA _ _ (fun _=>0),AfA]
 ·simp [b2,h0,h1,val]
 ·intro x _
  simp only [Function.comp]
  rw [hf.zero _ (by omega) (by omega)]; simp
theorem AqC (S : Int→Bool) : ∀ {A : List Arc} {f : List Int},f.length=A.length→(∀ (i : Nat) (h : i<f.length),0≤f[i])→(∀ (i : Nat) (h : i<f.length) (h' : i<A.length),f[i]≤A[i].cap)→(sm A f fun a=>b2 (S a.fr=true)-b2 (S a.to=true))≤capS A S:=by
 intro A; induction A with
 | nil=>intro f h _ _; simp [sm,capS]
 | cons a A ih =>
  intro f h hl hh; cases f with
  | nil=>cases h
  | cons x f =>
   have i1:=ih (f:=f) (by simpa using h) (fun i hi=>by have:=hl (i+1) (by simpa using hi); simpa using this) (fun i hi h'=>by have:=hh (i+1) (by simpa using hi) (by simpa using h'); simpa using this)
   have x0:=hl 0 (by simp); have xc:=hh 0 (by simp) (by simp)
   simp only [List.getElem_cons_zero] at x0 xc
   rw [sm_cons]; simp only [capS,List.map_cons,List.sum_cons] at i1 ⊢
   have : (b2 (S a.fr=true)-b2 (S a.to=true))*x≤b2 (S a.fr=true∧S a.to=false)*a.cap:=by
    cases hs : S a.fr <;> cases ht : S a.to <;> simp [b2] <;> omega
   omega
theorem val_le (hN : Net n A) {f : List Int} (hf : Flow n A f) (S : Int→Bool) (h0 : S 0=true) (h1 : S 1=false) : val A f≤capS A S:=by
 rw [val_side hN hf S h0 h1]; exact AqC S hf.len hf.lo hf.hi
def Closed (A : List Arc) (f : List Int) (S : Int→Bool) : Prop:=∀ (i : Nat) (h : i<A.length) (h' : i<f.length),(S A[i].fr=true→S A[i].to=false→f[i]=A[i].cap)∧(S A[i].to=true→S A[i].fr=false→f[i]=0)
theorem AqD (S : Int→Bool) : ∀ {A : List Arc} {f : List Int},f.length=A.length→Closed A f S→(sm A f fun a=>b2 (S a.fr=true)-b2 (S a.to=true))=capS A S:=by
 intro A; induction A with
 | nil=>intro f h _; simp [sm,capS]
 | cons a A ih =>
  intro f h hc; cases f with
  | nil=>cases h
  | cons x f =>
   have i1:=ih (f:=f) (by simpa using h) (fun i hi h'=>by have:=hc (i+1) (by simpa using hi) (by simpa using h'); simpa using this)
   have x0:=hc 0 (by simp) (by simp)
   simp only [List.getElem_cons_zero] at x0
   rw [sm_cons]; simp only [capS,List.map_cons,List.sum_cons] at i1 ⊢
   have : (b2 (S a.fr=true)-b2 (S a.to=true))*x=b2 (S a.fr=true∧S a.to=false)*a.cap:=by
    cases hs : S a.fr <;> cases ht : S a.to <;> simp [b2]
    ·exact x0.2 ht hs
    ·exact x0.1 hs ht
   omega
theorem AmQ (hN : Net n A) {f : List Int} (hf : Flow n A f) (S : Int→Bool) (h0 : S 0=true) (h1 : S 1=false) (hc : Closed A f S) : val A f=capS A S:=by
 rw [val_side hN hf S h0 h1]; exact AqD S hf.len hc
end Go.TF.Mf
namespace Go.TF.Mf
abbrev Step:=Nat×Bool
def arc (A : List Arc) (i : Nat) : Arc:=A.getD i ⟨0,0,0⟩
def stTo (A : List Arc) (s : Step) : Int:=if s.2 then (arc A s.1).fr else (arc A s.1).to
def stFr (A : List Arc) (s : Step) : Int:=if s.2 then (arc A s.1).to else (arc A s.1).fr
def room (A : List Arc) (f : List Int) (s : Step) : Int:=if s.2 then f.getD s.1 0 else (arc A s.1).cap-f.getD s.1 0
def ApY (A : List Arc) : Int→List Step→Int→Prop
 | s,[],t=>s=t
 | s,st::l,t=>st.1<A.length∧stTo A st=t∧ApY A s l (stFr A st)
def push1 (f : List Int) (x : Int) (s : Step) : List Int:=f.set s.1 (f.getD s.1 0+if s.2 then -x else x)
def push (f : List Int) (x : Int) (l : List Step) : List Int:=l.foldl (fun g s=>push1 g x s) f
variable {A : List Arc}
theorem push1_len (f : List Int) (x : Int) (s : Step) : (push1 f x s).length=f.length:=by simp [push1]
theorem push_len (x : Int) : ∀ (l : List Step) (f : List Int),(push f x l).length=f.length:=by
 intro l; induction l with
 | nil=>intro f; rfl
 | cons s l ih=>intro f; rw [show push f x (s::l)=push (push1 f x s) x l from rfl,ih,push1_len]
theorem Amw (f : List Int) (x v : Int) (s : Step) (h : s.1<A.length) (h' : f.length=A.length) : sur A (push1 f x s) v=sur A f v+(b2 (stFr A s=v)-b2 (stTo A s=v))*x:=by
 have:=sur_set A f v (if s.2 then -x else x) s.1 h (by omega)
 have e : f.getD s.1 0=f[s.1]'(by omega):=by rw [List.getD_eq_getElem?_getD,List.getElem?_eq_getElem (by omega)]; rfl
 have e2 : arc A s.1=A[s.1]:=by unfold arc; rw [List.getD_eq_getElem?_getD,List.getElem?_eq_getElem h]; rfl
 rw [push1,e,this]
 cases hb : s.2 <;> simp [stFr,stTo,hb,e2,Int.sub_mul,Int.mul_neg] <;> omega
theorem Al0 (x v : Int) : ∀ (l : List Step) (f : List Int) (s t : Int),f.length=A.length→ApY A s l t→sur A (push f x l) v=sur A f v+(b2 (s=v)-b2 (t=v))*x:=by
 intro l; induction l with
 | nil=>rintro f s t h rfl; simp [push]
 | cons a l ih =>
  rintro f s t h ⟨h1,rfl,h2⟩
  rw [show push f x (a::l)=push (push1 f x a) x l from rfl,ih _ _ _ (by rw [push1_len,h]) h2,Amw f x v a h1 h]
  simp only [Int.sub_mul]; omega
theorem push1_get (f : List Int) (x : Int) (s : Step) (i : Nat) (h : s.1<f.length) : (push1 f x s).getD i 0=if i=s.1 then f.getD i 0+(if s.2 then -x else x) else f.getD i 0:=by
 unfold push1
 by_cases e : i=s.1
 ·subst e; rw [if_pos rfl]; simp [List.getD_eq_getElem?_getD,h]
 ·rw [if_neg e]; simp [List.getD_eq_getElem?_getD,List.getElem?_set_ne (fun h=>e h.symm)]
theorem push_get (x : Int) (i : Nat) : ∀ (l : List Step) (f : List Int),(∀ s ∈ l,s.1<f.length)→(∀ s ∈ l,s.1≠i)→(push f x l).getD i 0=f.getD i 0:=by
 intro l; induction l with
 | nil=>intro f _ _; rfl
 | cons a l ih =>
  intro f h h'
  rw [show push f x (a::l)=push (push1 f x a) x l from rfl,ih _ (fun s hs=>by rw [push1_len]; exact h s (by simp [hs])) (fun s hs=>h' s (by simp [hs])),push1_get f x a i (h a (by simp)),if_neg (fun e=>h' a (by simp) e.symm)]
theorem AnH (x : Int) : ∀ (l : List Step) (f : List Int),(∀ s ∈ l,s.1<f.length)→(l.map (·.1)).Nodup→∀ s ∈ l,(push f x l).getD s.1 0=f.getD s.1 0+(if s.2 then -x else x):=by
 intro l; induction l with
 | nil=>intro f _ _ s hs; cases hs
 | cons a l ih =>
  intro f h hn s hs
  simp only [List.map_cons,List.nodup_cons] at hn
  rw [show push f x (a::l)=push (push1 f x a) x l from rfl]
  rcases List.mem_cons.1 hs with rfl | hs
  ·rw [push_get x s.1 l _ (fun s hs=>by rw [push1_len]; exact h s (by simp [hs])) (fun b hb e=>hn.1 (List.mem_map.2 ⟨b,hb,e⟩)),push1_get f x s s.1 (h s (by simp)),if_pos rfl]
  ·rw [ih _ (fun s hs=>by rw [push1_len]; exact h s (by simp [hs])) hn.2 s hs,push1_get f x a s.1 (h a (by simp)),if_neg (fun e=>hn.1 (List.mem_map.2 ⟨s,hs,e⟩))]
theorem getD_getElem {α : Type} (l : List α) (d : α) (i : Nat) (h : i<l.length) : l[i]=l.getD i d:=by
 rw [List.getD_eq_getElem?_getD,List.getElem?_eq_getElem h]; rfl
theorem AnI {n : Nat} {f : List Int} (hf : Flow n A f) (x : Int) (hx : 0≤x) (l : List Step) (hn : (l.map (·.1)).Nodup) (hw : ApY A 0 l 1) (hr : ∀ s ∈ l,s.1<A.length∧x≤room A f s) : Flow n A (push f x l)∧val A (push f x l)=val A f+x:=by
 have hl : ∀ s ∈ l,s.1<f.length:=fun s hs=>by rw [hf.len]; exact (hr s hs).1
 have key : ∀ i,i<f.length→0≤(push f x l).getD i 0∧(push f x l).getD i 0≤(arc A i).cap:=by
  intro i hi
  have l0:=hf.lo i hi; have h0:=hf.hi i hi (by rw [← hf.len]; exact hi)
  rw [getD_getElem f 0 i hi] at l0 h0
  rw [getD_getElem A ⟨0,0,0⟩ i (by rw [← hf.len]; exact hi)] at h0
  by_cases e : ∃ s ∈ l,s.1=i
  ·obtain ⟨s,hs,rfl⟩:=e
   rw [AnH x l f hl hn s hs]
   have:=(hr s hs).2
   unfold room at this; unfold arc at this ⊢
   cases hb : s.2 <;> simp [hb] at this ⊢ <;> simp at l0 h0 <;> omega
  ·rw [push_get x i l f hl (fun s hs e'=>e ⟨s,hs,e'⟩)]
   exact ⟨l0,h0⟩
 refine ⟨⟨by rw [push_len,hf.len],fun i hi=>?_,fun i hi h'=>?_,fun v h0 h1=>?_⟩,?_⟩
 ·rw [push_len] at hi; rw [getD_getElem _ 0]; exact (key i hi).1
 ·rw [push_len] at hi; rw [getD_getElem _ 0,getD_getElem A ⟨0,0,0⟩ i h']; exact (key i hi).2
 ·rw [Al0 x v l f 0 1 hf.len hw,hf.zero v h0 h1]; simp [b2,h0.symm,h1.symm]
 ·unfold val; rw [Al0 x 0 l f 0 1 hf.len hw]; simp [b2]
def Disc (A : List Arc) (f : List Int) : List (Int×Step)→Prop
 | []=>True
 | (v,s)::V=>v≠0∧v ∉ V.map (·.1)∧s.1<A.length∧stTo A s=v∧(stFr A s=0∨stFr A s ∈ V.map (·.1))∧0<room A f s∧Disc A f V
theorem disc_mem {f : List Int} : ∀ {V : List (Int×Step)},Disc A f V→∀ p ∈ V,p.1≠0∧p.2.1<A.length∧stTo A p.2=p.1∧(stFr A p.2=0∨stFr A p.2 ∈ V.map (·.1))∧0<room A f p.2:=by
 intro V; induction V with
 | nil=>intro _ p hp; cases hp
 | cons q V ih =>
  rintro ⟨h1,h2,h3,h4,h5,h6,h7⟩ p hp
  rcases List.mem_cons.1 hp with rfl | hp
  ·refine ⟨h1,h3,h4,?_,h6⟩
   rcases h5 with h | h
   ·exact .inl h
   ·exact .inr (by simp at h ⊢; exact .inr h)
  ·obtain ⟨a,b,c,d,e⟩:=ih h7 p hp
   refine ⟨a,b,c,?_,e⟩
   rcases d with h | h
   ·exact .inl h
   ·exact .inr (by simp at h ⊢; exact .inr h)
theorem disc_nodup {f : List Int} : ∀ {V : List (Int×Step)},Disc A f V→(V.map (·.1)).Nodup∧(V.map (·.2.1)).Nodup:=by
 intro V; induction V with
 | nil=>intro _; simp
 | cons q V ih =>
  obtain ⟨v,s⟩:=q
  rintro ⟨h1,h2,h3,h4,h5,h6,h7⟩
  obtain ⟨i1,i2⟩:=ih h7
  refine ⟨by simp only [List.map_cons,List.nodup_cons]; exact ⟨h2,i1⟩,?_⟩
  simp only [List.map_cons,List.nodup_cons]
  refine ⟨fun hm=>?_,i2⟩
  obtain ⟨⟨w,t⟩,hq,e⟩:=List.mem_map.1 hm
  obtain ⟨a,b,c,d,_⟩:=disc_mem h7 _ hq
  simp only at e a b c d
  have hv : v ∈ V.map (·.1):=by
   by_cases hb : t.2=s.2
   ·have : t=s:=Prod.ext e hb
    subst this; rw [← h4,c]; exact List.mem_map_of_mem (f:=(·.1)) hq
   ·have : stFr A t=stTo A s:=by
     unfold stFr stTo; rw [e]; cases h : t.2 <;> cases h' : s.2 <;> simp [h,h'] at hb ⊢
    rw [h4] at this
    rcases d with h | h
    ·exact absurd (this ▸ h) h1
    ·rw [this] at h; exact h
  exact h2 hv
def pathOf (A : List Arc) : List (Int×Step)→Int→List Step
 | [],_=>[]
 | (v,s)::V,t=>if t=v then s::pathOf A V (stFr A s) else pathOf A V t
theorem pathOf_sub (A : List Arc) : ∀ (V : List (Int×Step)) (t : Int),(pathOf A V t).Sublist (V.map (·.2)):=by
 intro V; induction V with
 | nil=>intro t; exact .slnil
 | cons q V ih =>
  obtain ⟨v,s⟩:=q
  intro t; unfold pathOf; split
  ·exact .cons_cons _ (ih _)
  ·exact .cons _ (ih _)
theorem pathOf_zero {f : List Int} : ∀ {V : List (Int×Step)},Disc A f V→pathOf A V 0 = []:=by
 intro V; induction V with
 | nil=>intro _; rfl
 | cons q V ih =>
  obtain ⟨v,s⟩:=q
  rintro ⟨h1,h2,h3,h4,h5,h6,h7⟩
  unfold pathOf; rw [if_neg (fun e=>h1 e.symm),ih h7]
theorem AmX {f : List Int} : ∀ {V : List (Int×Step)},Disc A f V→∀ t,t=0∨t ∈ V.map (·.1)→ApY A 0 (pathOf A V t) t:=by
 intro V; induction V with
 | nil=>intro _ t h; rcases h with rfl | h; rfl; cases h
 | cons q V ih =>
  obtain ⟨v,s⟩:=q
  rintro ⟨h1,h2,h3,h4,h5,h6,h7⟩ t h
  unfold pathOf; split
  ·subst t; exact ⟨h3,h4,ih h7 _ h5⟩
  ·rename_i hne
   exact ih h7 t (by rcases h with h | h; exact .inl h; simp [hne] at h; exact .inr (by simpa using h))
theorem disc_push {n : Nat} {f : List Int} (hf : Flow n A f) {V : List (Int×Step)} (hd : Disc A f V) (h1 : 1 ∈ V.map (·.1)) (x : Int) (hx : 0≤x) (hr : ∀ s ∈ pathOf A V 1,x≤room A f s) : Flow n A (push f x (pathOf A V 1))∧val A (push f x (pathOf A V 1))=val A f+x:=by
 refine AnI hf x hx _ ?_ (AmX hd 1 (.inr h1)) fun s hs=>⟨?_,hr s hs⟩
 ·have:=(pathOf_sub A V 1).map (·.1)
  rw [List.map_map] at this
  exact this.nodup (disc_nodup hd).2
 ·obtain ⟨p,hp,rfl⟩:=List.mem_map.1 ((pathOf_sub A V 1).subset hs)
  exact (disc_mem hd p hp).2.1
theorem path_room {f : List Int} {V : List (Int×Step)} (hd : Disc A f V) (t : Int) : ∀ s ∈ pathOf A V t,s.1<A.length∧0<room A f s:=by
 intro s hs
 obtain ⟨p,hp,rfl⟩:=List.mem_map.1 ((pathOf_sub A V t).subset hs)
 have:=disc_mem hd p hp; exact ⟨this.2.1,this.2.2.2.2⟩
theorem disc_closed {n : Nat} {f : List Int} (hf : Flow n A f) {V : List (Int×Step)} (hc : ∀ s : Step,s.1<A.length→(stFr A s=0∨stFr A s ∈ V.map (·.1))→0<room A f s→stTo A s=0∨stTo A s ∈ V.map (·.1)) : Closed A f fun v=>decide (v=0∨v ∈ V.map (·.1)):=by
 intro i hi hi'
 have hl:=hf.lo i hi'; have hh:=hf.hi i hi' hi
 have e1 : arc A i=A[i]:=(getD_getElem A _ i hi).symm
 have e2:=getD_getElem f 0 i hi'
 constructor
 ·intro p q
  rw [decide_eq_true_iff] at p; rw [decide_eq_false_iff_not] at q
  have:=hc (i,false) hi (by simpa [stFr,e1] using p)
  simp only [room,stTo,e1,Bool.false_eq_true,if_false,← e2] at this
  by_cases h : f[i]=A[i].cap
  ·exact h
  ·exact absurd (this (by omega)) q
 ·intro p q
  rw [decide_eq_true_iff] at p; rw [decide_eq_false_iff_not] at q
  have:=hc (i,true) hi (by simpa [stFr,e1] using p)
  simp only [room,stTo,e1,if_true,← e2] at this
  by_cases h : f[i]=0
  ·exact h
  ·exact absurd (this (by omega)) q
end Go.TF.Mf
namespace Go.TF.Mf
variable {A : List Arc}
theorem out_arc (v : Int) : ∀ {A : List Arc} {f : List Int},f.length=A.length→(∀ (i : Nat) (h : i<f.length),0≤f[i])→1≤sur A f v→∃ i,i<A.length∧(arc A i).fr=v∧1≤f.getD i 0:=by
 intro A; induction A with
 | nil=>intro f _ _ h; simp [sur,sm] at h
 | cons a A ih =>
  intro f hl h0 h; cases f with
  | nil=>cases hl
  | cons x f =>
   have x0:=h0 0 (by simp); simp only [List.getElem_cons_zero] at x0
   by_cases e : a.fr=v∧1≤x
   ·exact ⟨0,by simp,by simpa [arc] using e.1,by simpa using e.2⟩
   ·have : (b2 (a.fr=v)-b2 (a.to=v))*x≤0:=by
     by_cases e1 : a.fr=v
     ·have : x=0:=by have : ¬ 1≤x:=fun h=>e ⟨e1,h⟩
                     omega
      subst this; simp
     ·by_cases e2 : a.to=v <;> simp [b2,e1,e2] <;> omega
    unfold sur at h; rw [sm_cons] at h
    obtain ⟨i,h1,h2,h3⟩:=ih (f:=f) (by simpa using hl) (fun i hi=>by have:=h0 (i+1) (by simpa using hi); simpa using this) (by unfold sur; omega)
    exact ⟨i+1,by simpa using h1,by simpa [arc] using h2,by simpa using h3⟩
theorem capS_nonneg (hc : ∀ a ∈ A,0≤a.cap) (S : Int→Bool) : 0≤capS A S:=by
 unfold capS; induction A with
 | nil=>simp
 | cons a A ih =>
  have:=ih (fun b hb=>hc b (by simp [hb])); have ha:=hc a (by simp)
  simp only [List.map_cons,List.sum_cons]
  have : 0≤b2 (S a.fr=true∧S a.to=false)*a.cap:=Int.mul_nonneg (by unfold b2; split <;> simp) ha
  omega
structure Least (A : List Arc) (v : Int) : Prop where
 is : ∃ S : Int→Bool,S 0=true∧S 1=false∧capS A S=v
 le : ∀ S : Int→Bool,S 0=true→S 1=false→v≤capS A S
theorem Least.uniq {v w : Int} (h : Least A v) (h' : Least A w) : v=w:=by
 obtain ⟨S,s0,s1,e⟩:=h.is; obtain ⟨T,t0,t1,e'⟩:=h'.is
 have a:=h.le T t0 t1; have b:=h'.le S s0 s1; omega
theorem least_of {n : Nat} (hN : Net n A) {f : List Int} (hf : Flow n A f) (S : Int→Bool) (h0 : S 0=true) (h1 : S 1=false) (hc : Closed A f S) : Least A (val A f) :=
 ⟨⟨S,h0,h1,(AmQ hN hf S h0 h1 hc).symm⟩,fun T t0 t1=>val_le hN hf T t0 t1⟩
theorem Least.mono {B : List Arc} {v w : Int} (hA : Least A v) (hB : Least B w) (h : ∀ S : Int→Bool,S 0=true→S 1=false→capS A S≤capS B S) : v≤w:=by
 obtain ⟨T,t0,t1,e⟩:=hB.is
 have:=hA.le T t0 t1; have:=h T t0 t1; omega
end Go.TF.Mf
set_option linter.unusedVariables false
set_option linter.unusedSimpArgs false
namespace Go.TF
open Go Go.Abs
def ar (A : List AaE) : List Mf.Arc:=A.map fun a=>⟨a.From,a.To,a.Cap⟩
theorem Ab5 (A : List AaE) : (ar A).length=A.length:=by simp [ar]
theorem AeF {A : List AaE} {i : Nat} (h : i<A.length) : Mf.arc (ar A) i=⟨A[i].From,A[i].To,A[i].Cap⟩:=by
 unfold Mf.arc; rw [List.getD_eq_getElem?_getD,List.getElem?_eq_getElem (by rw [Ab5]; exact h)]; simp [ar]
def okA (N : Int) (a : AaE) : Bool:=decide (0≤a.From∧a.From<N∧0≤a.To∧a.To<N∧a.From≠a.To∧a.To≠0∧a.From≠1∧0≤a.Cap∧a.Cap≤1048576)
def AoW (N : Int) (A : List AaE) : Bool:=decide (2≤N∧N≤130∧A.length≤1200)&&A.all (okA N)
structure NV (N : Nat) (A : List AaE) : Prop where
 two : 2≤N
 n130 : N≤130
 len : A.length≤1200
 ok : ∀ a ∈ A,0≤a.From∧a.From<N∧0≤a.To∧a.To<N∧a.From≠a.To∧a.To≠0∧a.From≠1∧0≤a.Cap∧a.Cap≤1048576
theorem Afg (N : Int) (A : List AaE) : AoW N A=true↔∃ n : Nat,N=n∧NV n A:=by
 unfold AoW
 rw [Bool.and_eq_true,decide_eq_true_eq,List.all_eq_true]
 constructor
 ·rintro ⟨⟨h1,h2,h3⟩,h4⟩
  obtain ⟨n,rfl⟩:=Int.eq_ofNat_of_zero_le (show 0≤N by omega)
  exact ⟨n,rfl,by omega,by omega,h3,fun a ha=>by have:=h4 a ha; unfold okA at this; rw [decide_eq_true_eq] at this; exact this⟩
 ·rintro ⟨n,rfl,h⟩
  have:=h.two; have:=h.n130
  exact ⟨⟨by omega,by omega,h.len⟩,fun a ha=>by unfold okA; rw [decide_eq_true_eq]; exact h.ok a ha⟩
theorem NV.net {N : Nat} {A : List AaE} (h : NV N A) : Mf.Net N (ar A):=by
 have key : ∀ a ∈ ar A,∃ b ∈ A,a=⟨b.From,b.To,b.Cap⟩:=by
  intro a ha; obtain ⟨b,hb,rfl⟩:=List.mem_map.1 ha; exact ⟨b,hb,rfl⟩
 refine ⟨h.two,fun a ha=>?_,fun a ha=>?_,fun a ha=>?_,fun a ha=>?_⟩ <;> obtain ⟨b,hb,rfl⟩:=key a ha <;> have:=h.ok b hb
 ·exact ⟨this.1,this.2.1,this.2.2.1,this.2.2.2.1⟩
 ·exact this.2.2.2.2.2.1
 ·exact this.2.2.2.2.2.2.1
 ·exact this.2.2.2.2.2.2.2.1
def Adc {β : Type} (N : Nat) (f : Int→β) : List β:=(List.range N).map fun (v : Nat)=>f (v : Int)
theorem Abr {β : Type} (N : Nat) (f : Int→β) : (Adc N f).length=N:=by simp [Adc]
theorem Aco {β γ : Type} {N : Nat} {f : Int→β} {x : Int} {F : β→Option γ} (h0 : 0≤x) (h1 : x<N) : idx (Adc N f) x F=F (f x):=by
 obtain ⟨i,rfl⟩:=Int.eq_ofNat_of_zero_le h0
 rw [Aae (by rw [Abr]; omega)]; simp [Adc]
theorem AdZ {β : Type} {N : Nat} {f : Int→β} {x : Int} {y : β} (h0 : 0≤x) : (Adc N f).set x.toNat y=Adc N fun v=>if v=x then y else f v:=by
 refine List.ext_getElem (by simp [Adc]) fun i h1 h2=>?_
 rw [List.getElem_set]
 simp only [Adc,List.getElem_map,List.getElem_range]
 by_cases e : x.toNat=i
 ·rw [if_pos e,if_pos (by omega)]
 ·rw [if_neg e,if_neg (by omega)]
theorem AgG {β : Type} (N : Nat) (z : β) : List.replicate N z=Adc N fun _=>z:=by
 refine List.ext_getElem (by simp [Adc]) fun i h1 h2=>?_
 simp [Adc]
theorem Alz {β : Type} {N : Nat} {f : Int→β} {i : Nat} (h : i<(Adc N f).length) : (Adc N f)[i]=f (i : Int):=by simp [Adc]
def whB (p : Int→Bool) (i : Nat) : List Int:=((List.range i).filter fun (v : Nat)=>p (v : Int)).map fun (v : Nat)=>(v : Int)
def cvS (s : Mf.Step) : AaC:=⟨(s.1 : Int),s.2⟩
def AlI (A : List AaE) : Nat→Int→List AaC
 | 0,_=>[]
 | i+1,v=>(AlI A i v++if (Mf.arc (ar A) i).fr=v then [⟨(i : Int),false⟩] else [])++if (Mf.arc (ar A) i).to=v then [⟨(i : Int),true⟩] else []
theorem AhN (A : List AaE) (v : Int) : ∀ i,(AlI A i v).length≤2*i
 | 0=>by simp [AlI]
 | i+1=>by
  have:=AhN A v i
  rw [AlI,List.length_append,List.length_append]
  have h1 : (if (Mf.arc (ar A) i).fr=v then [(⟨(i : Int),false⟩ : AaC)] else []).length≤1:=by split <;> simp
  have h2 : (if (Mf.arc (ar A) i).to=v then [(⟨(i : Int),true⟩ : AaC)] else []).length≤1:=by split <;> simp
  omega
theorem AjY {A : List AaE} {v : Int} {s : AaC} : ∀ {i : Nat},s ∈ AlI A i v↔∃ t : Mf.Step,s=cvS t∧t.1<i∧Mf.stFr (ar A) t=v
 | 0=>by simp [AlI]
 | i+1=>by
  rw [AlI,List.mem_append,List.mem_append,AjY (i:=i)]
  constructor
  ·rintro ((⟨t,h1,h2,h3⟩ | h) | h)
   ·exact ⟨t,h1,by omega,h3⟩
   ·split at h
    ·rename_i e; simp at h; exact ⟨(i,false),h,by simp,by simpa [Mf.stFr] using e⟩
    ·simp at h
   ·split at h
    ·rename_i e; simp at h; exact ⟨(i,true),h,by simp,by simpa [Mf.stFr] using e⟩
    ·simp at h
  ·rintro ⟨⟨j,b⟩,h1,h2,h3⟩
   by_cases e : j=i
   ·subst e
    cases b with
    | false=>left; right; rw [if_pos (by simpa [Mf.stFr] using h3)]; simp [h1,cvS]
    | true=>right; rw [if_pos (by simpa [Mf.stFr] using h3)]; simp [h1,cvS]
   ·exact .inl (.inl ⟨(j,b),h1,by simp at h2 ⊢; omega,h3⟩)
theorem Apj (N : Nat) (f : Int→List AaC) (x : Int) (e : AaC) (F : List (List AaC)→Option (List (List AaC))) (h0 : 0≤x) (h1 : x<N) (hl : ∀ v,(f v).length≤100000) : Abg.S (Adc N f) x e F=F (Adc N fun v=>if v=x then f x++[e] else f v):=by
 unfold Abg.S
 rw [AaT (by rw [Abr]; omega),Aco h0 h1,AaT (by have:=hl x; simp only [List.length_cons,List.length_nil]; omega),AdZ h0]
theorem AnX (k N : Nat) (A : List AaE) (h : NV N A) : ∀ (m i n : Nat),i+m=A.length→m<n→Abg.L1 k A n (i : Int) (Adc N (AlI A i))=some (Adc N (AlI A A.length))
 | 0,i,n+1,e,_=>by
  have : i=A.length:=by omega
  subst this
  rw [Abg.L1,if_neg (by omega)]
 | m+1,i,n+1,e,hn=>by
  have hi : i<A.length:=by omega
  have ok:=h.ok _ (List.getElem_mem hi)
  have hl:=h.len
  have ih:=AnX k N A h m (i+1) n (by omega) (by omega)
  have ea:=AeF hi
  rw [Abg.L1,if_pos (by omega),Aae hi,Apj N _ _ _ _ ok.1 ok.2.1 (fun v=>by have:=AhN A v i; omega)]
  rw [Apj N _ _ _ _ ok.2.2.1 ok.2.2.2.1 (fun v=>by
   have:=AhN A v i
   split
   ·rename_i e; subst e; simp; omega
   ·omega),AdA i (by omega),← ih]
  congr 2
  funext v
  rw [AlI,ea]
  by_cases e1 : v=A[i].To
  ·subst e1
   rw [if_pos rfl,if_neg (fun z=>ok.2.2.2.2.1 z.symm),if_neg (fun z=>ok.2.2.2.2.1 z),if_pos rfl]; simp
  ·rw [if_neg e1]
   by_cases e2 : v=A[i].From
   ·subst e2
    rw [if_pos rfl,if_pos rfl,if_neg (fun z=>e1 z.symm)]; simp
   ·rw [if_neg e2,if_neg (fun z=>e2 z.symm),if_neg (fun z=>e1 z.symm)]; simp
def Amr (N : Nat) (A : List AaE) : List (List AaC):=Adc N (AlI A A.length)
theorem AqR (k N : Nat) (A : List AaE) (f : List Int) (h : NV N A) (hk : A.length<k) : Abg k (N : Int) A f=some (Amr N A):=by
 have:=h.n130
 unfold Abg
 rw [AaT (by omega),show ((N : Int)).toNat=N by omega,AgG]
 exact AnX k N A h A.length 0 k (by omega) hk
theorem nodup_range : ∀ (N : Nat) (l : List Int),l.Nodup→(∀ x ∈ l,0≤x∧x<N)→l.length≤N
 | 0,l,_,h=>by
  cases l with
  | nil=>simp
  | cons a l=>have:=h a (by simp); omega
 | N+1,l,hn,h=>by
  by_cases e : (N : Int) ∈ l
  ·have:=nodup_range N (l.erase (N : Int)) (hn.erase _) fun x hx=>by
    have hx':=(hn.mem_erase_iff).1 hx
    have:=h x hx'.2
    have : x≠(N : Int):=hx'.1
    omega
   rw [List.length_erase_of_mem e] at this; omega
  ·have:=nodup_range N l hn fun x hx=>by
    have:=h x hx
    have : x≠(N : Int):=fun q=>e (q ▸ hx)
    omega
   omega
theorem AcC {β : Type} (m : List (Int×β)) (a b : Int) (v : β) : AcI (AbE m a v) b=if b=a then some v else AcI m b:=by
 have fi : ∀ m : List (Int×β),∀ b : Int,mgI m b=m.findIdx? fun p=>b==p.1:=fun _ _=>rfl
 unfold AbE
 cases h : mgI m a with
 | none =>
  simp only
  have hn : ∀ p ∈ m,¬ a=p.1:=by
   rw [fi,List.findIdx?_eq_none_iff] at h
   intro p hp; simpa using h p hp
  unfold AcI
  rw [fi,fi,List.findIdx?_append]
  by_cases e : b=a
  ·subst e
   rw [if_pos rfl]
   have : m.findIdx? (fun p=>b==p.1)=none:=by rw [← fi]; exact h
   rw [this]; simp [List.findIdx?_cons]
  ·rw [if_neg e]
   cases hb : m.findIdx? (fun p=>b==p.1) with
   | none=>simp [List.findIdx?_cons,e]
   | some j =>
    have hj : j<m.length:=(List.findIdx?_eq_some_iff_findIdx_eq.1 hb).1
    simp [List.getElem?_append_left hj]
 | some j =>
  simp only
  rw [fi,List.findIdx?_eq_some_iff_findIdx_eq] at h
  have hj:=h.1
  have haj : a=m[j].1:=by
   have:=List.findIdx_getElem (xs:=m) (p:=fun p=>a==p.1) (w:=by rw [h.2]; exact hj)
   simp only [h.2,beq_iff_eq] at this; exact this
  have e1 : (m.set j (a,v)).findIdx? (fun p=>b==p.1)=m.findIdx? (fun p=>b==p.1):=by
   have : (m.set j (a,v)).map (fun p=>p.1)=m.map (fun p=>p.1):=by
    rw [List.map_set]
    refine List.ext_getElem (by simp) fun i h1 h2=>?_
    rw [List.getElem_set]
    split
    ·rename_i e; subst e; simp [haj]
    ·rfl
   have g : ∀ l : List (Int×β),l.findIdx? (fun p=>b==p.1)=(l.map (fun p=>p.1)).findIdx? (fun x=>b==x):=fun l=>by rw [List.findIdx?_map]; rfl
   rw [g,g,this]
  unfold AcI
  rw [fi,fi,e1]
  by_cases e : b=a
  ·subst e
   rw [if_pos rfl]
   have : m.findIdx? (fun p=>b==p.1)=some j:=List.findIdx?_eq_some_iff_findIdx_eq.2 h
   rw [this]; simp [hj]
  ·rw [if_neg e]
   cases hb : m.findIdx? (fun p=>b==p.1) with
   | none=>rfl
   | some i =>
    have hi:=List.findIdx?_eq_some_iff_findIdx_eq.1 hb
    have hbi : b=m[i].1:=by
     have:=List.findIdx_getElem (xs:=m) (p:=fun p=>b==p.1) (w:=by rw [hi.2]; exact hi.1)
     simp only [hi.2,beq_iff_eq] at this; exact this
    have : ¬ j=i:=by rintro rfl; exact e (hbi.trans haj.symm)
    simp [List.getElem?_set,this]
abbrev Vs:=List (Int×Mf.Step)
def lk : Vs→Int→Option Mf.Step
 | [],_=>none
 | (w,s)::V,v=>if v=w then some s else lk V v
theorem Agy {V : Vs} {v : Int} : lk V v=none↔v ∉ V.map (·.1):=by
 induction V with
 | nil=>simp [lk]
 | cons p V ih =>
  obtain ⟨w,s⟩:=p
  rw [lk]
  by_cases e : v=w
  ·rw [if_pos e]; simp [e]
  ·rw [if_neg e,ih]; simp [e]
def Cm (m : List (Int×AaC)) (V : Vs) : Prop:=∀ v,AcI m v=if v=0 then some ⟨-1,false⟩ else (lk V v).map cvS
def Cpl (A : List Mf.Arc) (f : List Int) (V : Vs) : Prop:=∀ s : Mf.Step,s.1<A.length→(Mf.stFr A s=0∨Mf.stFr A s ∈ V.map (·.1))→0<Mf.room A f s→Mf.stTo A s=0∨Mf.stTo A s ∈ V.map (·.1)
structure FB (A : List AaE) (f : List Int) : Prop where
 len : f.length=A.length
 lo : ∀ (i : Nat) (h : i<f.length),0≤f[i]
 hi : ∀ (i : Nat) (h : i<f.length) (h' : i<A.length),f[i]≤A[i].Cap
theorem FB.of {N : Nat} {A : List AaE} {f : List Int} (h : Mf.Flow N (ar A) f) : FB A f :=
 ⟨by rw [h.len,Ab5],h.lo,fun i a b=>by have:=h.hi i a (by rw [Ab5]; exact b); simpa [ar] using this⟩
theorem Am5 (k N : Nat) (A : List AaE) (f : List Int) (at_ : List (List AaC)) (h : NV N A) (hf : FB A f) (t : Mf.Step) (ht : t.1<A.length) : Ab4 k (N : Int) A f at_ (cvS t).arc (cvS t).back=some (Mf.room (ar A) f t,Mf.stTo (ar A) t):=by
 obtain ⟨i,b⟩:=t
 simp only [] at ht
 have hi : i<f.length:=by rw [hf.len]; exact ht
 have a1:=hf.lo i hi; have a2:=hf.hi i hi ht
 have ok:=h.ok _ (List.getElem_mem ht)
 have eg:=Mf.getD_getElem f 0 i hi
 unfold Ab4 cvS
 simp only []
 rw [Aae ht]
 cases b with
 | true=>rw [if_pos rfl,Aae hi]; simp [Mf.room,Mf.stTo,AeF ht,List.getElem?_eq_getElem hi]
 | false=>rw [if_neg (by simp),Aae hi,w64 (by omega) (by omega)]; simp [Mf.room,Mf.stTo,AeF ht,List.getElem?_eq_getElem hi]
theorem Aei {N : Nat} {A : List AaE} {f : List Int} (h : NV N A) {V : Vs} (hd : Mf.Disc (ar A) f V) : ∀ v : Int,v ∈ V.map (·.1)→0≤v∧v<N:=by
 intro v hv
 obtain ⟨p,hp,rfl⟩:=List.mem_map.1 hv
 obtain ⟨_,h2,h3,_⟩:=Mf.disc_mem hd p hp
 rw [Ab5] at h2
 have ok:=h.ok _ (List.getElem_mem h2)
 rw [← h3]; unfold Mf.stTo; rw [AeF h2]
 cases p.2.2 <;> simp <;> omega
theorem AmR {N : Nat} {A : List AaE} (h : NV N A) (t : Mf.Step) (ht : t.1<A.length) : 0≤Mf.stTo (ar A) t∧Mf.stTo (ar A) t<N:=by
 have ok:=h.ok _ (List.getElem_mem ht)
 unfold Mf.stTo; rw [AeF ht]
 cases t.2 <;> simp <;> omega
theorem Aer {N : Nat} {A : List AaE} {f : List Int} (h : NV N A) {V : Vs} (hd : Mf.Disc (ar A) f V) : V.length+1≤N:=by
 have:=nodup_range N (0::V.map (·.1)) (List.nodup_cons.2 ⟨fun hm=>by
  obtain ⟨p,hp,e⟩:=List.mem_map.1 hm
  exact (Mf.disc_mem hd p hp).1 e,(Mf.disc_nodup hd).1⟩) (fun x hx=>by
  rcases List.mem_cons.1 hx with rfl | hx
  ·have:=h.two; omega
  ·exact Aei h hd x hx)
 simpa using this
theorem AkB (k N : Nat) (A : List AaE) (f : List Int) (h : NV N A) (hf : FB A f) (u : Int) (kb : Nat→List (Int×AaC)→List Int→Option (List (Int×AaC))) (L : List AaC) (hL : ∀ s ∈ L,∃ t : Mf.Step,s=cvS t∧t.1<A.length∧Mf.stFr (ar A) t=u) (hl9 : L.length≤100000) :
 ∀ (m j n o : Nat) (cm : List (Int×AaC)) (todo : List Int) (V : Vs),j+m=L.length→m<n→Mf.Disc (ar A) f V→Cm cm V→(u=0∨u ∈ V.map (·.1))→o<todo.length→(todo.drop o).length≤V.length+1 →
 ∃ (cm' : List (Int×AaC)) (todo' : List Int) (W : Vs) (o' : Nat),AaK.L2 k (N : Int) A f (Amr N A) L kb n o (j : Int) cm todo=kb (o'+1) cm' todo'∧Mf.Disc (ar A) f (W++V)∧Cm cm' (W++V)∧o'<todo'.length∧todo'.drop o'=todo.drop o++(W.map (·.1)).reverse ∧
  (∀ s ∈ L.drop j,∀ t : Mf.Step,s=cvS t→0<Mf.room (ar A) f t→Mf.stTo (ar A) t=0∨Mf.stTo (ar A) t ∈ (W++V).map (·.1))
 | 0,j,n+1,o,cm,todo,V,e,_,hd,hc,hu,ho,hq=>by
  rw [AaK.L2,if_neg (by omega),AaT (by omega)]
  exact ⟨cm,todo,[],o,by simp,hd,hc,ho,by simp,fun s hs=>by rw [List.drop_eq_nil_of_le (by omega)] at hs; simp at hs⟩
 | m+1,j,n+1,o,cm,todo,V,e,hn,hd,hc,hu,ho,hq=>by
  have hj : j<L.length:=by omega
  obtain ⟨t,t1,t2,t3⟩:=hL _ (List.getElem_mem hj)
  have hv:=Aer h hd
  have hN:=h.n130
  have ts:=AmR h t t2
  rw [AaK.L2,if_pos (by omega),Aae hj,t1,Am5 k N A f _ h hf t t2,AbK]
  have go : ∀ (o1 : Nat) (cm1 : List (Int×AaC)) (todo1 : List Int) (V1 W1 : Vs),V1=W1++V→Mf.Disc (ar A) f V1→Cm cm1 V1→o1<todo1.length→todo1.drop o1=todo.drop o++(W1.map (·.1)).reverse→(0<Mf.room (ar A) f t→Mf.stTo (ar A) t=0∨Mf.stTo (ar A) t ∈ V1.map (·.1)) →
   ∃ (cm' : List (Int×AaC)) (todo' : List Int) (W : Vs) (o' : Nat),AaK.J3 k (j : Int) (fun v10_ v11_ v12_ v13_=>AaK.L2 k (N : Int) A f (Amr N A) L kb n v10_ v11_ v12_ v13_) cm1 todo1 o1=kb (o'+1) cm' todo'∧Mf.Disc (ar A) f (W++V)∧Cm cm' (W++V)∧o'<todo'.length∧todo'.drop o'=todo.drop o++(W.map (·.1)).reverse ∧
   (∀ s ∈ L.drop j,∀ t : Mf.Step,s=cvS t→0<Mf.room (ar A) f t→Mf.stTo (ar A) t=0∨Mf.stTo (ar A) t ∈ (W++V).map (·.1)):=by
   intro o1 cm1 todo1 V1 W1 e1 hd1 hc1 ho1 hq1 hr1
   unfold AaK.J3
   rw [AdA j (by omega)]
   obtain ⟨cm',todo',W,o',g1,g2,g3,g4,g5,g6⟩:=AkB k N A f h hf u kb L hL hl9 m (j+1) n o1 cm1 todo1 V1 (by omega) (by omega) hd1 hc1 (by
    rcases hu with hu | hu
    ·exact .inl hu
    ·right; rw [e1,List.map_append,List.mem_append]; exact .inr hu) ho1 (by
    rw [hq1,List.length_append,List.length_reverse,List.length_map,e1,List.length_append]; omega)
   subst e1
   refine ⟨cm',todo',W++W1,o',g1,by rw [List.append_assoc]; exact g2,by rw [List.append_assoc]; exact g3,g4,by rw [g5,hq1,List.map_append,List.reverse_append,List.append_assoc],?_⟩
   intro s hs t' ht' hr
   rw [List.append_assoc]
   rw [List.drop_eq_getElem_cons hj,List.mem_cons] at hs
   rcases hs with rfl | hs
   ·have : t'=t:=by
     have:=ht'.symm.trans t1
     unfold cvS at this
     simp only [AaC.mk.injEq] at this
     exact Prod.ext (by omega) this.2
    subst this
    rcases hr1 hr with q | q
    ·exact .inl q
    ·right; rw [List.map_append,List.mem_append]; exact .inr q
   ·exact g6 s hs t' ht' hr
  have hcm:=hc (Mf.stTo (ar A) t)
  by_cases z0 : Mf.stTo (ar A) t=0
  ·rw [if_pos z0] at hcm
   rw [hcm]
   show ∃ cm' todo' W o',AaK.J4 _ _ _ _ _ _ _ _ _ _=_∧_
   unfold AaK.J4
   have:=go o cm todo V [] rfl hd hc ho (by simp) (fun _ => .inl z0)
   split
   ·rw [if_neg (by simp)]; exact this
   ·exact this
  ·rw [if_neg z0] at hcm
   cases hl : lk V (Mf.stTo (ar A) t) with
   | some s0 =>
    rw [hl] at hcm
    rw [hcm]
    show ∃ cm' todo' W o',AaK.J4 _ _ _ _ _ _ _ _ _ _=_∧_
    unfold AaK.J4
    have hm : Mf.stTo (ar A) t ∈ V.map (·.1):=by
     apply Classical.byContradiction; intro q
     rw [Agy.2 q] at hl; cases hl
    have:=go o cm todo V [] rfl hd hc ho (by simp) (fun _ => .inr hm)
    split
    ·rw [if_neg (by simp)]; exact this
    ·exact this
   | none =>
    rw [hl] at hcm
    rw [hcm]
    show ∃ cm' todo' W o',AaK.J4 _ _ _ _ _ _ _ _ _ _=_∧_
    unfold AaK.J4
    by_cases hr : 0<Mf.room (ar A) f t
    ·rw [if_pos hr,if_pos (by simp),AaT (by rw [show ([Mf.stTo (ar A) t] : List Int).length=1 from rfl]; omega)]
     have hm:=Agy.1 hl
     refine go 0 _ _ ((Mf.stTo (ar A) t,t)::V) [(Mf.stTo (ar A) t,t)] rfl ⟨z0,hm,by rw [Ab5]; exact t2,rfl,by rw [t3]; exact hu,hr,hd⟩ ?_ (by simp) (by simp) (fun _ => .inr (by simp))
     intro v
     rw [AcC,lk]
     by_cases e2 : v=Mf.stTo (ar A) t
     ·rw [if_pos e2,if_pos e2,if_neg (by rw [e2]; exact z0)]; rfl
     ·rw [if_neg e2,if_neg e2]; exact hc v
    ·rw [if_neg hr]
     exact go o cm todo V [] rfl hd hc ho (by simp) (fun q=>absurd q hr)
theorem AkC (k N : Nat) (A : List AaE) (f : List Int) (h : NV N A) (hf : FB A f) (hk : 2*A.length<k) : ∀ (m n o : Nat) (cm : List (Int×AaC)) (todo : List Int) (V : Vs) (p : List Int),m+p.length=N→m<n→Mf.Disc (ar A) f V→Cm cm V→o≤todo.length→(p++todo.drop o).Nodup→(∀ x,x ∈ p++todo.drop o↔x=0∨x ∈ V.map (·.1)) →
 (∀ u ∈ p,∀ t : Mf.Step,t.1<A.length→Mf.stFr (ar A) t=u→0<Mf.room (ar A) f t→Mf.stTo (ar A) t=0∨Mf.stTo (ar A) t ∈ V.map (·.1)) →
 ∃ (cm' : List (Int×AaC)) (V' : Vs),AaK.L1 k (N : Int) A f (Amr N A) n o cm todo=some cm'∧Mf.Disc (ar A) f V'∧Cm cm' V'∧Cpl (ar A) f V'
 | m,n+1,o,cm,todo,V,p,e,hn,hd,hc,ho,hnd,hm,hp=>by
  have hN:=h.n130
  have rng : ∀ x ∈ p++todo.drop o,0≤x∧x<N:=by
   intro x hx
   rcases (hm x).1 hx with rfl | hx
   ·have:=h.two; omega
   ·exact Aei h hd x hx
  have hle:=nodup_range N _ hnd rng
  rw [List.length_append,List.length_drop] at hle
  rw [AaK.L1]
  by_cases hq : o<todo.length
  ·have hu : todo[o] ∈ p++todo.drop o:=by rw [List.mem_append]; right; rw [List.drop_eq_getElem_cons hq]; exact List.mem_cons_self ..
   have ru:=rng _ hu
   have hall:=(hm _).1 hu
   cases m with
   | zero=>omega
   | succ m =>
    have e0 : ((o+(0 : Int).toNat : Nat) : Int)=(o : Int):=by simp
    rw [if_pos (by omega),AaT (by simp; omega),e0,Aae hq,show Amr N A=Adc N (AlI A A.length) from rfl,Aco ru.1 ru.2]
    have hlen:=AhN A todo[o] A.length
    have hA:=h.len
    have hdv:=Aer h hd
    have hdl:=nodup_range N _ (List.nodup_append.1 hnd).2.1 (fun x hx=>rng x (by rw [List.mem_append]; exact .inr hx))
    have hqv : (todo.drop o).length≤V.length+1:=by
     have s1 : ∀ x ∈ todo.drop o,x ∈ 0::V.map (·.1):=fun x hx=>by
      have:=(hm x).1 (by rw [List.mem_append]; exact .inr hx)
      simpa using this
     have:=(List.nodup_append.1 hnd).2.1
     have:=List.Nodup.length_le_of_subset this s1
     simpa using this
    obtain ⟨cm',todo',W,o',g1,g2,g3,g4,g5,g6⟩:=AkB k N A f h hf todo[o] (fun v5_ v6_ v7_=>AaK.L1 k (N : Int) A f (Amr N A) n v5_ v6_ v7_) (AlI A A.length todo[o])
     (fun s hs=>AjY.1 hs) (by omega) (AlI A A.length todo[o]).length 0 k o cm todo V (by omega) (by omega) hd hc hall hq hqv
    rw [show Adc N (AlI A A.length)=Amr N A from rfl]
    rw [show (0 : Int)=((0 : Nat) : Int) from rfl,g1]
    have hdrop : todo'.drop (o'+1)=todo.drop (o+1)++(W.map (·.1)).reverse:=by
     rw [List.drop_eq_getElem_cons g4,List.drop_eq_getElem_cons hq,List.cons_append] at g5
     exact (List.cons.inj g5).2
    have hwd:=(Mf.disc_nodup g2).1
    rw [List.map_append] at hwd
    have perm : (p++[todo[o]])++todo'.drop (o'+1)=(p++todo.drop o)++(W.map (·.1)).reverse:=by
     rw [hdrop,List.drop_eq_getElem_cons hq]; simp [-List.getElem_cons_drop]
    refine AkC k N A f h hf hk m n (o'+1) cm' todo' (W++V) (p++[todo[o]]) (by simp; omega) (by omega) g2 g3 (by omega) ?_ ?_ ?_
    ·rw [perm,List.nodup_append]
     refine ⟨hnd,List.pairwise_reverse.2 ((List.nodup_append.1 hwd).1.imp fun q=>q.symm),fun a ha b hb=>?_⟩
     rw [List.mem_reverse] at hb
     rintro rfl
     rcases (hm a).1 ha with rfl | ha'
     ·obtain ⟨q,hq1,hq2⟩:=List.mem_map.1 hb
      exact (Mf.disc_mem g2 q (List.mem_append_left _ hq1)).1 hq2
     ·exact (List.nodup_append.1 hwd).2.2 a hb a ha' rfl
    ·intro x
     rw [perm,List.mem_append,hm x,List.mem_reverse,List.map_append,List.mem_append]
     constructor
     ·rintro ((z | z) | z)
      ·exact .inl z
      ·exact .inr (.inr z)
      ·exact .inr (.inl z)
     ·rintro (z | z | z)
      ·exact .inl (.inl z)
      ·exact .inr z
      ·exact .inl (.inr z)
    ·intro u hu' t t1 t2 t3
     rw [List.mem_append,List.mem_singleton] at hu'
     rcases hu' with hu' | rfl
     ·rcases hp u hu' t t1 t2 t3 with z | z
      ·exact .inl z
      ·right; rw [List.map_append,List.mem_append]; exact .inr z
     ·exact g6 (cvS t) (by rw [List.drop_zero]; exact AjY.2 ⟨t,rfl,t1,t2⟩) t rfl t3
  ·have hdn : todo.drop o = []:=List.drop_eq_nil_of_le (by omega)
   rw [if_neg (by omega)]
   refine ⟨cm,V,rfl,hd,hc,fun s h1 h2 h3=>?_⟩
   rw [Ab5] at h1
   have hx:=(hm (Mf.stFr (ar A) s)).2 h2
   rw [hdn,List.append_nil] at hx
   exact hp _ hx s h1 rfl h3
theorem Am4 (k N : Nat) (A : List AaE) (f : List Int) (h : NV N A) (hf : FB A f) (hk : 2*A.length<k) (hk2 : N<k) :
 ∃ (cm : List (Int×AaC)) (V : Vs),AaK k (N : Int) A f (Amr N A)=some cm∧Mf.Disc (ar A) f V∧Cm cm V∧Cpl (ar A) f V:=by
 unfold AaK
 refine AkC k N A f h hf hk N k 0 _ [0] [] [] (by simp) hk2 trivial ?_ (by simp) (by simp) (by simp) (by simp)
 intro v
 rw [AcC]
 by_cases e : v=0
 ·rw [if_pos e,if_pos e]
 ·rw [if_neg e,if_neg e]; rfl
end Go.TF
