import Derived.Test.YtomgdcnbceiggaaRazWal27
import Derived.Test.YtomgdcnbceiggaaRazLay24
set_option linter.unusedVariables false
set_option linter.unusedSimpArgs false
namespace Go.TF
open Go Go.Abs
theorem Ab3 {α : Type} {c : Prop} [Decidable c] {x : Option α} (h : c) : chk c x=x:=by simp [chk,h]
theorem Aaz {α β : Type} {l : List α} {i : Nat} {f : α→Option β} (h : i<l.length) : idx l (i : Int) f=f l[i]:=by
 simp [idx,h]
@[simp] theorem AaJ {α γ : Type} (a : α) (f : α→Option γ) : Abn (some a) f=f a:=rfl
@[simp] theorem Aao {α β γ : Type} (a : α) (b : β) (f : α→β→Option γ) : AeN (some (a,b)) f=f a b:=rfl
@[simp] theorem Ak6 {α β δ γ : Type} (a : α) (b : β) (c : δ) (f : α→β→δ→Option γ) : Am0 (some (a,b,c)) f=f a b c:=rfl
@[simp] theorem Ak5 {α β δ ε γ : Type} (a : α) (b : β) (c : δ) (d : ε) (f : α→β→δ→ε→Option γ) : Amz (some (a,b,c,d)) f=f a b c d:=rfl
@[simp] theorem Aje {α γ : Type} (x : α) (f : α→Option γ) : Al9 x f=f x:=rfl
theorem w64 {n : Int} (h1 : -9223372036854775808≤n) (h2 : n≤9223372036854775807) : IntKind.wrap .i64 n=n:=AkO h1 h2
end Go.TF
set_option linter.unusedVariables false
set_option linter.unusedSimpArgs false
namespace Go.TF
open Go Go.Abs
theorem Abx (i : Nat) (h : i<9223372036854775807) : IntKind.wrap .i64 ((i : Int)+1)=((i+1 : Nat) : Int):=by rw [w64 (by omega) (by omega)]; omega
def Aj3 (p : Int→Bool) : Nat→Nat→List Int
 | 0,_=>[]
 | m+1,i=>if p i=true then (i : Int)::Aj3 p m (i+1) else Aj3 p m (i+1)
def sel (p : Int→Bool) : List Int:=Aj3 p 64 0
def asc (p : Int) : List Int→Bool
 | []=>true
 | x::l=>decide (0≤x)&&decide (x<64)&&decide (p<x)&&asc x l
theorem AiY : ∀ {l : List Int} {p : Int},asc p l=true → -1≤p→p≤63→(l.length : Int)≤63-p
 | [],p,_,h1,h2=>by simp; omega
 | x::l,p,h,h1,h2=>by
  simp [asc] at h
  have:=AiY (l:=l) (p:=x) h.2 (by omega) (by omega)
  simp; omega
theorem AgG : ∀ {l : List Int} {p : Int},asc p l=true→∀ x ∈ l,0≤x∧x<64
 | [],p,_,x,hx=>by simp at hx
 | y::l,p,h,x,hx=>by
  simp [asc] at h
  rcases List.mem_cons.1 hx with rfl | hx
  ·omega
  ·exact AgG h.2 x hx
def okR (l : List Int) : Bool := !l.isEmpty&&asc (-1) l
theorem Agj (k : Nat) (l : List Int) (h9 : l.length≤9223372036854775807) : ∀ (m i n : Nat) (B : List Bool),i+m=l.length→m<n→B.length=64→(∀ j : Nat,j<64→B[j]? = some (decide ((j : Int) ∈ l.take i))) →
 ∃ C,Aaj.L1 k l n (i : Int) B=some C∧C.length=64∧∀ j : Nat,j<64→C[j]? = some (decide ((j : Int) ∈ l))
 | 0,i,n+1,B,h,_,hB,hj=>by
  rw [Aaj.L1,if_neg (by omega),Ab3 hB,Ab3 ⟨by simp,hB⟩,Ab3 hB]
  exact ⟨B,rfl,hB,fun j h1=>by rw [hj j h1,List.take_of_length_le (by omega)]⟩
 | m+1,i,n+1,B,h,hn,hB,hj=>by
  have h1 : i<l.length:=by omega
  have d : ∀ x,(x ∈ l.take (i+1))↔(x ∈ l.take i∨x=l[i]):=by
   intro x; rw [List.take_succ_eq_append_getElem h1,List.mem_append,List.mem_singleton]
  rw [Aaj.L1,if_pos (by omega),Aaz h1]
  unfold Ab9
  by_cases hk : 0≤l[i]∧l[i]<64
  ·rw [if_pos hk.1,AaJ,if_pos (by simp [hk.2]),Ab3 (by omega)]
   unfold Aaj.J2
   dsimp only
   rw [Abx _ (by omega)]
   refine Agj k l h9 m (i+1) n _ (by omega) (by omega) (by simp [hB]) fun j h2=>?_
   rw [List.getElem?_set]
   by_cases e : l[i].toNat=j
   ·rw [if_pos e,if_pos (by omega)]
    have : (j : Int)=l[i]:=by omega
    simp [d,this]
   ·rw [if_neg e,hj j h2]
    have : ¬ (j : Int)=l[i]:=by omega
    simp [d,this]
  ·have hf : ∀ c : Option Bool,(Abn (if 0≤l[i] then some (decide (l[i]<64)) else some false) fun v6=>if v6=true then c else none)=(Abn (if 0≤l[i] then some (decide (l[i]<64)) else some false) fun v6=>if v6=true then c else none):=fun _=>rfl
   have hg : (if 0≤l[i] then some (decide (l[i]<64)) else some false)=some false:=by
    split
    ·have : ¬ l[i]<64:=by omega
     simp [this]
    ·rfl
   rw [hg,AaJ,if_neg (by simp)]
   unfold Aaj.J2
   dsimp only
   rw [Abx _ (by omega)]
   refine Agj k l h9 m (i+1) n B (by omega) (by omega) hB fun j h2=>?_
   rw [hj j h2]
   have : ¬ (j : Int)=l[i]:=by omega
   simp [d,this]
theorem Al4 (k : Nat) (l : List Int) (hk : l.length<k) (h9 : l.length≤9223372036854775807) : ∃ C,Aaj k l=some C∧C.length=64∧∀ j : Nat,j<64→C[j]? = some (decide ((j : Int) ∈ l)):=by
 unfold Aaj
 exact Agj k l h9 l.length 0 k _ (by omega) hk (by rw [List.length_replicate]) fun j hj=>by rw [List.getElem?_replicate,if_pos hj]; simp
def Am5 (a b : List Int) : List Int:=sel fun j=>decide (j ∈ a)||decide (j ∈ b)
def Am4 (a b : List Int) : List Int:=sel fun j=>decide (j ∈ a) && !decide (j ∈ b)
theorem AeX (k : Nat) (a b : List Int) (hl : a.length=b.length) (h9 : a.length≤9223372036854775807) : ∀ (m i n : Nat),i+m=a.length→m<n→AaX.L1 k a b n (i : Int)=some (decide (a.drop i=b.drop i))
 | 0,i,n+1,h,_=>by
  rw [AaX.L1,if_neg (by omega),List.drop_of_length_le (by omega),List.drop_of_length_le (by omega)]; simp
 | m+1,i,n+1,h,hn=>by
  have h1 : i<a.length:=by omega
  have h2 : i<b.length:=by omega
  have d3 : (a.drop i=b.drop i)↔(a[i]=b[i]∧a.drop (i+1)=b.drop (i+1)):=by rw [List.drop_eq_getElem_cons h1,List.drop_eq_getElem_cons h2,List.cons.injEq]
  rw [AaX.L1,if_pos (by omega),Aaz h1,Aaz h2]
  by_cases e : a[i]=b[i]
  ·rw [if_neg (by simp [e]),Abx _ (by omega),AeX k a b hl h9 m (i+1) n (by omega) (by omega)]
   simp only [d3,e,true_and]
  ·rw [if_pos e]; simp only [d3,e,false_and,decide_false]
theorem Aht (k : Nat) (a b : List Int) (ha : a.length<k) (h9 : a.length≤9223372036854775807) : AaX k a b=some (decide (a=b)):=by
 unfold AaX
 by_cases h : a.length=b.length
 ·rw [if_neg (by omega)]
  exact AeX k a b h h9 a.length 0 k (by omega) ha
 ·rw [if_pos (by omega)]
  simp
  intro e; exact h (by rw [e])
theorem AeW (k : Nat) (a : List Int) (ha : a.length<k) (h9 : a.length≤9223372036854775807) : AaX k a a=some true:=by rw [Aht k a a ha h9]; simp
def Abz (l : List Int) (i : Nat) : Int:=if i=0 then -1 else l.getD (i-1) 0
theorem Aez (k : Nat) (l : List Int) (hk : l.length<k) (h9 : l.length≤9223372036854775807) : ∀ (m i n : Nat),i+m=l.length→m<n → -1≤Abz l i→(0<i→∃ x ∈ l,0≤x∧x<64)→AaR.L1 k l n (i : Int)=some (!l.isEmpty&&asc (Abz l i) (l.drop i))
 | 0,i,n+1,h,_,_,hi=>by
  rw [AaR.L1,if_neg (by omega),List.drop_of_length_le (by omega)]
  obtain ⟨C,e,h1,h2⟩:=Al4 k l hk h9
  rw [e,AaJ,Ab3 h1]
  by_cases hz : l = []
  ·have : C=List.replicate 64 false:=by
    apply List.ext_getElem?
    intro j
    by_cases hj : j<64
    ·rw [h2 j hj,List.getElem?_replicate,if_pos hj]; simp [hz]
    ·rw [List.getElem?_eq_none (by omega),List.getElem?_eq_none (by rw [List.length_replicate]; omega)]
   rw [this]; simp [hz]
  ·have hl : 0<l.length:=List.length_pos_iff.2 hz
   obtain ⟨x,hx,hr⟩:=hi (by omega)
   have h3:=h2 x.toNat (by omega)
   have : ((x.toNat : Nat) : Int)=x:=by omega
   rw [this] at h3
   have : C≠List.replicate 64 false:=by
    rintro rfl
    rw [List.getElem?_replicate,if_pos (by omega)] at h3
    simp [hx] at h3
   simp only [asc,Bool.and_true]
   rw [bne_iff_ne.2 this]
   simp [hz]
 | m+1,i,n+1,h,hn,hp,hi=>by
  have h1 : i<l.length:=by omega
  have hz : l≠[]:=by rintro rfl; simp at h1
  have hz : (!l.isEmpty)=true:=by simp [hz]
  rw [AaR.L1,if_pos (by omega),Aaz h1,List.drop_eq_getElem_cons h1,hz,Bool.true_and]
  simp only [asc]
  unfold Ab9
  have hn1 : Abz l (i+1)=l[i]:=by simp [Abz,List.getD_eq_getElem?_getD,h1]
  by_cases hk' : 0≤l[i]∧l[i]<64
  ·have rc:=Aez k l hk h9 m (i+1) n (by omega) (by omega) (by rw [hn1]; omega) (fun _=>⟨l[i],List.getElem_mem h1,hk'⟩)
   rw [hz,Bool.true_and,hn1] at rc
   rw [if_pos hk'.1,AaJ,if_neg (by simp [hk'.2])]
   unfold AaR.J2
   dsimp only
   rw [Abx _ (by omega),rc]
   by_cases h0 : 0<i
   ·have h2 : i-1<l.length:=by omega
    rw [if_pos (by omega),show IntKind.wrap .i64 ((i : Int)-1)=((i-1 : Nat) : Int) by rw [w64 (by omega) (by omega)]; omega,Aaz h2]
    have hp1 : Abz l i=l[i-1]:=by
     unfold Abz
     rw [if_neg (by omega),List.getD_eq_getElem?_getD,List.getElem?_eq_getElem h2]; rfl
    rw [hp1]
    by_cases hlt : l[i]≤l[i-1]
    ·rw [if_pos hlt]
     have : ¬ l[i-1]<l[i]:=by omega
     simp [this]
    ·rw [if_neg hlt]
     have : l[i-1]<l[i]:=by omega
     simp [this,hk']
   ·obtain rfl : i=0:=by omega
    rw [if_neg (by omega)]
    have : Abz l 0 = -1:=rfl
    have : Abz l 0<l[0]:=by omega
    simp [this,hk']
  ·have hg : (if 0≤l[i] then some (decide (l[i]<64)) else some false)=some false:=by
    split
    ·have : ¬ l[i]<64:=by omega
     simp [this]
    ·rfl
   rw [hg,AaJ,if_pos (by simp)]
   have : (decide (0≤l[i])&&decide (l[i]<64))=false:=by
    by_cases h2 : 0≤l[i]
    ·have : ¬ l[i]<64:=by omega
     simp [this]
    ·simp [h2]
   rw [this]; simp
theorem AhJ (k : Nat) (l : List Int) (hk : l.length<k) (h9 : l.length≤9223372036854775807) : AaR k l=some (okR l):=by
 unfold AaR
 rw [show (0 : Int)=((0 : Nat) : Int) from rfl,Aez k l hk h9 l.length 0 k (by omega) hk (by simp [Abz]) (by simp)]
 rfl
theorem Adj (k : Nat) (l : List Int) (h9 : l.length≤9223372036854775807) : ∀ (m i n : Nat),i+m=l.length→m<n→AaY.L1 k l n (i : Int)=some (asc (Abz l i) (l.drop i))
 | 0,i,n+1,h,_=>by
  rw [AaY.L1,if_neg (by omega),List.drop_of_length_le (by omega)]; rfl
 | m+1,i,n+1,h,hn=>by
  have h1 : i<l.length:=by omega
  rw [AaY.L1,if_pos (by omega),Aaz h1,List.drop_eq_getElem_cons h1]
  simp only [asc]
  have hn1 : Abz l (i+1)=l[i]:=by simp [Abz,List.getD_eq_getElem?_getD,h1]
  have rc:=Adj k l h9 m (i+1) n (by omega) (by omega)
  rw [hn1] at rc
  by_cases hb : l[i]<0
  ·rw [if_pos hb]
   have : ¬ 0≤l[i]:=by omega
   simp [this]
  rw [if_neg hb]
  by_cases hc : 64≤l[i]
  ·rw [if_pos hc]
   have : ¬ l[i]<64:=by omega
   simp [this]
  rw [if_neg hc]
  have hk1 : 0≤l[i]:=by omega
  have hk2 : l[i]<64:=by omega
  unfold AaY.J2
  dsimp only
  rw [Abx _ (by omega),rc]
  by_cases h0 : 0<i
  ·have h2 : i-1<l.length:=by omega
   rw [if_pos (by omega),show IntKind.wrap .i64 ((i : Int)-1)=((i-1 : Nat) : Int) by rw [w64 (by omega) (by omega)]; omega,Aaz h2]
   have hp1 : Abz l i=l[i-1]:=by
    unfold Abz
    rw [if_neg (by omega),List.getD_eq_getElem?_getD,List.getElem?_eq_getElem h2]; rfl
   rw [hp1]
   by_cases hlt : l[i]≤l[i-1]
   ·rw [if_pos hlt]
    have : ¬ l[i-1]<l[i]:=by omega
    simp [this]
   ·rw [if_neg hlt]
    have : l[i-1]<l[i]:=by omega
    simp [this,hk1,hk2]
  ·obtain rfl : i=0:=by omega
   rw [if_neg (by omega)]
   have : Abz l 0 = -1:=rfl
   have : Abz l 0<l[0]:=by omega
   simp [this,hk1,hk2]
theorem AgV (k : Nat) (l : List Int) (hk : l.length<k) (h9 : l.length≤9223372036854775807) : AaY k l=some (okR l):=by
 unfold AaY okR
 by_cases h0 : (l.length : Int)=0
 ·rw [if_pos h0]
  have : l = []:=List.length_eq_zero_iff.1 (by omega)
  simp [this]
 have hne : l≠[]:=by rintro rfl; simp at h0
 rw [if_neg h0]
 by_cases h1 : 64<(l.length : Int)
 ·rw [if_pos h1]
  have : ¬ asc (-1) l=true:=fun h=>by have:=AiY h (by omega) (by omega); omega
  simp only [Bool.not_eq_true] at this
  rw [this]; simp
 ·rw [if_neg h1,show (0 : Int)=((0 : Nat) : Int) from rfl,Adj k l h9 l.length 0 k (by omega) hk]
  have : Abz l 0 = -1:=rfl
  rw [this]; simp [hne]
end Go.TF
set_option linter.unusedVariables false
set_option linter.unusedSimpArgs false
namespace Go.TF
open Go Go.Abs
def Akj (a b : Int) : Int:=if b<1 then 0 else if Int.tmod a b<0 then IntKind.wrap .i64 (Int.tmod a b+b) else Int.tmod a b
theorem AlD (k : Nat) (a b : Int) : Abj k a b=some (Akj a b):=by
 unfold Abj Akj Abj.J1
 split; · rfl
 rw [Ab3 (by omega)]
 split <;> rfl
theorem Ahd (a b : Int) (h1 : 1≤b) (h2 : b≤1000000000) : 0≤Akj a b∧Akj a b<b:=by
 have:=Int.tmod_lt_of_pos a (show 0<b by omega)
 have:=Int.lt_tmod_of_pos a (show 0<b by omega)
 unfold Akj
 rw [if_neg (by omega)]
 split
 ·rw [w64 (by omega) (by omega)]; omega
 ·omega
abbrev Pos (p : Int) : Prop:=0≤p∧p≤1000
theorem AdX (k : Nat) (l : List Int) (p n : Int) (hl : l.length≤1000) (hp : Pos p) : ∃ a q,Aan k l p n=some (a,q)∧Pos q∧(1≤n→n≤1000000000→0≤a∧a<n):=by
 unfold Aan
 by_cases h : (l.length : Int)≤p
 ·rw [if_pos h]; exact ⟨0,p,rfl,hp,fun _ _=>by omega⟩
 ·rw [if_neg h]
  obtain ⟨i,rfl⟩:=Int.eq_ofNat_of_zero_le hp.1
  have e1 : IntKind.wrap .i64 (IntKind.wrap .i64 ((i : Int)+1)-1)=i:=by
   rw [w64 (n:=(i : Int)+1) (by omega) (by omega),w64 (by omega) (by omega)]; omega
  rw [e1,Aaz (by omega),AlD,AaJ,w64 (by omega) (by omega)]
  exact ⟨_,_,rfl,by omega,fun h1 h2=>Ahd _ _ h1 h2⟩
end Go.TF
set_option linter.unusedVariables false
set_option linter.unusedSimpArgs false
namespace Go.TF
open Go Go.Abs
def AlM (rel : Int→Int→Bool) : Option Int→Int→Bool
 | none,_=>true
 | some q,x=>rel q x
@[simp] theorem Aka (rel : Int→Int→Bool) (x : Int) : AlM rel none x=true:=rfl
@[simp] theorem AkZ (rel : Int→Int→Bool) (q x : Int) : AlM rel (some q) x=rel q x:=rfl
def Ade (ok : Int→Bool) (rel : Int→Int→Bool) (p : Option Int) (l : List Int) : Bool :=
 match l with
 | []=>true
 | x::l=>ok x&&AlM rel p x&&Ade ok rel (some x) l
theorem Adc (ok : Int→Bool) (rel : Int→Int→Bool) (p : Option Int) (x : Int) (l : List Int) : Ade ok rel p (x::l)=(ok x&&AlM rel p x&&Ade ok rel (some x) l):=rfl
def prv (l : List Int) (i : Nat) : Option Int:=if i=0 then none else l[i-1]?
theorem AeJ {l : List Int} {i : Nat} (h : i<l.length) : prv l (i+1)=some l[i]:=by simp [prv,h]
theorem Ag6 (i : Nat) (h0 : 0<i) (h : i<9223372036854775807) : IntKind.wrap .i64 ((i : Int)-1)=((i-1 : Nat) : Int):=by rw [w64 (by omega) (by omega)]; omega
theorem itf {α : Type} (x y : α) : (if (!false)=true then x else y)=x:=rfl
theorem itt {α : Type} (x y : α) : (if (!true)=true then x else y)=y:=rfl
theorem AhN {ok ok' : Int→Bool} {rel rel' : Int→Int→Bool} (h : ∀ x,ok x=ok' x) (h2 : ∀ x y,rel x y=rel' x y) : Ade ok rel=Ade ok' rel':=by
 rw [show ok=ok' from funext h,show rel=rel' from funext fun x=>funext fun y=>h2 x y]
theorem AeZ (k : Nat) (l : List Int) (lo hi : Int) (h9 : l.length≤9223372036854775807) : ∀ (m i n : Nat),i+m=l.length→m<n →
 AaP.L1 k l lo hi n (i : Int)=some (Ade (fun x=>decide (lo≤x)&&decide (x≤hi)) (fun q x=>decide (q<x)) (prv l i) (l.drop i))
 | 0,i,n+1,h,_=>by rw [AaP.L1,if_neg (by omega),List.drop_of_length_le (by omega)]; rfl
 | m+1,i,n+1,h,hn=>by
  have h1 : i<l.length:=by omega
  have ih:=AeZ k l lo hi h9 m (i+1) n (by omega) (by omega)
  rw [AeJ h1] at ih
  rw [AaP.L1,if_pos (by omega),Aaz h1,List.drop_eq_getElem_cons h1,Adc]
  by_cases a : l[i]<lo
  ·rw [if_pos a]; have : ¬ lo≤l[i]:=by omega
   simp [this]
  by_cases b : hi<l[i]
  ·rw [if_neg a,if_pos b]; have : ¬ l[i]≤hi:=by omega
   simp [this]
  rw [if_neg a,if_neg b]
  have a' : lo≤l[i]:=by omega
  have b' : l[i]≤hi:=by omega
  unfold AaP.J2
  by_cases c : i=0
  ·subst c
   rw [if_neg (by omega),Abx 0 (by omega)]; dsimp only; rw [ih]
   simp [prv,a',b']
  ·rw [if_pos (by omega),Ag6 i (by omega) (by omega),Aaz (by omega),Abx i (by omega)]; dsimp only; rw [ih]
   have hp : prv l i=some (l[i-1]'(by omega)):=by simp [prv,c,List.getElem?_eq_getElem (show i-1<l.length by omega)]
   rw [hp]
   by_cases d : l[i]≤l[i-1]
   ·rw [if_pos d]; have : ¬ l[i-1]<l[i]:=by omega
    simp [this]
   ·rw [if_neg d]; have : l[i-1]<l[i]:=by omega
    simp [a',b',this]
theorem Ahu (k : Nat) (l : List Int) (lo hi : Int) (h9 : l.length≤9223372036854775807) (hk : l.length<k) :
 AaP k l lo hi=some (Ade (fun x=>decide (lo≤x)&&decide (x≤hi)) (fun q x=>decide (q<x)) none l):=AeZ k l lo hi h9 l.length 0 k (by omega) hk
theorem Ae3 (k : Nat) (l : List Int) (v : Int) (h9 : l.length≤9223372036854775807) : ∀ (m i n : Nat),i+m=l.length→m<n →
 Aag.L1 k l v n (i : Int)=some (Ade (fun x=>decide (0≤x)&&decide (x<v)) (fun q x=>decide (q<x)) (prv l i) (l.drop i))
 | 0,i,n+1,h,_=>by rw [Aag.L1,if_neg (by omega),List.drop_of_length_le (by omega)]; rfl
 | m+1,i,n+1,h,hn=>by
  have h1 : i<l.length:=by omega
  have ih:=Ae3 k l v h9 m (i+1) n (by omega) (by omega)
  rw [AeJ h1] at ih
  rw [Aag.L1,if_pos (by omega),Aaz h1,List.drop_eq_getElem_cons h1,Adc]
  by_cases a : l[i]<0
  ·rw [if_pos a]; have : ¬ 0≤l[i]:=by omega
   simp [this]
  by_cases b : v≤l[i]
  ·rw [if_neg a,if_pos b]; have : ¬ l[i]<v:=by omega
   simp [this]
  rw [if_neg a,if_neg b]
  have a' : 0≤l[i]:=by omega
  have b' : l[i]<v:=by omega
  unfold Aag.J2
  by_cases c : i=0
  ·subst c
   rw [if_neg (by omega),Abx 0 (by omega)]; dsimp only; rw [ih]
   simp [prv,a',b']
  ·rw [if_pos (by omega),Ag6 i (by omega) (by omega),Aaz (by omega),Abx i (by omega)]; dsimp only; rw [ih]
   have hp : prv l i=some (l[i-1]'(by omega)):=by simp [prv,c,List.getElem?_eq_getElem (show i-1<l.length by omega)]
   rw [hp]
   by_cases d : l[i]≤l[i-1]
   ·rw [if_pos d]; have : ¬ l[i-1]<l[i]:=by omega
    simp [this]
   ·rw [if_neg d]; have : l[i-1]<l[i]:=by omega
    simp [a',b',this]
theorem Aim (k : Nat) (l : List Int) (v : Int) (h9 : l.length≤9223372036854775807) (hk : l.length<k) :
 Aag k l v=some (Ade (fun x=>decide (0≤x)&&decide (x<v)) (fun q x=>decide (q<x)) none l):=Ae3 k l v h9 l.length 0 k (by omega) hk
def Ahp : Option Int→List Int→Bool:=Ade (fun x=>decide (1≤x)&&decide (x≤1000)) (fun q x=>decide (x≤q))
theorem AhI (k : Nat) (l : List Int) (h9 : l.length≤9223372036854775807) : ∀ (m i n : Nat),i+m=l.length→m<n →
 AaK.L1 k l n (i : Int)=some (if Ahp (prv l i) (l.drop i)=true then 0 else 15)
 | 0,i,n+1,h,_=>by rw [AaK.L1,if_neg (by omega),List.drop_of_length_le (by omega)]; rfl
 | m+1,i,n+1,h,hn=>by
  have h1 : i<l.length:=by omega
  have ih:=AhI k l h9 m (i+1) n (by omega) (by omega)
  rw [AeJ h1] at ih
  rw [AaK.L1,if_pos (by omega),Aaz h1,List.drop_eq_getElem_cons h1,Ahp,Adc,Abb]
  by_cases a : 1≤l[i]
  case neg=>rw [if_neg a,AaJ]; simp [a]
  by_cases b : l[i]≤1000
  case neg=>rw [if_pos a,AaJ]; simp [b]
  rw [if_pos a,AaJ,if_neg (by simp [b])]
  unfold AaK.J2
  by_cases c : i=0
  ·subst c
   rw [if_neg (by omega),Abx 0 (by omega)]; dsimp only; rw [ih]
   simp [prv,a,b,Ahp]
  ·rw [if_pos (by omega),Ag6 i (by omega) (by omega),Aaz (by omega),Abx i (by omega)]; dsimp only; rw [ih]
   have hp : prv l i=some (l[i-1]'(by omega)):=by simp [prv,c,List.getElem?_eq_getElem (show i-1<l.length by omega)]
   rw [hp]
   by_cases d : l[i-1]<l[i]
   ·rw [if_pos d]; have : ¬ l[i]≤l[i-1]:=by omega
    simp [this]
   ·rw [if_neg d]; have : l[i]≤l[i-1]:=by omega
    simp [a,b,this,Ahp]; rfl
theorem Ag7 (k : Nat) (l : List Int) (h9 : l.length≤9223372036854775807) : ∀ (m i n : Nat),i+m=l.length→m<n →
 AaU.L1 k l n (i : Int)=some (Ahp (prv l i) (l.drop i))
 | 0,i,n+1,h,_=>by rw [AaU.L1,if_neg (by omega),List.drop_of_length_le (by omega)]; rfl
 | m+1,i,n+1,h,hn=>by
  have h1 : i<l.length:=by omega
  have ih:=Ag7 k l h9 m (i+1) n (by omega) (by omega)
  rw [AeJ h1] at ih
  rw [AaU.L1,if_pos (by omega),Aaz h1,List.drop_eq_getElem_cons h1,Ahp,Adc]
  by_cases a : l[i]<1
  ·rw [if_pos a]; have : ¬ 1≤l[i]:=by omega
   simp [this]
  by_cases b : 1000<l[i]
  ·rw [if_neg a,if_pos b]; have : ¬ l[i]≤1000:=by omega
   simp [this]
  have a' : 1≤l[i]:=by omega
  have b' : l[i]≤1000:=by omega
  rw [if_neg a,if_neg b]
  unfold AaU.J2
  by_cases c : i=0
  ·subst c
   rw [if_neg (by omega),Abx 0 (by omega)]; dsimp only; rw [ih]
   simp [prv,a',b',Ahp]
  ·rw [if_pos (by omega),Ag6 i (by omega) (by omega),Aaz (by omega),Abx i (by omega)]; dsimp only; rw [ih]
   have hp : prv l i=some (l[i-1]'(by omega)):=by simp [prv,c,List.getElem?_eq_getElem (show i-1<l.length by omega)]
   rw [hp]
   by_cases d : l[i-1]<l[i]
   ·rw [if_pos d]; have : ¬ l[i]≤l[i-1]:=by omega
    simp [this]
   ·rw [if_neg d]; have : l[i]≤l[i-1]:=by omega
    simp [a',b',this,Ahp]
def Aih (s t : List Int) (lv : Int) : Int :=
 if s≠[]∧Ade (fun x=>decide (0≤x)&&decide (x≤63)) (fun q x=>decide (q<x)) none s=true∧1≤t.length∧t.length≤8∧1≤lv∧lv≤3∧Ahp none t=true then 0 else 15
theorem Akp (k : Nat) (hk : 0<k) : Aad k 64 [] []=some 0:=by
 obtain ⟨n,rfl⟩ : ∃ n,k=n+1:=⟨k-1,by omega⟩
 unfold Aad Abb AaP
 rw [if_pos (by omega),AaJ,AaP.L1,Aad.L1]
 simp
theorem AlX {l : List Int} : ((l.length : Int)=0)↔l = []:=by cases l <;> simp; omega
theorem Ak2 (k : Nat) (s t : List Int) (lv : Int) (hs : s.length≤9223372036854775807) (ht : t.length≤9223372036854775807) (hk : s.length<k) (hk2 : t.length<k) :
 AaK k 64 [] [] s t lv=some (Aih s t lv):=by
 unfold AaK Aih
 rw [Akp k (by omega),AaJ,if_neg (by simp),show IntKind.wrap .i64 ((64 : Int)-1)=63 from rfl,Ahu k s 0 63 hs hk]
 by_cases a : s = []
 ·rw [if_pos (AlX.2 a),if_neg (by simp [a])]
 rw [if_neg (by rw [AlX]; exact a),AaJ]
 generalize Ade _ _ none s=S
 cases S
 ·rw [itf,if_neg (by simp)]
 rw [itt]
 unfold Abb
 by_cases b : (1 : Int)≤(t.length : Int)∧(t.length : Int)≤8
 case neg =>
  have h1 : (if (1 : Int)≤(t.length : Int) then some (decide ((t.length : Int)≤8)) else some false)=some false:=by
   split
   ·have : ¬ (t.length : Int)≤8:=fun h=>b ⟨by assumption,h⟩
    simp [this]
   ·rfl
  rw [h1,AaJ,itf,if_neg (by rintro ⟨_,_,h1,h2,_⟩; exact b ⟨by omega,by omega⟩)]
 rw [if_pos b.1,AaJ,if_neg (by simp [b.2])]
 by_cases c : 1≤lv∧lv≤3
 case neg =>
  have h1 : (if 1≤lv then some (decide (lv≤3)) else some false)=some false:=by
   split
   ·have : ¬ lv≤3:=fun h=>c ⟨by assumption,h⟩
    simp [this]
   ·rfl
  rw [h1,AaJ,itf,if_neg (by rintro ⟨_,_,_,_,h1,h2,_⟩; exact c ⟨by omega,by omega⟩)]
 rw [if_pos c.1,AaJ,if_neg (by simp [c.2]),show (0 : Int)=((0 : Nat) : Int) from rfl,AhI k t ht t.length 0 k (by omega) hk2]
 have h1 : 1≤t.length:=by omega
 have h2 : t.length≤8:=by omega
 simp only [prv,if_true,List.drop_zero,h1,h2,c.1,c.2,a,ne_eq,not_false_eq_true,true_and]
 rfl
theorem Aip (k : Nat) (s t : List Int) (lv : Int) (hs : s.length≤9223372036854775807) (ht : t.length≤9223372036854775807) (hk : s.length<k) (hk2 : t.length<k) :
 AcE k 64 [] [] s t lv=some (Aih s t lv):=by
 have g0 : AaS k 64 [] []=some 0:=by
  obtain ⟨n,rfl⟩ : ∃ n,k=n+1:=⟨k-1,by omega⟩
  unfold AaS Aag
  rw [Aag.L1,AaS.L1]
  simp
 unfold AcE AaU Aih
 rw [g0,AaJ,if_neg (by simp),Aim k s 64 hs hk,AhN (ok':=fun x=>decide (0≤x)&&decide (x≤63)) (rel':=fun q x=>decide (q<x)) (fun x=>by
  congr 1; exact decide_eq_decide.2 (by omega)) (fun _ _=>rfl)]
 by_cases a : s = []
 ·rw [if_pos (AlX.2 a),AaJ,itf,if_neg (by simp [a])]
 rw [if_neg (by rw [AlX]; exact a),AaJ]
 generalize Ade _ _ none s=S
 cases S
 ·rw [itf,AaJ,itf,if_neg (by simp)]
 rw [itt]
 by_cases b1 : (t.length : Int)<1
 ·rw [if_pos b1,AaJ,itf,if_neg (by rintro ⟨_,_,h1,_⟩; omega)]
 by_cases b2 : 8<(t.length : Int)
 ·rw [if_neg b1,if_pos b2,AaJ,itf,if_neg (by rintro ⟨_,_,_,h1,_⟩; omega)]
 by_cases c1 : lv<1
 ·rw [if_neg b1,if_neg b2,if_pos c1,AaJ,itf,if_neg (by rintro ⟨_,_,_,_,h1,_⟩; omega)]
 by_cases c2 : 3<lv
 ·rw [if_neg b1,if_neg b2,if_neg c1,if_pos c2,AaJ,itf,if_neg (by rintro ⟨_,_,_,_,_,h1,_⟩; omega)]
 rw [if_neg b1,if_neg b2,if_neg c1,if_neg c2,show (0 : Int)=((0 : Nat) : Int) from rfl,Ag7 k t ht t.length 0 k (by omega) hk2,AaJ]
 have h1 : 1≤t.length:=by omega
 have h2 : t.length≤8:=by omega
 have h3 : 1≤lv:=by omega
 have h4 : lv≤3:=by omega
 simp only [prv,if_true,List.drop_zero,h1,h2,h3,h4,a,ne_eq,not_false_eq_true,true_and]
 cases Ahp none t <;> simp
def AhQ (g s t : List Int) (lv seats span quota : Int) : Int :=
 if okR g=true then (if Aih s t lv=0 then (if 1≤seats∧seats≤9∧1≤span∧span≤1000000∧0≤quota∧quota≤64 then 0 else 40) else Aih s t lv) else 43
theorem Aho (seats span quota : Int) : (if seats<1 then some 40 else if 9<seats then some 40 else if span<1 then some 40 else if 1000000<span then some 40 else if quota<0 then some 40 else if 64<quota then some 40 else some 0 : Option Int) =
 some (if 1≤seats∧seats≤9∧1≤span∧span≤1000000∧0≤quota∧quota≤64 then 0 else 40):=by
 repeat' split
 all_goals first | rfl | omega
theorem AdE (k : Nat) (g s t : List Int) (lv seats span quota : Int) (hg : g.length≤9223372036854775807) (hs : s.length≤9223372036854775807) (ht : t.length≤9223372036854775807) (hkg : g.length<k) (hk : s.length<k) (hk2 : t.length<k) :
 AbD k g s t lv seats span quota=some (AhQ g s t lv seats span quota):=by
 unfold AbD AhQ
 rw [AhJ k g hkg hg,AaJ,Ak2 k s t lv hs ht hk hk2]
 cases okR g
 ·rfl
 rw [itt,AaJ,Aho,if_pos rfl]
 by_cases h : Aih s t lv=0 <;> simp [h]
theorem Acg (k : Nat) (g s t : List Int) (lv seats span quota : Int) (hg : g.length≤9223372036854775807) (hs : s.length≤9223372036854775807) (ht : t.length≤9223372036854775807) (hkg : g.length<k) (hk : s.length<k) (hk2 : t.length<k) :
 Abd k g s t lv seats span quota=some (AhQ g s t lv seats span quota):=by
 unfold Abd AhQ
 rw [AgV k g hkg hg,AaJ,Aip k s t lv hs ht hk hk2]
 cases okR g
 ·rfl
 rw [itt,AaJ,Aho,if_pos rfl]
 by_cases h : Aih s t lv=0 <;> simp [h]
theorem Aew (k : Nat) (l : List Int) (p : Int) (c : List Int) (hl : l.length≤1000) (hp : Pos p) (h0 : 0<c.length) (h9 : c.length≤1000000) : ∃ x q,Aal k l p c=some (x,q)∧Pos q∧x ∈ c:=by
 unfold Aal
 obtain ⟨a,q,e,hq,ha⟩:=AdX k l p (c.length : Int) hl hp
 have ha:=ha (by omega) (by omega)
 rw [e,Aao]
 obtain ⟨j,rfl⟩:=Int.eq_ofNat_of_zero_le ha.1
 have hj : j<c.length:=by omega
 rw [Aaz hj]
 exact ⟨c[j],q,rfl,hq,List.getElem_mem hj⟩
theorem AlC (k : Nat) (l : List Int) (p n : Int) (hl : l.length≤1000) (hp : Pos p) (h1 : 1≤n) (h9 : n≤1000000) : ∃ b q,Abk k l p n=some (b,q)∧Pos q:=by
 unfold Abk
 obtain ⟨a,q,e,hq,ha⟩:=AdX k l p n hl hp
 rw [e,Aao]
 exact ⟨_,_,rfl,hq⟩
structure AjI (g s t : List Int) (lv seats span quota : Int) : Prop where
 ok : AhQ g s t lv seats span quota=0
 gg : ∃ n : Nat,2≤n∧n≤6∧g=([0,1,2,3,4,5,6] : List Int).take n
 ss : s = [0]∨s = [0,1]
 tl : t.length=2
 tv : ∃ a b,t = [a,b]∧a ∈ ([5,9,3] : List Int)∧(b=a∨b ∈ ([3,2,1] : List Int))
 lv : lv ∈ ([1,1,2] : List Int)
 seats : seats ∈ ([3,1,4,5,2] : List Int)
 span : span ∈ ([10,20,5,1] : List Int)
 quota : quota ∈ ([1,2,0,5] : List Int)
theorem Ahx (s : List Int) (a b lv : Int) (hs : s = [0]∨s = [0,1]) (ha : 1≤a∧a≤1000) (hb : 1≤b∧b≤a) (hl : 1≤lv∧lv≤3) : Aih s [a,b] lv=0:=by
 unfold Aih
 rw [if_pos]
 refine ⟨by rcases hs with rfl | rfl <;> simp,by rcases hs with rfl | rfl <;> rfl,by simp,by simp,hl.1,hl.2,?_⟩
 simp [Ahp,Ade]; omega
theorem Aiu (n : Nat) (h : 2≤n∧n≤6) : okR (([0,1,2,3,4,5,6] : List Int).take n)=true:=by
 have : n=2∨n=3∨n=4∨n=5∨n=6:=by omega
 rcases this with rfl | rfl | rfl | rfl | rfl <;> rfl
theorem AjG (k : Nat) (l : List Int) (p : Int) (hl : l.length≤1000) (hp : Pos p) : ∃ g s t lv seats span quota q,Aa2 k l p=some (g,s,t,lv,seats,span,quota,q)∧Pos q∧AjI g s t lv seats span quota:=by
 unfold Aa2
 obtain ⟨seats,p1,e1,q1,m1⟩:=Aew k l p [3,1,4,5,2] hl hp (by simp) (by simp)
 obtain ⟨span,p2,e2,q2,m2⟩:=Aew k l p1 [10,20,5,1] hl q1 (by simp) (by simp)
 obtain ⟨quota,p3,e3,q3,m3⟩:=Aew k l p2 [1,2,0,5] hl q2 (by simp) (by simp)
 obtain ⟨a,p4,e4,q4,m4⟩:=AdX k l p3 5 hl q3
 have m4:=m4 (by omega) (by omega)
 obtain ⟨t0,p5,e5,q5,m5⟩:=Aew k l p4 [4,8,2] hl q4 (by simp) (by simp)
 obtain ⟨t1,p6,e6,q6,m6⟩:=Aew k l p5 [2,1,0] hl q5 (by simp) (by simp)
 obtain ⟨lv,p7,e7,q7,m7⟩:=Aew k l p6 [1,1,2] hl q6 (by simp) (by simp)
 obtain ⟨b,p8,e8,q8⟩:=AlC k l p7 3 hl q7 (by omega) (by omega)
 have r5 : 2≤t0∧t0≤8:=by simp at m5; omega
 have r6 : 0≤t1∧t1≤2:=by simp at m6; omega
 have wa : IntKind.wrap .i64 (2+a)=2+a:=w64 (by omega) (by omega)
 have w0 : IntKind.wrap .i64 (1+t0)=1+t0:=w64 (by omega) (by omega)
 have w1 : IntKind.wrap .i64 (1+t1)=1+t1:=w64 (by omega) (by omega)
 rw [e1,Aao,e2,Aao,e3,Aao,e4,Aao,wa,Ab3 ⟨by omega,by simp; omega⟩,e5,Aao,e6,Aao,e7,Aao,e8,Aao]
 have key : ∀ s : List Int,(s = [0]∨s = [0,1])→∃ g t,Aa2.J1 k seats span quota a t0 t1 lv s p8=some (g,s,t,lv,seats,span,quota,p8)∧AjI g s t lv seats span quota:=by
  intro s hs
  have hJ : Aa2.J1 k seats span quota a t0 t1 lv s p8=some (([0,1,2,3,4,5,6] : List Int).take (2+a).toNat,s,[1+t0,if 1+t1<1+t0 then 1+t1 else 1+t0],lv,seats,span,quota,p8):=by
   unfold Aa2.J1
   rw [wa,w0,w1]
   simp [chk,idx,Aje]
  refine ⟨_,_,hJ,?_⟩
  have hn2 : 2≤(2+a).toNat∧(2+a).toNat≤6:=by omega
  have hx1 : 1≤(if 1+t1<1+t0 then 1+t1 else 1+t0)∧(if 1+t1<1+t0 then 1+t1 else 1+t0)≤1+t0:=by split <;> omega
  have r7 : 1≤lv∧lv≤2:=by simp at m7; omega
  have r1 : 1≤seats∧seats≤5:=by simp at m1; omega
  have r2 : 1≤span∧span≤20:=by simp at m2; omega
  have r3 : 0≤quota∧quota≤5:=by simp at m3; omega
  refine ⟨?_,⟨_,hn2.1,hn2.2,rfl⟩,hs,rfl,⟨1+t0,(if 1+t1<1+t0 then 1+t1 else 1+t0),rfl,?_,?_⟩,m7,m1,m2,m3⟩
  ·unfold AhQ
   rw [if_pos (Aiu _ hn2),Ahx s _ _ lv hs (by omega) hx1 (by omega),if_pos rfl,if_pos (by omega)]
  ·simp at m5 ⊢; omega
  ·simp at m6 ⊢; split <;> omega
 cases b
 ·rw [if_neg (by simp)]
  obtain ⟨g,t,h1,h2⟩:=key [0] (.inl rfl)
  exact ⟨g,[0],t,lv,seats,span,quota,p8,h1,q8,h2⟩
 ·rw [if_pos rfl]
  obtain ⟨g,t,h1,h2⟩:=key [0,1] (.inr rfl)
  exact ⟨g,[0,1],t,lv,seats,span,quota,p8,h1,q8,h2⟩
theorem AjI.lens {g s t : List Int} {lv seats span quota : Int} (h : AjI g s t lv seats span quota) : g.length≤10∧s.length≤10∧t.length≤10:=by
 obtain ⟨n,_,h2,rfl⟩:=h.gg
 have:=h.tl
 refine ⟨by simp; omega,?_,by omega⟩
 rcases h.ss with rfl | rfl <;> simp
theorem AjR (k : Nat) (l : List Int) (p : Int) (g s t : List Int) (lv seats span quota : Int) (hl : l.length≤1000) (hp : Pos p) (hg : g.length≤10) (hs : s.length≤10) (ht : t.length≤10) :
 ∃ g' s' t' lv' seats' span' quota' q,Aap k l p g s t lv seats span quota=some (g',s',t',lv',seats',span',quota',q)∧Pos q∧g'.length≤10∧s'.length≤10∧t'.length≤10:=by
 unfold Aap
 obtain ⟨a,p1,e1,q1,m1⟩:=AdX k l p 7 hl hp
 rw [e1,Aao]
 by_cases a0 : a=0
 ·rw [if_pos a0]
  obtain ⟨c,p2,e2,q2,m2⟩:=AdX k l p1 5 hl q1
  have m2:=m2 (by omega) (by omega)
  rw [e2,Aao]
  by_cases c0 : c=0
  ·rw [if_pos c0]; exact ⟨_,_,_,_,_,_,_,_,rfl,q2,by simp,hs,ht⟩
  rw [if_neg c0]
  by_cases c1 : c=1
  ·rw [if_pos c1]; exact ⟨_,_,_,_,_,_,_,_,rfl,q2,by simp,hs,ht⟩
  rw [if_neg c1]
  by_cases c2 : c=2
  ·rw [if_pos c2]; exact ⟨_,_,_,_,_,_,_,_,rfl,q2,by simp,hs,ht⟩
  rw [if_neg c2]
  by_cases c3 : c=3
  ·rw [if_pos c3]; exact ⟨_,_,_,_,_,_,_,_,rfl,q2,by simp,hs,ht⟩
  rw [if_neg c3]
  rw [if_pos (by omega)]; exact ⟨_,_,_,_,_,_,_,_,rfl,q2,by simp,hs,ht⟩
 rw [if_neg a0]
 by_cases a1 : a=1
 ·rw [if_pos a1]
  obtain ⟨x,p2,e2,q2,_⟩:=Aew k l p1 [0,-1,9,10] hl q1 (by simp) (by simp)
  rw [e2,Aao]; exact ⟨_,_,_,_,_,_,_,_,rfl,q2,hg,hs,ht⟩
 rw [if_neg a1]
 by_cases a2 : a=2
 ·rw [if_pos a2]
  obtain ⟨x,p2,e2,q2,_⟩:=Aew k l p1 [0,-1,1000000,1000001] hl q1 (by simp) (by simp)
  rw [e2,Aao]; exact ⟨_,_,_,_,_,_,_,_,rfl,q2,hg,hs,ht⟩
 rw [if_neg a2]
 by_cases a3 : a=3
 ·rw [if_pos a3]
  obtain ⟨x,p2,e2,q2,_⟩:=Aew k l p1 [-1,64,65] hl q1 (by simp) (by simp)
  rw [e2,Aao]; exact ⟨_,_,_,_,_,_,_,_,rfl,q2,hg,hs,ht⟩
 rw [if_neg a3]
 by_cases a4 : a=4
 ·rw [if_pos a4]
  obtain ⟨c,p2,e2,q2,m2⟩:=AdX k l p1 3 hl q1
  have m2:=m2 (by omega) (by omega)
  rw [e2,Aao]
  by_cases c0 : c=0
  ·rw [if_pos c0]; exact ⟨_,_,_,_,_,_,_,_,rfl,q2,hg,by simp,ht⟩
  rw [if_neg c0]
  by_cases c1 : c=1
  ·rw [if_pos c1]; exact ⟨_,_,_,_,_,_,_,_,rfl,q2,hg,by simp,ht⟩
  rw [if_neg c1]
  rw [if_pos (by omega)]; exact ⟨_,_,_,_,_,_,_,_,rfl,q2,hg,by simp,ht⟩
 rw [if_neg a4]
 by_cases a5 : a=5
 ·rw [if_pos a5]
  obtain ⟨c,p2,e2,q2,m2⟩:=AdX k l p1 4 hl q1
  have m2:=m2 (by omega) (by omega)
  rw [e2,Aao]
  by_cases c0 : c=0
  ·rw [if_pos c0]; exact ⟨_,_,_,_,_,_,_,_,rfl,q2,hg,hs,by simp⟩
  rw [if_neg c0]
  by_cases c1 : c=1
  ·rw [if_pos c1]; exact ⟨_,_,_,_,_,_,_,_,rfl,q2,hg,hs,by simp⟩
  rw [if_neg c1]
  by_cases c2 : c=2
  ·rw [if_pos c2]; exact ⟨_,_,_,_,_,_,_,_,rfl,q2,hg,hs,by simp⟩
  rw [if_neg c2]
  rw [if_pos (by omega)]; exact ⟨_,_,_,_,_,_,_,_,rfl,q2,hg,hs,by simp⟩
 rw [if_neg a5]
 obtain ⟨x,p2,e2,q2,_⟩:=Aew k l p1 [0,4,-1] hl q1 (by simp) (by simp)
 rw [e2,Aao]; exact ⟨_,_,_,_,_,_,_,_,rfl,q2,hg,hs,ht⟩
theorem AiA (k : Nat) (l : List Int) : Ac9 k l=some (decide ((l.length : Int)≤400)):=rfl
theorem Aix (k : Nat) (l : List Int) : Adn k l=some (l,0):=rfl
end Go.TF
set_option linter.unusedVariables false
set_option linter.unusedSimpArgs false
namespace Go.TF
open Go Go.Abs
theorem Ah8 : maxLen=9223372036854775807:=by decide
def Ad6 (v5 : List Int) (x : Int) : List Int :=
 v5.set (x / 32).toNat (AcZ .or .i64 (v5.getD (x / 32).toNat 0) (IntKind.wrap .i64 (1*2 ^ (min ((x % 32).toNat) 64))))
theorem Agr (v5 : List Int) (x : Int) : (Ad6 v5 x).length=v5.length:=by simp [Ad6]
def AmF (l : List Int) : List Int×Int:=if okR l=true then (l.foldl Ad6 [0,0],0) else ([],43)
theorem AmY (x : Int) (h0 : 0≤x) (h1 : x<64) : IntKind.wrap .i64 (Int.tdiv x 32)=x / 32:=by
 rw [Int.tdiv_eq_ediv_of_nonneg h0,w64 (by omega) (by omega)]
theorem AmX (x : Int) (h0 : 0≤x) : Int.tmod x 32=x % 32:=Int.tmod_eq_emod_of_nonneg h0
theorem Aei (k : Nat) (l : List Int) (h9 : l.length≤9223372036854775807) (hr : ∀ x ∈ l,0≤x∧x<64) : ∀ (m i n : Nat) (v5 : List Int),i+m=l.length→m<n→v5.length=2→Aaf.L1 k l n (i : Int) v5=some ((l.drop i).foldl Ad6 v5,0)
 | 0,i,n+1,v5,h,_,_=>by rw [Aaf.L1,if_neg (by omega),List.drop_of_length_le (by omega)]; rfl
 | m+1,i,n+1,v5,h,hn,h2=>by
  have h1 : i<l.length:=by omega
  have hx:=hr l[i] (List.getElem_mem h1)
  rw [Aaf.L1,if_pos (by omega),Aaz h1,AmY _ hx.1 hx.2,AmX _ hx.1,Ab3 (by omega)]
  obtain ⟨q,hq⟩:=Int.eq_ofNat_of_zero_le (show 0≤l[i] / 32 by omega)
  have hq2 : q<v5.length:=by omega
  rw [hq,Aaz hq2,Ab3 (by omega),Ab3 (by omega),Abx _ (by omega),List.drop_eq_getElem_cons h1,List.foldl_cons]
  have e : Ad6 v5 l[i]=v5.set ((q : Nat) : Int).toNat (AcZ .or .i64 v5[q] (IntKind.wrap .i64 (1*2 ^ (min ((l[i] % 32).toNat) 64)))):=by
   unfold Ad6
   rw [hq]
   simp [List.getD_eq_getElem?_getD,hq2]
  rw [← e]
  exact Aei k l h9 hr m (i+1) n _ (by omega) (by omega) (by rw [Agr]; exact h2)
theorem Aid (k : Nat) (l : List Int) (hk : l.length<k) (h9 : l.length≤9223372036854775807) : Aaf k l=some (AmF l):=by
 unfold Aaf AmF
 rw [AhJ k l hk h9,AaJ]
 by_cases h : okR l=true
 ·rw [if_neg (by simp [h]),if_pos h]
  have ha : asc (-1) l=true:=by simp [okR] at h; exact h.2
  have:=Aei k l h9 (AgG ha) l.length 0 k [0,0] (by omega) hk rfl
  simpa using this
 ·rw [if_pos (by simp [h]),if_neg h]
def AkG (l : List Int) (j : Int) : Bool:=decide (AcZ .and .i64 (Int.fdiv (l.getD (j / 32).toNat 0) (2 ^ (min ((j % 32).toNat) 64))) 1=1)
theorem AdU (k : Nat) (l : List Int) (hl : l.length=2) : ∀ (m i n : Nat) (acc : List Int),i+m=64→m<n→acc.length≤i→AaH.L2 k l n (i : Int) acc=some (acc++Aj3 (AkG l) m i,0)
 | 0,i,n+1,acc,h,_,_=>by rw [AaH.L2,if_neg (by omega)]; simp [Aj3]
 | m+1,i,n+1,acc,h,hn,ha=>by
  rw [AaH.L2,if_pos (by omega),AmY _ (by omega) (by omega),AmX _ (by omega)]
  have hq : ((i : Int) / 32)=((i / 32 : Nat) : Int):=by omega
  have hq2 : i / 32<l.length:=by omega
  rw [hq,Aaz hq2,Ab3 (by omega)]
  unfold AaH.J3
  dsimp only
  rw [Abx _ (by omega),Ab3 (by simp only [List.length_cons,List.length_nil]; omega),AdU k l hl m (i+1) n _ (by omega) (by omega) (by simp only [List.length_append,List.length_cons,List.length_nil]; omega),AdU k l hl m (i+1) n acc (by omega) (by omega) (by omega),Aj3]
  have e : (AkG l (i : Int)=true)↔(AcZ .and .i64 (Int.fdiv l[i / 32] (2 ^ (min (((i : Int) % 32).toNat) 64))) 1=1):=by
   unfold AkG
   rw [hq,Int.toNat_natCast,List.getD_eq_getElem?_getD,List.getElem?_eq_getElem hq2,Option.getD_some,decide_eq_true_eq]
  by_cases hd : AkG l (i : Int)=true
  ·rw [if_pos (e.1 hd),if_pos hd]; simp
  ·rw [if_neg (fun h=>hd (e.2 h)),if_neg hd]
def Aij (x : Int) : Bool:=decide (x<0)||decide (4294967296≤x)
def Alc (l : List Int) : List Int×Int :=
 match l with
 | [a,b]=>if Aij a||Aij b then ([],43) else if a=0∧b=0 then ([],43) else (sel (AkG [a,b]),0)
 | _=>([],43)
theorem Ael (k : Nat) (x : Int) : AbP k x=some (Aij x):=by
 unfold AbP Aij
 by_cases h : x<0 <;> simp [h]
theorem Aie (k : Nat) (l : List Int) (hk : 100<k) : AaH k l=some (Alc l):=by
 unfold AaH
 by_cases h : (l.length : Int)≠2
 ·rw [if_pos h]
  unfold Alc
  split
  ·simp at h
  ·rfl
 rw [if_neg h]
 have h2 : l.length=2:=by omega
 rcases l with _ | ⟨a,_ | ⟨b,_ | ⟨c,t⟩⟩⟩
 ·simp at h2
 ·simp at h2
 case cons.cons.cons=>simp at h2
 case cons.cons.nil =>
  have c : AaT k [a,b]=some (Aij a||Aij b):=by
   unfold AaT AaC
   obtain ⟨k',rfl⟩ : ∃ k',k=k'+3:=⟨k-3,by omega⟩
   rw [AaC.L1,if_pos (by simp),show (0 : Int)=((0 : Nat) : Int) from rfl,Aaz (by simp),Ael,AaJ]
   simp only [List.getElem_cons_zero]
   by_cases ha : Aij a=true
   ·rw [if_pos ha,AaJ]; simp [ha]
   rw [if_neg ha,Abx _ (by omega),AaC.L1,if_pos (by simp),Aaz (by simp),Ael,AaJ]
   simp only [List.getElem_cons_succ,List.getElem_cons_zero]
   by_cases hb : Aij b=true
   ·rw [if_pos hb,AaJ]; simp [hb]
   rw [if_neg hb,Abx _ (by omega),AaC.L1,if_neg (by simp),AaJ]
   simp [ha,hb]
  rw [c,AaJ,Alc]
  by_cases hb : (Aij a||Aij b)=true
  ·rw [if_pos hb,if_pos hb]
  rw [if_neg hb,if_neg hb]
  have d : AaH.J1 k [a,b]=some (sel (AkG [a,b]),0):=by
   unfold AaH.J1
   exact AdU k [a,b] rfl 64 0 k [] (by omega) (by omega) (by simp)
  rw [show (0 : Int)=((0 : Nat) : Int) from rfl,Aaz (by simp),show (1 : Int)=((1 : Nat) : Int) from rfl,Aaz (by simp),d]
  simp only [List.getElem_cons_succ,List.getElem_cons_zero]
  by_cases ea : a=0 <;> by_cases eb : b=0 <;> simp [ea,eb]
theorem Ai8 (k : Nat) (hk : 100<k) : Abe k=some true:=by
 unfold Abe
 have e : AmF [0,3,33]=([9,2],0):=by decide +kernel
 have d : Alc [9,2]=([0,3,33],0):=by decide +kernel
 rw [Aid _ _ (by simp; omega) (by simp),e,Aao,Aie _ _ hk,d,Aao,if_pos rfl,if_pos rfl,AeW _ _ (by simp; omega) (by simp),AaJ,if_pos rfl,AeW _ _ (by simp; omega) (by simp)]
 rfl
end Go.TF
set_option linter.unusedVariables false
set_option linter.unusedSimpArgs false
namespace Go.TF
open Go Go.Abs
def AnL (x : Int) (j : Nat) : Bool:=decide (x / 2 ^ j % 2=1)
def AnK (A : Nat) (j : Int) : Bool:=decide (A / 2 ^ j.toNat % 2=1)
end Go.TF
set_option linter.unusedVariables false
set_option linter.unusedSimpArgs false
namespace Go.TF
open Go Go.Abs
end Go.TF
set_option linter.unusedVariables false
set_option linter.unusedSimpArgs false
namespace Go.TF
open Go Go.Abs
theorem Aev (v0 v1 v2 v3 : List Int) (v4 v5 v6 v7 : Int) (h0 : Fit (.lst false false (v0.map (.int .i64)))) (h1 : Fit (.lst false false (v1.map (.int .i64)))) (h2 : Fit (.lst false false (v2.map (.int .i64))))
 (h3 : Fit (.lst false false (v3.map (.int .i64)))) : ∃ k,AbV k v0 v1 v2 v3 v4 v5 v6 v7=some true:=by
 have a1:=h1.ints.1
 have a2:=h2.ints.1
 have a3:=h3.ints.1
 have am:=Ah8
 rw [am] at a1 a2 a3
 obtain ⟨k,hk,l1,l2,l3⟩ : ∃ k,1000<k∧v1.length<k∧v2.length<k∧v3.length<k:=⟨v1.length+v2.length+v3.length+1001,by omega,by omega,by omega,by omega⟩
 refine ⟨k,?_⟩
 have aw:=Ai8 k (by omega)
 unfold AbV
 rw [AiA,AaJ]
 by_cases hb : (v0.length : Int)≤400
 case neg=>rw [if_pos (by simp [hb]),aw]; rfl
 rw [if_neg (by simp [hb])]
 split
 ·rw [aw]; rfl
 have hl : v0.length≤1000:=by omega
 obtain ⟨g,s,t,lv,se,sp,qu,q,e1,q1,G⟩:=AjG k v0 0 hl ⟨by omega,by omega⟩
 obtain ⟨b1,b2,b3⟩:=G.lens
 rw [Aix,Aao,e1]
 obtain ⟨g2,s2,t2,lv2,se2,sp2,qu2,q2,e2,q2',c1,c2,c3⟩:=AjR k v0 q g s t lv se sp qu hl q1 b1 b2 b3
 obtain ⟨g3,s3,t3,lv3,se3,sp3,qu3,q3,e3,q3',d1,d2,d3⟩:=AjR k v0 q2 g2 s2 t2 lv2 se2 sp2 qu2 hl q2' c1 c2 c3
 simp only [Ak4,e2,e3]
 rw [AdE k g s t lv se sp qu (by omega) (by omega) (by omega) (by omega) (by omega) (by omega),AaJ,if_pos G.ok,
  AdE k g2 s2 t2 lv2 se2 sp2 qu2 (by omega) (by omega) (by omega) (by omega) (by omega) (by omega),AaJ,Acg k g2 s2 t2 lv2 se2 sp2 qu2 (by omega) (by omega) (by omega) (by omega) (by omega) (by omega),AaJ,if_pos rfl,
  AdE k g3 s3 t3 lv3 se3 sp3 qu3 (by omega) (by omega) (by omega) (by omega) (by omega) (by omega),AaJ,Acg k g3 s3 t3 lv3 se3 sp3 qu3 (by omega) (by omega) (by omega) (by omega) (by omega) (by omega),AaJ,if_pos rfl,
  AdE k v1 v2 v3 v4 v5 v6 v7 (by omega) (by omega) (by omega) (by omega) (by omega) (by omega),AaJ,Acg k v1 v2 v3 v4 v5 v6 v7 (by omega) (by omega) (by omega) (by omega) (by omega) (by omega),AaJ,if_pos rfl,aw]
 rfl
end Go.TF
