import Derived.Test.YtomgdcnbceiggaaBazWal27
import Derived.Test.YtomgdcnbceiggaaBazLay24
set_option linter.unusedVariables false
set_option linter.unusedSimpArgs false
namespace Go.TF
open Go Go.Abs
theorem AaS {α : Type} {c : Prop} [Decidable c] {x : Option α} (h : c) : chk c x=x:=by simp [chk,h]
theorem Abj {α β : Type} {l : List α} {i : Nat} {f : α→Option β} (h : i<l.length) : idx l (i : Int) f=f l[i]:=by
 simp [idx,h]
@[simp] theorem AaK {α γ : Type} (a : α) (f : α→Option γ) : Aba (some a) f=f a:=rfl
@[simp] theorem AbI {α β γ : Type} (a : α) (b : β) (f : α→β→Option γ) : AeX (some (a,b)) f=f a b:=rfl
@[simp] theorem Aoo {α β δ γ : Type} (a : α) (b : β) (c : δ) (f : α→β→δ→Option γ) : Arn (some (a,b,c)) f=f a b c:=rfl
@[simp] theorem Aon {α β δ ε γ : Type} (a : α) (b : β) (c : δ) (d : ε) (f : α→β→δ→ε→Option γ) : Arl (some (a,b,c,d)) f=f a b c d:=rfl
@[simp] theorem Aj4 {α γ : Type} (x : α) (f : α→Option γ) : ApN x f=f x:=rfl
theorem w64 {n : Int} (h1 : -9223372036854775808≤n) (h2 : n≤9223372036854775807) : IntKind.wrap .i64 n=n:=Ani h1 h2
theorem Aqy {n : Int} (h1 : 0≤n) (h2 : n≤18446744073709551615) : IntKind.wrap .u64 n=n:=Anh .u64 (by simpa [IntKind.min,IntKind.bits,IntKind.signed] using h1) (by simpa [IntKind.max,IntKind.bits,IntKind.signed] using h2)
theorem Ahy (n : Int) : IntKind.wrap .u8 n=n % 256:=by simp [IntKind.wrap]
theorem Akm (n : Int) : IntKind.wrap .u64 n=n % 18446744073709551616:=by simp [IntKind.wrap]
theorem Ae8 (a : ByteArray) : Acj a a=true:=by simp [Acj]
theorem Ajf (a b : ByteArray) : Acj a b=true↔a=b:=by
 simp only [Acj,beq_iff_eq]
 constructor
 ·intro h
  cases a; cases b
  simp at h
  simp [h]
 ·rintro rfl; rfl
end Go.TF
set_option linter.unusedVariables false
set_option linter.unusedSimpArgs false
namespace Go.TF
open Go Go.Abs
theorem Ab8 (i : Nat) (h : i<9223372036854775807) : IntKind.wrap .i64 ((i : Int)+1)=((i+1 : Nat) : Int):=by rw [w64 (by omega) (by omega)]; omega
def Apb (p : Int→Bool) : Nat→Nat→List Int
 | 0,_=>[]
 | m+1,i=>if p i=true then (i : Int)::Apb p m (i+1) else Apb p m (i+1)
def sel (p : Int→Bool) : List Int:=Apb p 64 0
def asc (p : Int) : List Int→Bool
 | []=>true
 | x::l=>decide (0≤x)&&decide (x<64)&&decide (p<x)&&asc x l
theorem AkX : ∀ {l : List Int} {p : Int},asc p l=true → -1≤p→p≤63→(l.length : Int)≤63-p
 | [],p,_,h1,h2=>by simp; omega
 | x::l,p,h,h1,h2=>by
  simp [asc] at h
  have:=AkX (l:=l) (p:=x) h.2 (by omega) (by omega)
  simp; omega
def okR (l : List Int) : Bool := !l.isEmpty&&asc (-1) l
theorem AiK (k : Nat) (l : List Int) (h9 : l.length≤9223372036854775807) : ∀ (m i n : Nat) (B : List Bool),i+m=l.length→m<n→B.length=64→(∀ j : Nat,j<64→B[j]? = some (decide ((j : Int) ∈ l.take i))) →
 ∃ C,Aa8.L1 k l n (i : Int) B=some C∧C.length=64∧∀ j : Nat,j<64→C[j]? = some (decide ((j : Int) ∈ l))
 | 0,i,n+1,B,h,_,hB,hj=>by
  rw [Aa8.L1,if_neg (by omega),AaS hB,AaS ⟨by simp,hB⟩,AaS hB]
  exact ⟨B,rfl,hB,fun j h1=>by rw [hj j h1,List.take_of_length_le (by omega)]⟩
 | m+1,i,n+1,B,h,hn,hB,hj=>by
  have h1 : i<l.length:=by omega
  have d : ∀ x,(x ∈ l.take (i+1))↔(x ∈ l.take i∨x=l[i]):=by
   intro x; rw [List.take_succ_eq_append_getElem h1,List.mem_append,List.mem_singleton]
  rw [Aa8.L1,if_pos (by omega),Abj h1]
  unfold Acr
  by_cases hk : 0≤l[i]∧l[i]<64
  ·rw [if_pos hk.1,AaK,if_pos (by simp [hk.2]),AaS (by omega)]
   unfold Aa8.J2
   dsimp only
   rw [Ab8 _ (by omega)]
   refine AiK k l h9 m (i+1) n _ (by omega) (by omega) (by simp [hB]) fun j h2=>?_
   rw [List.getElem?_set]
   by_cases e : l[i].toNat=j
   ·rw [if_pos e,if_pos (by omega)]
    have : (j : Int)=l[i]:=by omega
    simp [d,this]
   ·rw [if_neg e,hj j h2]
    have : ¬ (j : Int)=l[i]:=by omega
    simp [d,this]
  ·have hf : ∀ c : Option Bool,(Aba (if 0≤l[i] then some (decide (l[i]<64)) else some false) fun v6=>if v6=true then c else none)=(Aba (if 0≤l[i] then some (decide (l[i]<64)) else some false) fun v6=>if v6=true then c else none):=fun _=>rfl
   have hg : (if 0≤l[i] then some (decide (l[i]<64)) else some false)=some false:=by
    split
    ·have : ¬ l[i]<64:=by omega
     simp [this]
    ·rfl
   rw [hg,AaK,if_neg (by simp)]
   unfold Aa8.J2
   dsimp only
   rw [Ab8 _ (by omega)]
   refine AiK k l h9 m (i+1) n B (by omega) (by omega) hB fun j h2=>?_
   rw [hj j h2]
   have : ¬ (j : Int)=l[i]:=by omega
   simp [d,this]
theorem Ap6 (k : Nat) (l : List Int) (hk : l.length<k) (h9 : l.length≤9223372036854775807) : ∃ C,Aa8 k l=some C∧C.length=64∧∀ j : Nat,j<64→C[j]? = some (decide ((j : Int) ∈ l)):=by
 unfold Aa8
 exact AiK k l h9 l.length 0 k _ (by omega) hk (by rw [List.length_replicate]) fun j hj=>by rw [List.getElem?_replicate,if_pos hj]; simp
def Ar3 (a b : List Int) : List Int:=sel fun j=>decide (j ∈ a)||decide (j ∈ b)
def Ar2 (a b : List Int) : List Int:=sel fun j=>decide (j ∈ a) && !decide (j ∈ b)
theorem Afi (k : Nat) (a b : List Int) (hl : a.length=b.length) (h9 : a.length≤9223372036854775807) : ∀ (m i n : Nat),i+m=a.length→m<n→Aat.L1 k a b n (i : Int)=some (decide (a.drop i=b.drop i))
 | 0,i,n+1,h,_=>by
  rw [Aat.L1,if_neg (by omega),List.drop_of_length_le (by omega),List.drop_of_length_le (by omega)]; simp
 | m+1,i,n+1,h,hn=>by
  have h1 : i<a.length:=by omega
  have h2 : i<b.length:=by omega
  have d3 : (a.drop i=b.drop i)↔(a[i]=b[i]∧a.drop (i+1)=b.drop (i+1)):=by rw [List.drop_eq_getElem_cons h1,List.drop_eq_getElem_cons h2,List.cons.injEq]
  rw [Aat.L1,if_pos (by omega),Abj h1,Abj h2]
  by_cases e : a[i]=b[i]
  ·rw [if_neg (by simp [e]),Ab8 _ (by omega),Afi k a b hl h9 m (i+1) n (by omega) (by omega)]
   simp only [d3,e,true_and]
  ·rw [if_pos e]; simp only [d3,e,false_and,decide_false]
theorem Afj (k : Nat) (a b : List Int) (ha : a.length<k) (h9 : a.length≤9223372036854775807) : Aat k a b=some (decide (a=b)):=by
 unfold Aat
 by_cases h : a.length=b.length
 ·rw [if_neg (by omega)]
  exact Afi k a b h h9 a.length 0 k (by omega) ha
 ·rw [if_pos (by omega)]
  simp
  intro e; exact h (by rw [e])
def Ace (l : List Int) (i : Nat) : Int:=if i=0 then -1 else l.getD (i-1) 0
theorem AgG (k : Nat) (l : List Int) (hk : l.length<k) (h9 : l.length≤9223372036854775807) : ∀ (m i n : Nat),i+m=l.length→m<n → -1≤Ace l i→(0<i→∃ x ∈ l,0≤x∧x<64)→Aao.L1 k l n (i : Int)=some (!l.isEmpty&&asc (Ace l i) (l.drop i))
 | 0,i,n+1,h,_,_,hi=>by
  rw [Aao.L1,if_neg (by omega),List.drop_of_length_le (by omega)]
  obtain ⟨C,e,h1,h2⟩:=Ap6 k l hk h9
  rw [e,AaK,AaS h1]
  by_cases hz : l = []
  ·have : C=List.replicate 64 false:=by
    apply List.ext_getElem?
    intro j
    by_cases hj : j<64
    ·rw [h2 j hj,List.getElem?_replicate,if_pos hj]; simp [hz]
    ·rw [List.getElem?_eq_none (by omega),List.getElem?_eq_none (by rw [List.length_replicate]; omega)]
   rw [this]; simp [hz]
  ·have hl : 0<l.length:=List.length_pos_iff.2 hz
   obtain ⟨x,hx,hr⟩:=hi (by omega)
   have h3:=h2 x.toNat (by omega)
   have : ((x.toNat : Nat) : Int)=x:=by omega
   rw [this] at h3
   have : C≠List.replicate 64 false:=by
    rintro rfl
    rw [List.getElem?_replicate,if_pos (by omega)] at h3
    simp [hx] at h3
   simp only [asc,Bool.and_true]
   rw [bne_iff_ne.2 this]
   simp [hz]
 | m+1,i,n+1,h,hn,hp,hi=>by
  have h1 : i<l.length:=by omega
  have hz : l≠[]:=by rintro rfl; simp at h1
  have hz : (!l.isEmpty)=true:=by simp [hz]
  rw [Aao.L1,if_pos (by omega),Abj h1,List.drop_eq_getElem_cons h1,hz,Bool.true_and]
  simp only [asc]
  unfold Acr
  have hn1 : Ace l (i+1)=l[i]:=by simp [Ace,List.getD_eq_getElem?_getD,h1]
  by_cases hk' : 0≤l[i]∧l[i]<64
  ·have rc:=AgG k l hk h9 m (i+1) n (by omega) (by omega) (by rw [hn1]; omega) (fun _=>⟨l[i],List.getElem_mem h1,hk'⟩)
   rw [hz,Bool.true_and,hn1] at rc
   rw [if_pos hk'.1,AaK,if_neg (by simp [hk'.2])]
   unfold Aao.J2
   dsimp only
   rw [Ab8 _ (by omega),rc]
   by_cases h0 : 0<i
   ·have h2 : i-1<l.length:=by omega
    rw [if_pos (by omega),show IntKind.wrap .i64 ((i : Int)-1)=((i-1 : Nat) : Int) by rw [w64 (by omega) (by omega)]; omega,Abj h2]
    have hp1 : Ace l i=l[i-1]:=by
     unfold Ace
     rw [if_neg (by omega),List.getD_eq_getElem?_getD,List.getElem?_eq_getElem h2]; rfl
    rw [hp1]
    by_cases hlt : l[i]≤l[i-1]
    ·rw [if_pos hlt]
     have : ¬ l[i-1]<l[i]:=by omega
     simp [this]
    ·rw [if_neg hlt]
     have : l[i-1]<l[i]:=by omega
     simp [this,hk']
   ·obtain rfl : i=0:=by omega
    rw [if_neg (by omega)]
    have : Ace l 0 = -1:=rfl
    have : Ace l 0<l[0]:=by omega
    simp [this,hk']
  ·have hg : (if 0≤l[i] then some (decide (l[i]<64)) else some false)=some false:=by
    split
    ·have : ¬ l[i]<64:=by omega
     simp [this]
    ·rfl
   rw [hg,AaK,if_pos (by simp)]
   have : (decide (0≤l[i])&&decide (l[i]<64))=false:=by
    by_cases h2 : 0≤l[i]
    ·have : ¬ l[i]<64:=by omega
     simp [this]
    ·simp [h2]
   rw [this]; simp
theorem AlR (k : Nat) (l : List Int) (hk : l.length<k) (h9 : l.length≤9223372036854775807) : Aao k l=some (okR l):=by
 unfold Aao
 rw [show (0 : Int)=((0 : Nat) : Int) from rfl,AgG k l hk h9 l.length 0 k (by omega) hk (by simp [Ace]) (by simp)]
 rfl
theorem Aeo (k : Nat) (l : List Int) (h9 : l.length≤9223372036854775807) : ∀ (m i n : Nat),i+m=l.length→m<n→Aaw.L1 k l n (i : Int)=some (asc (Ace l i) (l.drop i))
 | 0,i,n+1,h,_=>by
  rw [Aaw.L1,if_neg (by omega),List.drop_of_length_le (by omega)]; rfl
 | m+1,i,n+1,h,hn=>by
  have h1 : i<l.length:=by omega
  rw [Aaw.L1,if_pos (by omega),Abj h1,List.drop_eq_getElem_cons h1]
  simp only [asc]
  have hn1 : Ace l (i+1)=l[i]:=by simp [Ace,List.getD_eq_getElem?_getD,h1]
  have rc:=Aeo k l h9 m (i+1) n (by omega) (by omega)
  rw [hn1] at rc
  by_cases hb : l[i]<0
  ·rw [if_pos hb]
   have : ¬ 0≤l[i]:=by omega
   simp [this]
  rw [if_neg hb]
  by_cases hc : 64≤l[i]
  ·rw [if_pos hc]
   have : ¬ l[i]<64:=by omega
   simp [this]
  rw [if_neg hc]
  have hk1 : 0≤l[i]:=by omega
  have hk2 : l[i]<64:=by omega
  unfold Aaw.J2
  dsimp only
  rw [Ab8 _ (by omega),rc]
  by_cases h0 : 0<i
  ·have h2 : i-1<l.length:=by omega
   rw [if_pos (by omega),show IntKind.wrap .i64 ((i : Int)-1)=((i-1 : Nat) : Int) by rw [w64 (by omega) (by omega)]; omega,Abj h2]
   have hp1 : Ace l i=l[i-1]:=by
    unfold Ace
    rw [if_neg (by omega),List.getD_eq_getElem?_getD,List.getElem?_eq_getElem h2]; rfl
   rw [hp1]
   by_cases hlt : l[i]≤l[i-1]
   ·rw [if_pos hlt]
    have : ¬ l[i-1]<l[i]:=by omega
    simp [this]
   ·rw [if_neg hlt]
    have : l[i-1]<l[i]:=by omega
    simp [this,hk1,hk2]
  ·obtain rfl : i=0:=by omega
   rw [if_neg (by omega)]
   have : Ace l 0 = -1:=rfl
   have : Ace l 0<l[0]:=by omega
   simp [this,hk1,hk2]
theorem Ah6 (k : Nat) (l : List Int) (hk : l.length<k) (h9 : l.length≤9223372036854775807) : Aaw k l=some (okR l):=by
 unfold Aaw okR
 by_cases h0 : (l.length : Int)=0
 ·rw [if_pos h0]
  have : l = []:=List.length_eq_zero_iff.1 (by omega)
  simp [this]
 have hne : l≠[]:=by rintro rfl; simp at h0
 rw [if_neg h0]
 by_cases h1 : 64<(l.length : Int)
 ·rw [if_pos h1]
  have : ¬ asc (-1) l=true:=fun h=>by have:=AkX h (by omega) (by omega); omega
  simp only [Bool.not_eq_true] at this
  rw [this]; simp
 ·rw [if_neg h1,show (0 : Int)=((0 : Nat) : Int) from rfl,Aeo k l h9 l.length 0 k (by omega) hk]
  have : Ace l 0 = -1:=rfl
  rw [this]; simp [hne]
end Go.TF
set_option linter.unusedVariables false
set_option linter.unusedSimpArgs false
namespace Go.TF
open Go Go.Abs
def AoM (a b : Int) : Int:=if b<1 then 0 else if Int.tmod a b<0 then IntKind.wrap .i64 (Int.tmod a b+b) else Int.tmod a b
theorem Aoz (k : Nat) (a b : Int) : AcM k a b=some (AoM a b):=by
 unfold AcM AoM AcM.J1
 split; · rfl
 rw [AaS (by omega)]
 split <;> rfl
theorem AjN (a b : Int) (h1 : 1≤b) (h2 : b≤1000000000) : 0≤AoM a b∧AoM a b<b:=by
 have:=Int.tmod_lt_of_pos a (show 0<b by omega)
 have:=Int.lt_tmod_of_pos a (show 0<b by omega)
 unfold AoM
 rw [if_neg (by omega)]
 split
 ·rw [w64 (by omega) (by omega)]; omega
 ·omega
abbrev Pos (p : Int) : Prop:=0≤p∧p≤1000
theorem Aea (k : Nat) (l : List Int) (p n : Int) (hl : l.length≤1000) (hp : Pos p) : ∃ a q,AbF k l p n=some (a,q)∧Pos q∧(1≤n→n≤1000000000→0≤a∧a<n):=by
 unfold AbF
 by_cases h : (l.length : Int)≤p
 ·rw [if_pos h]; exact ⟨0,p,rfl,hp,fun _ _=>by omega⟩
 ·rw [if_neg h]
  obtain ⟨i,rfl⟩:=Int.eq_ofNat_of_zero_le hp.1
  have e1 : IntKind.wrap .i64 (IntKind.wrap .i64 ((i : Int)+1)-1)=i:=by
   rw [w64 (n:=(i : Int)+1) (by omega) (by omega),w64 (by omega) (by omega)]; omega
  rw [e1,Abj (by omega),Aoz,AaK,w64 (by omega) (by omega)]
  exact ⟨_,_,rfl,by omega,fun h1 h2=>AjN _ _ h1 h2⟩
end Go.TF
set_option linter.unusedVariables false
set_option linter.unusedSimpArgs false
namespace Go.TF
open Go Go.Abs
def AkA (v : Int) : Nat→List Int
 | 0=>[]
 | j+1=>(v / 2 ^ (8*j) % 256)::AkA v j
theorem AeW (v : Int) : ∀ j,(AkA v j).length=j
 | 0=>rfl
 | j+1=>by simp [AkA,AeW v j]
def enc (v : Int) : List Int:=AkA v 8
theorem AdS (v : Int) : (enc v).length=8:=AeW v 8
theorem Amv (v : Int) (j : Nat) (hj : j<8) : (v % 18446744073709551616) / 2 ^ (8*j) % 256=v / 2 ^ (8*j) % 256:=by
 have : j=0∨j=1∨j=2∨j=3∨j=4∨j=5∨j=6∨j=7:=by omega
 rcases this with rfl | rfl | rfl | rfl | rfl | rfl | rfl | rfl <;> simp <;> omega
end Go.TF
set_option linter.unusedVariables false
set_option linter.unusedSimpArgs false
namespace Go.TF
open Go Go.Abs
theorem AnB : AcF 1000=some true:=by decide +kernel
def ArD (x : Int) : Bool:=decide (0≤x)&&decide (x<4294967296)
def Aro (l : List Int) : Bool:=l.all ArD
def AsC (l : List Int) (m : Int) : Int×Int :=
 if 64<(l.length : Int) then (0,3) else if m<1 then (0,2) else if 2147483648<m then (0,2) else if Aro l then (Int.tmod l.sum m,0) else (0,2)
def ArC (a m n : Nat) : List Int:=(List.range m).map fun r=>if (if r<a then r+m-a else r-a)<n then 1 else 0
theorem InR.u32 {n : Int} (h : InR .u32 n) : 0≤n∧n≤4294967295:=by
 simpa [InR,IntKind.min,IntKind.max,IntKind.bits,IntKind.signed] using h
end Go.TF
set_option linter.unusedVariables false
set_option linter.unusedSimpArgs false
set_option maxRecDepth 4000
namespace Go.TF
open Go Go.Abs
theorem Ab9 (a b : Int) : AaF .or .u32 a b=AaF .or .u32 b a:=by
 simp only [AaF]; rw [BitVec.or_comm]
def AcS (x : Int) (n : Nat) : Int:=AaF .or .u32 (Int.fdiv x (2 ^ n)) (IntKind.wrap .u32 (x*2 ^ (32-n)))
theorem Apg (k : Nat) (x : Int) : AaI k x 6=some (AcS x 6):=by
 unfold AaI Aaa AcS
 have e : AaF .and .u64 (IntKind.wrap .u64 (IntKind.wrap .i64 (-6))) 31=26:=by decide
 rw [e,show IntKind.wrap .u64 (32-(26 : Int))=6 by decide,AaS (by omega),AaS (by omega),AaK,Ab9]
 rfl
theorem Apd (k : Nat) (x : Int) : Aai k x 6=some (AcS x 6):=by
 unfold Aai AcS
 rw [show IntKind.wrap .u64 (32-(6 : Int))=26 by decide,AaS (by omega),AaS (by omega)]
 rfl
theorem An8 (k : Nat) (x : Int) : AaI k x 11=some (AcS x 11):=by
 unfold AaI Aaa AcS
 have e : AaF .and .u64 (IntKind.wrap .u64 (IntKind.wrap .i64 (-11))) 31=21:=by decide
 rw [e,show IntKind.wrap .u64 (32-(21 : Int))=11 by decide,AaS (by omega),AaS (by omega),AaK,Ab9]
 rfl
theorem An1 (k : Nat) (x : Int) : Aai k x 11=some (AcS x 11):=by
 unfold Aai AcS
 rw [show IntKind.wrap .u64 (32-(11 : Int))=21 by decide,AaS (by omega),AaS (by omega)]
 rfl
theorem An2 (k : Nat) (x : Int) : AaI k x 25=some (AcS x 25):=by
 unfold AaI Aaa AcS
 have e : AaF .and .u64 (IntKind.wrap .u64 (IntKind.wrap .i64 (-25))) 31=7:=by decide
 rw [e,show IntKind.wrap .u64 (32-(7 : Int))=25 by decide,AaS (by omega),AaS (by omega),AaK,Ab9]
 rfl
theorem Anu (k : Nat) (x : Int) : Aai k x 25=some (AcS x 25):=by
 unfold Aai AcS
 rw [show IntKind.wrap .u64 (32-(25 : Int))=7 by decide,AaS (by omega),AaS (by omega)]
 rfl
theorem Aph (k : Nat) (x : Int) : AaI k x 2=some (AcS x 2):=by
 unfold AaI Aaa AcS
 have e : AaF .and .u64 (IntKind.wrap .u64 (IntKind.wrap .i64 (-2))) 31=30:=by decide
 rw [e,show IntKind.wrap .u64 (32-(30 : Int))=2 by decide,AaS (by omega),AaS (by omega),AaK,Ab9]
 rfl
theorem Ape (k : Nat) (x : Int) : Aai k x 2=some (AcS x 2):=by
 unfold Aai AcS
 rw [show IntKind.wrap .u64 (32-(2 : Int))=30 by decide,AaS (by omega),AaS (by omega)]
 rfl
theorem An7 (k : Nat) (x : Int) : AaI k x 13=some (AcS x 13):=by
 unfold AaI Aaa AcS
 have e : AaF .and .u64 (IntKind.wrap .u64 (IntKind.wrap .i64 (-13))) 31=19:=by decide
 rw [e,show IntKind.wrap .u64 (32-(19 : Int))=13 by decide,AaS (by omega),AaS (by omega),AaK,Ab9]
 rfl
theorem An0 (k : Nat) (x : Int) : Aai k x 13=some (AcS x 13):=by
 unfold Aai AcS
 rw [show IntKind.wrap .u64 (32-(13 : Int))=19 by decide,AaS (by omega),AaS (by omega)]
 rfl
theorem An3 (k : Nat) (x : Int) : AaI k x 22=some (AcS x 22):=by
 unfold AaI Aaa AcS
 have e : AaF .and .u64 (IntKind.wrap .u64 (IntKind.wrap .i64 (-22))) 31=10:=by decide
 rw [e,show IntKind.wrap .u64 (32-(10 : Int))=22 by decide,AaS (by omega),AaS (by omega),AaK,Ab9]
 rfl
theorem Anv (k : Nat) (x : Int) : Aai k x 22=some (AcS x 22):=by
 unfold Aai AcS
 rw [show IntKind.wrap .u64 (32-(22 : Int))=10 by decide,AaS (by omega),AaS (by omega)]
 rfl
theorem Apf (k : Nat) (x : Int) : AaI k x 7=some (AcS x 7):=by
 unfold AaI Aaa AcS
 have e : AaF .and .u64 (IntKind.wrap .u64 (IntKind.wrap .i64 (-7))) 31=25:=by decide
 rw [e,show IntKind.wrap .u64 (32-(25 : Int))=7 by decide,AaS (by omega),AaS (by omega),AaK,Ab9]
 rfl
theorem Apc (k : Nat) (x : Int) : Aai k x 7=some (AcS x 7):=by
 unfold Aai AcS
 rw [show IntKind.wrap .u64 (32-(7 : Int))=25 by decide,AaS (by omega),AaS (by omega)]
 rfl
theorem An5 (k : Nat) (x : Int) : AaI k x 18=some (AcS x 18):=by
 unfold AaI Aaa AcS
 have e : AaF .and .u64 (IntKind.wrap .u64 (IntKind.wrap .i64 (-18))) 31=14:=by decide
 rw [e,show IntKind.wrap .u64 (32-(14 : Int))=18 by decide,AaS (by omega),AaS (by omega),AaK,Ab9]
 rfl
theorem Anx (k : Nat) (x : Int) : Aai k x 18=some (AcS x 18):=by
 unfold Aai AcS
 rw [show IntKind.wrap .u64 (32-(18 : Int))=14 by decide,AaS (by omega),AaS (by omega)]
 rfl
theorem An6 (k : Nat) (x : Int) : AaI k x 17=some (AcS x 17):=by
 unfold AaI Aaa AcS
 have e : AaF .and .u64 (IntKind.wrap .u64 (IntKind.wrap .i64 (-17))) 31=15:=by decide
 rw [e,show IntKind.wrap .u64 (32-(15 : Int))=17 by decide,AaS (by omega),AaS (by omega),AaK,Ab9]
 rfl
theorem Anz (k : Nat) (x : Int) : Aai k x 17=some (AcS x 17):=by
 unfold Aai AcS
 rw [show IntKind.wrap .u64 (32-(17 : Int))=15 by decide,AaS (by omega),AaS (by omega)]
 rfl
theorem An4 (k : Nat) (x : Int) : AaI k x 19=some (AcS x 19):=by
 unfold AaI Aaa AcS
 have e : AaF .and .u64 (IntKind.wrap .u64 (IntKind.wrap .i64 (-19))) 31=13:=by decide
 rw [e,show IntKind.wrap .u64 (32-(13 : Int))=19 by decide,AaS (by omega),AaS (by omega),AaK,Ab9]
 rfl
theorem Anw (k : Nat) (x : Int) : Aai k x 19=some (AcS x 19):=by
 unfold Aai AcS
 rw [show IntKind.wrap .u64 (32-(19 : Int))=13 by decide,AaS (by omega),AaS (by omega)]
 rfl
def w32 (x : Int) : Int:=IntKind.wrap .u32 x
theorem Ado (x : Int) : w32 x=x % 4294967296:=by simp [w32,IntKind.wrap]
theorem Al0 (a b : Int) : w32 (a+w32 b)=w32 (a+b):=by simp only [Ado]; omega
theorem Akp (a b : Int) : w32 (w32 a+b)=w32 (a+b):=by simp only [Ado]; omega
def Anj (b : List Int) (i : Nat) : Int :=
 AaF .or .u32 (AaF .or .u32 (AaF .or .u32 (IntKind.wrap .u32 ((IntKind.wrap .u32 (b.getD (4*i) 0))*2 ^ (24))) (IntKind.wrap .u32 ((IntKind.wrap .u32 (b.getD (4*i+1) 0))*2 ^ (16)))) (IntKind.wrap .u32 ((IntKind.wrap .u32 (b.getD (4*i+2) 0))*2 ^ (8)))) (IntKind.wrap .u32 (b.getD (4*i+3) 0))
def AdJ (b : List Int) : Nat→Nat→List Int→List Int
 | 0,_,w=>w
 | m+1,i,w=>AdJ b m (i+1) (w.set i (Anj b i))
theorem AdI (b : List Int) : ∀ (m i : Nat) (w : List Int),(AdJ b m i w).length=w.length
 | 0,_,_=>rfl
 | m+1,i,w=>by rw [AdJ,AdI]; simp
theorem AlF {l : List Int} {i : Nat} (h : i<l.length) : l[i]=l.getD i 0:=by simp [h]
theorem AbP {β : Type} {l : List Int} {i : Nat} {f : Int→Option β} (h : i<l.length) : idx l (i : Int) f=f (l.getD i 0):=by rw [Abj h,AlF h]
theorem w4 (i j : Nat) (h : i<1000) (hj : j<10) : IntKind.wrap .i64 (IntKind.wrap .i64 (4*(i : Int))+j)=((4*i+j : Nat) : Int):=by
 rw [w64 (n:=4*(i : Int)) (by omega) (by omega),w64 (by omega) (by omega)]; omega
theorem w40 (i : Nat) (h : i<1000) : IntKind.wrap .i64 (4*(i : Int))=((4*i : Nat) : Int):=by
 rw [w64 (by omega) (by omega)]; omega
theorem AjZ (k : Nat) (v0 b v2 : List Int) (hb : b.length=64) : ∀ (m i n : Nat) (w : List Int),i+m=16→m<n→w.length=64 →
 AaG.L1 k v0 b v2 n (i : Int) w=AaG.L2 k v0 v2 k 16 (AdJ b m i w)
 | 0,i,n+1,w,h,_,hw=>by rw [AaG.L1,if_neg (by omega)]; rfl
 | m+1,i,n+1,w,h,hn,hw=>by
  rw [AaG.L1,if_pos (by omega),w40 i (by omega),AbP (by omega),
   show (IntKind.wrap .i64 (((4*i : Nat) : Int)+1))=((4*i+1 : Nat) : Int) by rw [w64 (by omega) (by omega)]; omega,AbP (by omega),
   show (IntKind.wrap .i64 (((4*i : Nat) : Int)+2))=((4*i+2 : Nat) : Int) by rw [w64 (by omega) (by omega)]; omega,AbP (by omega),
   show (IntKind.wrap .i64 (((4*i : Nat) : Int)+3))=((4*i+3 : Nat) : Int) by rw [w64 (by omega) (by omega)]; omega,AbP (by omega),
   AaS ⟨by omega,by omega,by rw [Int.toNat_natCast]; omega⟩,Ab8 i (by omega),Int.toNat_natCast,AjZ k v0 b v2 hb m (i+1) n _ (by omega) (by omega) (by simp [hw])]
  rfl
theorem AjY (k : Nat) (v0 b v2 : List Int) (hb : b.length=64) : ∀ (m i n : Nat) (w : List Int),i+m=16→m<n→w.length=64 →
 AaR.L1 k v0 b v2 n (i : Int) w=AaR.L2 k v0 v2 k 16 (AdJ b m i w)
 | 0,i,n+1,w,h,_,hw=>by rw [AaR.L1,if_neg (by omega)]; rfl
 | m+1,i,n+1,w,h,hn,hw=>by
  rw [AaR.L1,if_pos (by omega),w40 i (by omega),AbP (by omega),
   show (IntKind.wrap .i64 (((4*i : Nat) : Int)+1))=((4*i+1 : Nat) : Int) by rw [w64 (by omega) (by omega)]; omega,AbP (by omega),
   show (IntKind.wrap .i64 (((4*i : Nat) : Int)+2))=((4*i+2 : Nat) : Int) by rw [w64 (by omega) (by omega)]; omega,AbP (by omega),
   show (IntKind.wrap .i64 (((4*i : Nat) : Int)+3))=((4*i+3 : Nat) : Int) by rw [w64 (by omega) (by omega)]; omega,AbP (by omega),
   AaS ⟨by omega,by rw [Int.toNat_natCast]; omega⟩,Ab8 i (by omega),Int.toNat_natCast,AjY k v0 b v2 hb m (i+1) n _ (by omega) (by omega) (by simp [hw])]
  rfl
def sig (w : List Int) (i : Nat) : Int :=
 IntKind.wrap .u32 (IntKind.wrap .u32 (IntKind.wrap .u32 (w.getD (i-16) 0+AaF .xor .u32 (AaF .xor .u32 (AcS (w.getD (i-15) 0) 7) (AcS (w.getD (i-15) 0) 18)) (Int.fdiv (w.getD (i-15) 0) (2 ^ (3))))+w.getD (i-7) 0)+AaF .xor .u32 (AaF .xor .u32 (AcS (w.getD (i-2) 0) 17) (AcS (w.getD (i-2) 0) 19)) (Int.fdiv (w.getD (i-2) 0) (2 ^ (10))))
def AeF : Nat→Nat→List Int→List Int
 | 0,_,w=>w
 | m+1,i,w=>AeF m (i+1) (w.set i (sig w i))
theorem Afh : ∀ (m i : Nat) (w : List Int),(AeF m i w).length=w.length
 | 0,_,_=>rfl
 | m+1,i,w=>by rw [AeF,Afh]; simp
theorem AlV (i j : Nat) (h : i<1000) (hj : j≤i) : IntKind.wrap .i64 ((i : Int)-j)=((i-j : Nat) : Int):=by rw [w64 (by omega) (by omega)]; omega
theorem Ajk (k : Nat) (v0 v2 : List Int) (h0 : v0.length=8) : ∀ (m i n : Nat) (w : List Int),i+m=64→16≤i→m<n→w.length=64 →
 AaG.L2 k v0 v2 n (i : Int) w=AaG.L3 k v0 v2 (AeF m i w) k 0 v0
 | 0,i,n+1,w,h,_,_,hw=>by rw [AaG.L2,if_neg (by omega),AaS h0,AaS ⟨rfl,h0⟩]; rfl
 | m+1,i,n+1,w,h,hi,hn,hw=>by
  have e15:=AlV i 15 (by omega) (by omega)
  have e2:=AlV i 2 (by omega) (by omega)
  have e16:=AlV i 16 (by omega) (by omega)
  have e7:=AlV i 7 (by omega) (by omega)
  simp only [Int.cast_ofNat_Int] at e15 e2 e16 e7
  rw [AaG.L2,if_pos (by omega),e15,e2,e16,e7,
   AaS ⟨by omega,by omega,by rw [Int.toNat_natCast]; omega⟩,AbP (by omega),AaS ⟨by omega,by omega,by rw [Int.toNat_natCast]; omega⟩,AbP (by omega),
   AaS ⟨by omega,by omega,by rw [Int.toNat_natCast]; omega⟩,AbP (by omega),Apf,AaK,An5,AaK,AaS ⟨by omega,by omega,by rw [Int.toNat_natCast]; omega⟩,AbP (by omega),An6,AaK,An4,AaK,
   AaS ⟨by omega,by omega,by rw [Int.toNat_natCast]; omega⟩,Ab8 i (by omega),Int.toNat_natCast,Ajk k v0 v2 h0 m (i+1) n _ (by omega) (by omega) (by omega) (by simp [hw])]
  rfl
theorem Ajj (k : Nat) (v0 v2 : List Int) (h0 : v0.length=8) : ∀ (m i n : Nat) (w : List Int),i+m=64→16≤i→m<n→w.length=64 →
 AaR.L2 k v0 v2 n (i : Int) w=AaR.L3 k v0 v2 (AeF m i w) k 0 v0
 | 0,i,n+1,w,h,_,_,hw=>by rw [AaR.L2,if_neg (by omega),AaS (by omega)]; rfl
 | m+1,i,n+1,w,h,hi,hn,hw=>by
  have e15:=AlV i 15 (by omega) (by omega)
  have e2:=AlV i 2 (by omega) (by omega)
  have e16:=AlV i 16 (by omega) (by omega)
  have e7:=AlV i 7 (by omega) (by omega)
  simp only [Int.cast_ofNat_Int] at e15 e2 e16 e7
  have c : ∀ (j : Nat) (x : Option (List Int)),j<64→chk ((0 : Int)≤(j : Int)∧((j : Int)).toNat<w.length) x=x:=fun j x hj=>AaS ⟨by omega,by rw [Int.toNat_natCast]; omega⟩
  rw [AaR.L2,if_pos (by omega),e15,e2,e16,e7,c _ _ (by omega),AbP (by omega),Apc,AaK,c _ _ (by omega),Anx,AaK,c _ _ (by omega),c _ _ (by omega),AbP (by omega),Anz,AaK,
   c _ _ (by omega),Anw,AaK,c _ _ (by omega),c _ _ (by omega),AbP (by omega),c _ _ (by omega),AbP (by omega),c _ _ (by omega),Ab8 i (by omega),Int.toNat_natCast,Ajj k v0 v2 h0 m (i+1) n _ (by omega) (by omega) (by omega) (by simp [hw])]
  rfl
def AnZ (x : List Int) (kk ww : Int) : Int :=
 w32 (w32 (w32 (w32 (x.getD 7 0+AaF .xor .u32 (AaF .xor .u32 (AcS (x.getD 4 0) 6) (AcS (x.getD 4 0) 11)) (AcS (x.getD 4 0) 25))+AaF .xor .u32 (AaF .and .u32 (x.getD 4 0) (x.getD 5 0)) (AaF .and .u32 (AaF .xor .u32 (IntKind.max .u32) (x.getD 4 0)) (x.getD 6 0)))+kk)+ww)
def Aoq (x : List Int) : Int :=
 AaF .xor .u32 (AaF .xor .u32 (AcS (x.getD 0 0) 2) (AcS (x.getD 0 0) 13)) (AcS (x.getD 0 0) 22)+AaF .xor .u32 (AaF .xor .u32 (AaF .and .u32 (x.getD 0 0) (x.getD 1 0)) (AaF .and .u32 (x.getD 0 0) (x.getD 2 0))) (AaF .and .u32 (x.getD 1 0) (x.getD 2 0))
def Ao4 (x : List Int) (kk ww : Int) : List Int:=[w32 (AnZ x kk ww+Aoq x),x.getD 0 0,x.getD 1 0,x.getD 2 0,w32 (x.getD 3 0+AnZ x kk ww),x.getD 4 0,x.getD 5 0,x.getD 6 0]
def rounds (v2 w : List Int) : Nat→Nat→List Int→List Int
 | 0,_,x=>x
 | m+1,i,x=>rounds v2 w m (i+1) (Ao4 x (v2.getD i 0) (w.getD i 0))
theorem AfB (v2 w : List Int) : ∀ (m i : Nat) (x : List Int),x.length=8→(rounds v2 w m i x).length=8
 | 0,_,_,h=>h
 | m+1,i,x,h=>AfB v2 w m (i+1) _ rfl
theorem Ahw {β : Type} {l : List Int} (j : Int) (h0 : 0≤j) {f : Int→Option β} (h : j.toNat<l.length) : idx l j f=f (l.getD j.toNat 0):=by
 obtain ⟨i,rfl⟩:=Int.eq_ofNat_of_zero_le h0
 exact AbP h
theorem Alv {x : Option (List Int)} {l : List Int} (h : l.length=8) (j : Int) (m : Nat) (h0 : 0≤j) (hj : j<8) (hm : m<8) : chk ((0 : Int)≤j∧m<8∧(j).toNat<l.length) x=x:=AaS ⟨h0,hm,by omega⟩
theorem Aig (k : Nat) (v0 v2 w : List Int) (h2 : v2.length=64) (hw : w.length=64) : ∀ (m i n : Nat) (x : List Int),i+m=64→m<n→x.length=8 →
 AaG.L3 k v0 v2 w n (i : Int) x=AaG.L4 k (rounds v2 w m i x) k 0 v0
 | 0,i,n+1,x,h,_,hx=>by rw [AaG.L3,if_neg (by omega)]; rfl
 | m+1,i,n+1,x,h,hn,hx=>by
  have c0:=fun y=>Alv (x:=y) hx 0 0 (by omega) (by omega) (by omega)
  have c1:=fun y=>Alv (x:=y) hx 1 1 (by omega) (by omega) (by omega)
  have c2:=fun y=>Alv (x:=y) hx 2 2 (by omega) (by omega) (by omega)
  have c3:=fun y=>Alv (x:=y) hx 3 3 (by omega) (by omega) (by omega)
  have c4:=fun y=>Alv (x:=y) hx 4 4 (by omega) (by omega) (by omega)
  have c5:=fun y=>Alv (x:=y) hx 5 5 (by omega) (by omega) (by omega)
  have c6:=fun y=>Alv (x:=y) hx 6 6 (by omega) (by omega) (by omega)
  have c7:=fun y=>Alv (x:=y) hx 7 7 (by omega) (by omega) (by omega)
  have i0:=fun f=>Ahw (β:=List Int) (l:=x) 0 (by omega) (f:=f) (by omega)
  have i1:=fun f=>Ahw (β:=List Int) (l:=x) 1 (by omega) (f:=f) (by omega)
  have i2:=fun f=>Ahw (β:=List Int) (l:=x) 2 (by omega) (f:=f) (by omega)
  have i3:=fun f=>Ahw (β:=List Int) (l:=x) 3 (by omega) (f:=f) (by omega)
  have i4:=fun f=>Ahw (β:=List Int) (l:=x) 4 (by omega) (f:=f) (by omega)
  have i5:=fun f=>Ahw (β:=List Int) (l:=x) 5 (by omega) (f:=f) (by omega)
  have i6:=fun f=>Ahw (β:=List Int) (l:=x) 6 (by omega) (f:=f) (by omega)
  have i7:=fun f=>Ahw (β:=List Int) (l:=x) 7 (by omega) (f:=f) (by omega)
  rw [AaG.L3,if_pos (by omega),c0,i0,c4,i4,c7,i7,Apg,AaK,An8,AaK,An2,AaK,c5,i5,c6,i6,AaS ⟨by omega,by omega,by rw [Int.toNat_natCast]; omega⟩,AbP (by omega),
   AaS ⟨by omega,by omega,by rw [Int.toNat_natCast]; omega⟩,AbP (by omega),Aph,AaK,An7,AaK,An3,AaK,c1,i1,c2,i2,c1,c2,c0,c1,c2,c3,i3,c4,c5,c6,AaS ⟨hx,rfl⟩,Ab8 i (by omega),
   Aig k v0 v2 w h2 hw m (i+1) n _ (by omega) (by omega) rfl,rounds]
  have e : ∀ a b : Int,IntKind.wrap .u32 (a+IntKind.wrap .u32 b)=w32 (a+b):=Al0
  rw [e]
  rfl
theorem Aif (k : Nat) (v0 v2 w : List Int) (h2 : v2.length=64) (hw : w.length=64) : ∀ (m i n : Nat) (x : List Int),i+m=64→m<n→x.length=8 →
 AaR.L3 k v0 v2 w n (i : Int) x=AaR.L4 k v0 k 0 (rounds v2 w m i x)
 | 0,i,n+1,x,h,_,hx=>by rw [AaR.L3,if_neg (by omega)]; rfl
 | m+1,i,n+1,x,h,hn,hx=>by
  have i0:=fun f=>Ahw (β:=List Int) (l:=x) 0 (by omega) (f:=f) (by omega)
  have i1:=fun f=>Ahw (β:=List Int) (l:=x) 1 (by omega) (f:=f) (by omega)
  have i2:=fun f=>Ahw (β:=List Int) (l:=x) 2 (by omega) (f:=f) (by omega)
  have i3:=fun f=>Ahw (β:=List Int) (l:=x) 3 (by omega) (f:=f) (by omega)
  have i4:=fun f=>Ahw (β:=List Int) (l:=x) 4 (by omega) (f:=f) (by omega)
  have i5:=fun f=>Ahw (β:=List Int) (l:=x) 5 (by omega) (f:=f) (by omega)
  have i6:=fun f=>Ahw (β:=List Int) (l:=x) 6 (by omega) (f:=f) (by omega)
  have i7:=fun f=>Ahw (β:=List Int) (l:=x) 7 (by omega) (f:=f) (by omega)
  rw [AaR.L3,if_pos (by omega),i4,Apd,AaK,An1,AaK,Anu,AaK,i5,i6,i7,AbP (by omega),AbP (by omega),i0,Ape,AaK,An0,AaK,Anv,AaK,i1,i2,i3,Ab8 i (by omega),
   Aif k v0 v2 w h2 hw m (i+1) n _ (by omega) (by omega) rfl,rounds]
  have e : ∀ a b c : Int,IntKind.wrap .u32 (IntKind.wrap .u32 (a+b)+c)=w32 (a+(b+c)):=fun a b c=>by
   show w32 (w32 (a+b)+c)=_
   rw [Akp,Int.add_assoc]
  have hs : Ao4 x (v2.getD i 0) (w.getD i 0) = [w32 (AnZ x (v2.getD i 0) (w.getD i 0)+Aoq x),x.getD 0 0,x.getD 1 0,x.getD 2 0,w32 (x.getD 3 0+AnZ x (v2.getD i 0) (w.getD i 0)),x.getD 4 0,x.getD 5 0,x.getD 6 0]:=rfl
  rw [hs,Aoq]
  rw [← e]
  rfl
def Anf (a b : List Int) : List Int:=(List.range 8).map fun i=>w32 (a.getD i 0+b.getD i 0)
def AcJ (h b kk : List Int) : List Int:=Anf h (rounds kk (AeF 48 16 (AdJ b 16 0 (List.replicate 64 0))) 64 0 h)
theorem AnS {l : List Int} (h : l.length=8) : ∃ a b c d e f g i,l = [a,b,c,d,e,f,g,i]:=by
 match l,h with
 | [a,b,c,d,e,f,g,i],_=>exact ⟨a,b,c,d,e,f,g,i,rfl⟩
theorem Aqa (k n : Nat) (h x : List Int) (h0 : h.length=8) (hx : x.length=8) : AaG.L4 k x (n+9) 0 h=some (Anf h x):=by
 obtain ⟨a,b,c,d,e,f,g,i,rfl⟩:=AnS h0
 obtain ⟨a',b',c',d',e',f',g',i',rfl⟩:=AnS hx
 simp [AaG.L4,chk,idx,Anf,w32,List.range_succ,IntKind.wrap]
theorem AqZ (k n : Nat) (h x : List Int) (h0 : h.length=8) (hx : x.length=8) : AaR.L4 k h (n+9) 0 x=some (Anf h x):=by
 obtain ⟨a,b,c,d,e,f,g,i,rfl⟩:=AnS h0
 obtain ⟨a',b',c',d',e',f',g',i',rfl⟩:=AnS hx
 simp [AaR.L4,chk,idx,Anf,w32,List.range_succ,IntKind.wrap,Int.add_comm]
theorem Amz (k : Nat) (h b kk : List Int) (hk : 100<k) (h0 : h.length=8) (hb : b.length=64) (h2 : kk.length=64) : AaG k h b kk=some (AcJ h b kk):=by
 have hw : (AeF 48 16 (AdJ b 16 0 (List.replicate 64 0))).length=64:=by rw [Afh,AdI]; simp
 obtain ⟨n,rfl⟩ : ∃ n,k=n+9:=⟨k-9,by omega⟩
 exact (AjZ _ h b kk hb 16 0 (n+9) (List.replicate 64 0) rfl (by omega) (by simp)).trans ((Ajk _ h kk h0 48 16 (n+9) _ rfl (by omega) (by omega) (by rw [AdI]; simp)).trans
  ((Aig _ h kk _ h2 hw 64 0 (n+9) h rfl (by omega) h0).trans (Aqa _ n h _ h0 (AfB _ _ _ _ _ h0))))
theorem Amy (k : Nat) (h b kk : List Int) (hk : 100<k) (h0 : h.length=8) (hb : b.length=64) (h2 : kk.length=64) : AaR k h b kk=some (AcJ h b kk):=by
 have hw : (AeF 48 16 (AdJ b 16 0 (List.replicate 64 0))).length=64:=by rw [Afh,AdI]; simp
 obtain ⟨n,rfl⟩ : ∃ n,k=n+9:=⟨k-9,by omega⟩
 unfold AaR
 rw [AaS (by omega),Aj4]
 exact (AjY _ h b kk hb 16 0 (n+9) (List.replicate 64 0) rfl (by omega) (by simp)).trans ((Ajj _ h kk h0 48 16 (n+9) _ rfl (by omega) (by omega) (by rw [AdI]; simp)).trans
  ((Aif _ h kk _ h2 hw 64 0 (n+9) h rfl (by omega) h0).trans (AqZ _ n h _ h0 (AfB _ _ _ _ _ h0))))
theorem AgX (h b kk : List Int) : (AcJ h b kk).length=8:=by simp [AcJ,Anf]
def Adh : List Int:=[1779033703,3144134277,1013904242,2773480762,1359893119,2600822924,528734635,1541459225]
def KK : List Int:=(Abw 1).getD []
theorem Arq (k : Nat) : Acm k=some KK:=rfl
theorem Arp (k : Nat) : Abw k=some KK:=rfl
theorem Akf : KK.length=64:=rfl
def AbJ : Nat→List Int→List Int→List Int
 | 0,_,h=>h
 | m+1,l,h=>AbJ m (l.drop 64) (AcJ h (l.take 64) KK)
def Ak3 (x : Int) : List Int:=[IntKind.wrap .u8 (Int.fdiv x (2 ^ (24))),IntKind.wrap .u8 (Int.fdiv x (2 ^ (16))),IntKind.wrap .u8 (Int.fdiv x (2 ^ (8))),IntKind.wrap .u8 x]
def AeH (h : List Int) : ByteArray:=ofI (h.flatMap Ak3)
theorem AkP (l : List Int) (h : ∀ x ∈ l,0≤x∧x≤255) : bI (ofI l)=l:=by
 unfold ofI bI
 rw [List.map_map]
 conv=>rhs; rw [← List.map_id l]
 refine List.map_congr_left fun x hx=>?_
 have:=h x hx
 simp
 omega
theorem Ako (x : Int) : 0≤IntKind.wrap .u8 x∧IntKind.wrap .u8 x≤255:=by rw [Ahy]; omega
theorem Apn (k n : Nat) (h : List Int) (h8 : h.length=8) : Aac.L4 k h (n+9) 0 []=some (AeH h):=by
 obtain ⟨a,b,c,d,e,f,g,i,rfl⟩:=AnS h8
 simp [Aac.L4,chk,idx,AeH,Ak3,IntKind.wrap]
theorem Aiz (k : Nat) (l : List Int) (hk : 100<k) (hl : l.length<1000000000000000) : ∀ (m j n : Nat) (h : List Int),64*(j+m)=l.length→m<n→h.length=8 →
 Aac.L3 k l KK n h ((64*j : Nat) : Int)=some (AeH (AbJ m (l.drop (64*j)) h))
 | 0,j,n+1,h,hj,_,hh=>by
  rw [Aac.L3,if_neg (by omega)]
  obtain ⟨q,rfl⟩ : ∃ q,k=q+9:=⟨k-9,by omega⟩
  exact Apn _ q h hh
 | m+1,j,n+1,h,hj,hn,hh=>by
  have e : IntKind.wrap .i64 (((64*j : Nat) : Int)+64)=((64*(j+1) : Nat) : Int):=by rw [w64 (by omega) (by omega)]; omega
  rw [Aac.L3,if_pos (by omega),e,AaS ⟨by omega,by omega,by omega⟩,Int.toNat_natCast,Int.toNat_natCast]
  have ht : (l.take (64*(j+1))).drop (64*j)=(l.drop (64*j)).take 64:=by
   rw [List.drop_take]; congr 1; omega
  rw [ht,Amy k h _ KK hk hh (by rw [List.length_take,List.length_drop]; omega) Akf,AaK,Aiz k l hk hl m (j+1) n _ (by omega) (by omega) (AgX _ _ _),AbJ,List.drop_drop]
  rfl
def fill : Nat→List Int→List Int
 | 0,l=>l
 | m+1,l=>fill m (l++[0])
theorem AfZ : ∀ (m : Nat) (l : List Int),(fill m l).length=l.length+m
 | 0,_=>rfl
 | m+1,l=>by rw [fill,AfZ]; simp; omega
def Adf (n : Nat) : Nat:=(56+64-n % 64) % 64
theorem Acz (n : Nat) : (n+Adf n) % 64=56∧Adf n<64:=by unfold Adf; omega
theorem Ao3 (n : Nat) : Int.tmod ((n : Nat) : Int) 64=((n % 64 : Nat) : Int):=by rw [Int.tmod_eq_emod_of_nonneg (by omega)]; omega
def Akl (n : Nat) (s : Nat) : Int:=IntKind.wrap .u8 (Int.fdiv (IntKind.wrap .u64 (IntKind.wrap .u64 (n : Int)*8)) (2 ^ (min s 64)))
def lens (n : Nat) : List Int:=[Akl n 56,Akl n 48,Akl n 40,Akl n 32,Akl n 24,Akl n 16,Akl n 8,Akl n 0]
def Aeg (b : List Int) : ByteArray :=
 let l:=fill (Adf (b.length+1)) (b++[128])++lens b.length
 AeH (AbJ (l.length / 64) l Adh)
theorem Ahf : Adh.length=8:=rfl
theorem AlW (b : List Int) : (fill (Adf (b.length+1)) (b++[128])++lens b.length).length=64*((fill (Adf (b.length+1)) (b++[128])++lens b.length).length / 64) ∧
 (fill (Adf (b.length+1)) (b++[128])++lens b.length).length≤b.length+73+63:=by
 have h:=Acz (b.length+1)
 rw [List.length_append,AfZ]
 simp only [List.length_append,List.length_cons,List.length_nil,lens]
 omega
theorem AoR (k n : Nat) (b v : List Int) (hk : 100<k) (hv : v.length<100000000000000) : Aac.L2 k b (n+9) 7 v=Aac.L3 k (v++lens b.length) KK k Adh 0:=by
 have c : ∀ (i : Nat) (s : List Int),i<10→s.length=1→(((v.length+i)+s.length)*1≤140737488355328):=fun i s hi hs=>by omega
 have h : v.length+10≤140737488355328:=by omega
 simp [Aac.L2,chk,Arp,lens,Akl,IntKind.wrap,Adh]
 repeat rw [if_pos (by omega)]
theorem Alb (k : Nat) (b : List Int) (hk : 100<k) : ∀ (m n : Nat) (v : List Int),m=Adf v.length→m<n→v.length+m<100000000000000→Aac.L1 k b n v=Aac.L2 k b k 7 (fill m v)
 | 0,n+1,v,h,_,hv=>by
  have:=Acz v.length
  rw [Aac.L1,Ao3,if_neg (by omega)]; rfl
 | m+1,n+1,v,h,hn,hv=>by
  have:=Acz v.length
  have h2 : Adf (v++[0]).length=m:=by
   rw [List.length_append]; simp only [List.length_cons,List.length_nil]; unfold Adf at h ⊢; omega
  rw [Aac.L1,Ao3,if_pos (by omega),AaS (by simp; omega),Alb k b hk m n _ h2.symm (by omega) (by simp; omega)]
  rfl
theorem Aqc (k : Nat) (b : List Int) (hk : 100<k) (hk2 : b.length+200<k) (hb : b.length<10000000000000) : Aac k b=some (Aeg b):=by
 unfold Aac Aeg
 have hn:=Acz (b.length+1)
 rw [AaS (by omega),AaS (by simp; omega),Alb k b hk (Adf (b.length+1)) k (b++[128]) (by simp) (by omega) (by simp; omega)]
 obtain ⟨q,hq⟩ : ∃ q,k=q+9:=⟨k-9,by omega⟩
 have:=AoR k q b (fill (Adf (b.length+1)) (b++[128])) hk (by rw [AfZ]; simp; omega)
 rw [← hq] at this
 obtain ⟨p1,p2⟩:=AlW b
 rw [this,show (0 : Int)=((64*0 : Nat) : Int) from rfl,Aiz k _ hk (by omega) _ 0 k Adh (by rw [Nat.zero_add]; exact p1.symm) (by omega) Ahf]
 rfl
theorem Apo (k n : Nat) (h : List Int) (h8 : h.length=8) : AaW.L4 k h (n+9) 0 []=some (AeH h):=by
 obtain ⟨a,b,c,d,e,f,g,i,rfl⟩:=AnS h8
 simp [AaW.L4,chk,idx,AeH,Ak3,IntKind.wrap]
theorem Ai0 (k : Nat) (hk : 100<k) : ∀ (m n : Nat) (l h : List Int),64*m=l.length→m<n→h.length=8 →
 AaW.L3 k KK n l h=some (AeH (AbJ m l h))
 | 0,n+1,l,h,hj,_,hh=>by
  rw [AaW.L3,if_neg (by omega),AaS hh]
  obtain ⟨q,rfl⟩ : ∃ q,k=q+9:=⟨k-9,by omega⟩
  exact Apo _ q h hh
 | m+1,n+1,l,h,hj,hn,hh=>by
  rw [AaW.L3,if_pos (by omega),AaS (by omega),show (64 : Int).toNat=64 from rfl,Amz k h _ KK hk hh (by rw [List.length_take]; omega) Akf,AaK,AaS (by omega),
   Ai0 k hk m n _ _ (by rw [List.length_drop]; omega) (by omega) (AgX _ _ _)]
  rfl
theorem AoS (k n : Nat) (b : List Int) (v : List Int) (hk : 100<k) (hv : v.length<100000000000000) : AaW.L2 k b (n+9) 56 v=AaW.L3 k KK k (v++lens b.length) Adh:=by
 have h : v.length+10≤140737488355328:=by omega
 simp [AaW.L2,chk,Arq,lens,Akl,IntKind.wrap,Adh,Akf]
 repeat rw [if_pos (by omega)]
theorem Alc (k : Nat) (b : List Int) (hk : 100<k) : ∀ (m n : Nat) (v : List Int),m=Adf v.length→m<n→v.length+m<100000000000000→AaW.L1 k b n v=AaW.L2 k b k 56 (fill m v)
 | 0,n+1,v,h,_,hv=>by
  have:=Acz v.length
  rw [AaW.L1,Ao3,if_neg (by omega)]; rfl
 | m+1,n+1,v,h,hn,hv=>by
  have:=Acz v.length
  have h2 : Adf (v++[0]).length=m:=by
   rw [List.length_append]; simp only [List.length_cons,List.length_nil]; unfold Adf at h ⊢; omega
  rw [AaW.L1,Ao3,if_pos (by omega),AaS (by simp; omega),Alc k b hk m n _ h2.symm (by omega) (by simp; omega)]
  rfl
theorem Aqd (k : Nat) (b : List Int) (hk : 100<k) (hk2 : b.length+200<k) (hb : b.length<10000000000000) : AaW k b=some (Aeg b):=by
 unfold AaW Aeg
 have hn:=Acz (b.length+1)
 rw [AaS (by omega),AaS (by simp; omega),Alc k b hk (Adf (b.length+1)) k (b++[128]) (by simp) (by omega) (by simp; omega)]
 obtain ⟨q,hq⟩ : ∃ q,k=q+9:=⟨k-9,by omega⟩
 have:=AoS k q b (fill (Adf (b.length+1)) (b++[128])) hk (by rw [AfZ]; simp; omega)
 rw [← hq] at this
 obtain ⟨p1,p2⟩:=AlW b
 rw [this,Ai0 k hk _ k _ Adh p1.symm (by omega) Ahf]
end Go.TF
set_option linter.unusedVariables false
set_option linter.unusedSimpArgs false
namespace Go.TF
open Go Go.Abs
theorem Aok (v : Int) (j : Nat) (hj : j<8) : IntKind.wrap .u8 (Int.fdiv (IntKind.wrap .u64 v) (2 ^ (8*j)))=v / 2 ^ (8*j) % 256:=by
 rw [Ahy,Akm,Int.fdiv_eq_ediv_of_nonneg _ (by exact Int.pow_nonneg (by omega)),Amv v j (by omega)]
theorem Aqq (j : Nat) (hj : j<8) : min (8*(j : Int)).toNat 64=8*j:=by omega
theorem Apj (j : Nat) (hj : j≤8) : IntKind.wrap .i64 (8*((j+1 : Nat) : Int)-8-8)=8*(j : Int)-8:=by rw [w64 (by omega) (by omega)]; omega
theorem at8 (j : Nat) : 8*((j+1 : Nat) : Int)-8=8*(j : Int):=by omega
theorem Aj9 (l : List Int) : (l.flatMap enc).length=8*l.length:=by
 induction l with
 | nil=>rfl
 | cons x l ih=>rw [List.flatMap_cons,List.length_append,AdS,ih,List.length_cons]; omega
theorem AmA (v : Int) : ([v] : List Int).flatMap enc=enc v:=by simp
theorem ArX (j : Nat) (hj : j<8) : IntKind.wrap .u64 (IntKind.wrap .i64 (8*(((j+1 : Nat) : Int)-1)))=8*(j : Int):=by
 rw [w64 (by omega) (by omega),Aqy (by omega) (by omega)]; omega
theorem Apk (j : Nat) (hj : j≤8) : IntKind.wrap .i64 (((j+1 : Nat) : Int)-1-1)=(j : Int)-1:=by rw [w64 (by omega) (by omega)]; omega
theorem AhK (k : Nat) (v : Int) : ∀ (j n : Nat) (acc : List Int),j≤8→j<n→acc.length+j≤200000→Aa9.L1 k v n ((j : Int)-1) acc=some (acc++AkA v j)
 | 0,n+1,acc,_,_,_=>by rw [Aa9.L1,if_neg (by omega)]; simp [AkA]
 | j+1,n+1,acc,hj,hn,ha=>by
  rw [Aa9.L1,if_pos (by omega),ArX j (by omega),AaS (by omega),Aqq j (by omega),Aok v j (by omega),AaS (by simp; omega),Apk j (by omega),AhK k v j n _ (by omega) (by omega) (by simp; omega)]
  simp [AkA]
theorem Ajl (k : Nat) (hk : 8<k) (b : List Int) (v : Int) (hb : b.length≤100000) : Aa9 k b v=some (b++enc v):=by
 unfold Aa9
 exact AhK k v 8 k b (by omega) hk (by omega)
theorem AgM (k : Nat) (hk : 8<k) (l : List Int) (hl : l.length≤1000) : ∀ (m i n : Nat) (acc : List Int),i+m=l.length→m<n→acc.length+8*m≤50000→AbE.L1 k l n (i : Int) acc=some (acc++(l.drop i).flatMap enc)
 | 0,i,n+1,acc,h,_,_=>by rw [AbE.L1,if_neg (by omega),List.drop_of_length_le (by omega)]; simp
 | m+1,i,n+1,acc,h,hn,ha=>by
  have h1 : i<l.length:=by omega
  rw [AbE.L1,if_pos (by omega),Abj h1,Ajl k hk _ _ (by omega),AaK,Ab8 _ (by omega),AgM k hk l hl m (i+1) n _ (by omega) (by omega) (by rw [List.length_append,AdS]; omega),List.drop_eq_getElem_cons h1,List.flatMap_cons,List.append_assoc]
theorem Akx (k : Nat) (hk : 8<k) (b l : List Int) (hb : b.length≤9000) (hl : l.length≤1000) (hlk : l.length<k) : AbE k b l=some (b++enc l.length++l.flatMap enc):=by
 unfold AbE
 rw [Ajl k hk b _ (by omega),AaK]
 exact AgM k hk l hl l.length 0 k _ (by omega) hlk (by rw [List.length_append,AdS]; omega)
def ArW (v : ByteArray) (e : Int) (l : List Int) : ByteArray×Int :=
 if (v.size : Int)≠32 then ((ByteArray.mk #[]),1) else if e<0 then ((ByteArray.mk #[]),2) else if 40≤e then ((ByteArray.mk #[]),2) else if 64<(l.length : Int) then ((ByteArray.mk #[]),3)
 else (Aeg (bI v++enc e++enc l.length++l.flatMap enc),0)
def Ark (n : Int) (s : ByteArray) : ByteArray×Int :=
 if n<0 then ((ByteArray.mk #[]),2) else if 4294967296≤n then ((ByteArray.mk #[]),2) else if 64<(s.size : Int) then ((ByteArray.mk #[]),3) else (Aeg (enc n++bI s),0)
def Arj (a b : Int) : Int:=a*256+b
def Ap8 (h : List Int) (i : Int) : Int:=((bI (Aeg (h++enc i))).take 4).foldl Arj 0
def Ap7 (h : List Int) (n : Nat) : List Int:=(List.range n).map fun i=>Ap8 h (i : Nat)
def ArP (v : ByteArray) (t : List Int) (n : Int) : List Int×Int :=
 if (v.size : Int)≠32 then ([],1) else if 64<(t.length : Int) then ([],3) else if n<0 then ([],2) else if 64<n then ([],2) else (Ap7 (bI v++enc t.length++t.flatMap enc) n.toNat,0)
end Go.TF
set_option linter.unusedVariables false
set_option linter.unusedSimpArgs false
namespace Go.TF
open Go Go.Abs
def ApD (rel : Int→Int→Bool) : Option Int→Int→Bool
 | none,_=>true
 | some q,x=>rel q x
@[simp] theorem AoD (rel : Int→Int→Bool) (x : Int) : ApD rel none x=true:=rfl
@[simp] theorem AoC (rel : Int→Int→Bool) (q x : Int) : ApD rel (some q) x=rel q x:=rfl
def Aej (ok : Int→Bool) (rel : Int→Int→Bool) (p : Option Int) (l : List Int) : Bool :=
 match l with
 | []=>true
 | x::l=>ok x&&ApD rel p x&&Aej ok rel (some x) l
theorem Aei (ok : Int→Bool) (rel : Int→Int→Bool) (p : Option Int) (x : Int) (l : List Int) : Aej ok rel p (x::l)=(ok x&&ApD rel p x&&Aej ok rel (some x) l):=rfl
def prv (l : List Int) (i : Nat) : Option Int:=if i=0 then none else l[i-1]?
theorem AfU {l : List Int} {i : Nat} (h : i<l.length) : prv l (i+1)=some l[i]:=by simp [prv,h]
theorem Aim (i : Nat) (h0 : 0<i) (h : i<9223372036854775807) : IntKind.wrap .i64 ((i : Int)-1)=((i-1 : Nat) : Int):=by rw [w64 (by omega) (by omega)]; omega
theorem itf {α : Type} (x y : α) : (if (!false)=true then x else y)=x:=rfl
theorem itt {α : Type} (x y : α) : (if (!true)=true then x else y)=y:=rfl
theorem Ai8 {ok ok' : Int→Bool} {rel rel' : Int→Int→Bool} (h : ∀ x,ok x=ok' x) (h2 : ∀ x y,rel x y=rel' x y) : Aej ok rel=Aej ok' rel':=by
 rw [show ok=ok' from funext h,show rel=rel' from funext fun x=>funext fun y=>h2 x y]
theorem Afl (k : Nat) (l : List Int) (lo hi : Int) (h9 : l.length≤9223372036854775807) : ∀ (m i n : Nat),i+m=l.length→m<n →
 Aak.L1 k l lo hi n (i : Int)=some (Aej (fun x=>decide (lo≤x)&&decide (x≤hi)) (fun q x=>decide (q<x)) (prv l i) (l.drop i))
 | 0,i,n+1,h,_=>by rw [Aak.L1,if_neg (by omega),List.drop_of_length_le (by omega)]; rfl
 | m+1,i,n+1,h,hn=>by
  have h1 : i<l.length:=by omega
  have ih:=Afl k l lo hi h9 m (i+1) n (by omega) (by omega)
  rw [AfU h1] at ih
  rw [Aak.L1,if_pos (by omega),Abj h1,List.drop_eq_getElem_cons h1,Aei]
  by_cases a : l[i]<lo
  ·rw [if_pos a]; have : ¬ lo≤l[i]:=by omega
   simp [this]
  by_cases b : hi<l[i]
  ·rw [if_neg a,if_pos b]; have : ¬ l[i]≤hi:=by omega
   simp [this]
  rw [if_neg a,if_neg b]
  have a' : lo≤l[i]:=by omega
  have b' : l[i]≤hi:=by omega
  unfold Aak.J2
  by_cases c : i=0
  ·subst c
   rw [if_neg (by omega),Ab8 0 (by omega)]; dsimp only; rw [ih]
   simp [prv,a',b']
  ·rw [if_pos (by omega),Aim i (by omega) (by omega),Abj (by omega),Ab8 i (by omega)]; dsimp only; rw [ih]
   have hp : prv l i=some (l[i-1]'(by omega)):=by simp [prv,c,List.getElem?_eq_getElem (show i-1<l.length by omega)]
   rw [hp]
   by_cases d : l[i]≤l[i-1]
   ·rw [if_pos d]; have : ¬ l[i-1]<l[i]:=by omega
    simp [this]
   ·rw [if_neg d]; have : l[i-1]<l[i]:=by omega
    simp [a',b',this]
theorem Ajn (k : Nat) (l : List Int) (lo hi : Int) (h9 : l.length≤9223372036854775807) (hk : l.length<k) :
 Aak k l lo hi=some (Aej (fun x=>decide (lo≤x)&&decide (x≤hi)) (fun q x=>decide (q<x)) none l):=Afl k l lo hi h9 l.length 0 k (by omega) hk
theorem AgK (k : Nat) (l : List Int) (v : Int) (h9 : l.length≤9223372036854775807) : ∀ (m i n : Nat),i+m=l.length→m<n →
 Aa4.L1 k l v n (i : Int)=some (Aej (fun x=>decide (0≤x)&&decide (x<v)) (fun q x=>decide (q<x)) (prv l i) (l.drop i))
 | 0,i,n+1,h,_=>by rw [Aa4.L1,if_neg (by omega),List.drop_of_length_le (by omega)]; rfl
 | m+1,i,n+1,h,hn=>by
  have h1 : i<l.length:=by omega
  have ih:=AgK k l v h9 m (i+1) n (by omega) (by omega)
  rw [AfU h1] at ih
  rw [Aa4.L1,if_pos (by omega),Abj h1,List.drop_eq_getElem_cons h1,Aei]
  by_cases a : l[i]<0
  ·rw [if_pos a]; have : ¬ 0≤l[i]:=by omega
   simp [this]
  by_cases b : v≤l[i]
  ·rw [if_neg a,if_pos b]; have : ¬ l[i]<v:=by omega
   simp [this]
  rw [if_neg a,if_neg b]
  have a' : 0≤l[i]:=by omega
  have b' : l[i]<v:=by omega
  unfold Aa4.J2
  by_cases c : i=0
  ·subst c
   rw [if_neg (by omega),Ab8 0 (by omega)]; dsimp only; rw [ih]
   simp [prv,a',b']
  ·rw [if_pos (by omega),Aim i (by omega) (by omega),Abj (by omega),Ab8 i (by omega)]; dsimp only; rw [ih]
   have hp : prv l i=some (l[i-1]'(by omega)):=by simp [prv,c,List.getElem?_eq_getElem (show i-1<l.length by omega)]
   rw [hp]
   by_cases d : l[i]≤l[i-1]
   ·rw [if_pos d]; have : ¬ l[i-1]<l[i]:=by omega
    simp [this]
   ·rw [if_neg d]; have : l[i-1]<l[i]:=by omega
    simp [a',b',this]
theorem Aks (k : Nat) (l : List Int) (v : Int) (h9 : l.length≤9223372036854775807) (hk : l.length<k) :
 Aa4 k l v=some (Aej (fun x=>decide (0≤x)&&decide (x<v)) (fun q x=>decide (q<x)) none l):=AgK k l v h9 l.length 0 k (by omega) hk
def Ajd : Option Int→List Int→Bool:=Aej (fun x=>decide (1≤x)&&decide (x≤1000)) (fun q x=>decide (x≤q))
theorem Aix (k : Nat) (l : List Int) (h9 : l.length≤9223372036854775807) : ∀ (m i n : Nat),i+m=l.length→m<n →
 Aae.L1 k l n (i : Int)=some (if Ajd (prv l i) (l.drop i)=true then 0 else 15)
 | 0,i,n+1,h,_=>by rw [Aae.L1,if_neg (by omega),List.drop_of_length_le (by omega)]; rfl
 | m+1,i,n+1,h,hn=>by
  have h1 : i<l.length:=by omega
  have ih:=Aix k l h9 m (i+1) n (by omega) (by omega)
  rw [AfU h1] at ih
  rw [Aae.L1,if_pos (by omega),Abj h1,List.drop_eq_getElem_cons h1,Ajd,Aei,AcC]
  by_cases a : 1≤l[i]
  case neg=>rw [if_neg a,AaK]; simp [a]
  by_cases b : l[i]≤1000
  case neg=>rw [if_pos a,AaK]; simp [b]
  rw [if_pos a,AaK,if_neg (by simp [b])]
  unfold Aae.J2
  by_cases c : i=0
  ·subst c
   rw [if_neg (by omega),Ab8 0 (by omega)]; dsimp only; rw [ih]
   simp [prv,a,b,Ajd]
  ·rw [if_pos (by omega),Aim i (by omega) (by omega),Abj (by omega),Ab8 i (by omega)]; dsimp only; rw [ih]
   have hp : prv l i=some (l[i-1]'(by omega)):=by simp [prv,c,List.getElem?_eq_getElem (show i-1<l.length by omega)]
   rw [hp]
   by_cases d : l[i-1]<l[i]
   ·rw [if_pos d]; have : ¬ l[i]≤l[i-1]:=by omega
    simp [this]
   ·rw [if_neg d]; have : l[i]≤l[i-1]:=by omega
    simp [a,b,this,Ajd]; rfl
theorem Ain (k : Nat) (l : List Int) (h9 : l.length≤9223372036854775807) : ∀ (m i n : Nat),i+m=l.length→m<n →
 Aar.L1 k l n (i : Int)=some (Ajd (prv l i) (l.drop i))
 | 0,i,n+1,h,_=>by rw [Aar.L1,if_neg (by omega),List.drop_of_length_le (by omega)]; rfl
 | m+1,i,n+1,h,hn=>by
  have h1 : i<l.length:=by omega
  have ih:=Ain k l h9 m (i+1) n (by omega) (by omega)
  rw [AfU h1] at ih
  rw [Aar.L1,if_pos (by omega),Abj h1,List.drop_eq_getElem_cons h1,Ajd,Aei]
  by_cases a : l[i]<1
  ·rw [if_pos a]; have : ¬ 1≤l[i]:=by omega
   simp [this]
  by_cases b : 1000<l[i]
  ·rw [if_neg a,if_pos b]; have : ¬ l[i]≤1000:=by omega
   simp [this]
  have a' : 1≤l[i]:=by omega
  have b' : l[i]≤1000:=by omega
  rw [if_neg a,if_neg b]
  unfold Aar.J2
  by_cases c : i=0
  ·subst c
   rw [if_neg (by omega),Ab8 0 (by omega)]; dsimp only; rw [ih]
   simp [prv,a',b',Ajd]
  ·rw [if_pos (by omega),Aim i (by omega) (by omega),Abj (by omega),Ab8 i (by omega)]; dsimp only; rw [ih]
   have hp : prv l i=some (l[i-1]'(by omega)):=by simp [prv,c,List.getElem?_eq_getElem (show i-1<l.length by omega)]
   rw [hp]
   by_cases d : l[i-1]<l[i]
   ·rw [if_pos d]; have : ¬ l[i]≤l[i-1]:=by omega
    simp [this]
   ·rw [if_neg d]; have : l[i]≤l[i-1]:=by omega
    simp [a',b',this,Ajd]
def Akk (s t : List Int) (lv : Int) : Int :=
 if s≠[]∧Aej (fun x=>decide (0≤x)&&decide (x≤63)) (fun q x=>decide (q<x)) none s=true∧1≤t.length∧t.length≤8∧1≤lv∧lv≤3∧Ajd none t=true then 0 else 15
theorem AoU (k : Nat) (hk : 0<k) : Aa3 k 64 [] []=some 0:=by
 obtain ⟨n,rfl⟩ : ∃ n,k=n+1:=⟨k-1,by omega⟩
 unfold Aa3 AcC Aak
 rw [if_pos (by omega),AaK,Aak.L1,Aa3.L1]
 simp
theorem ApO {l : List Int} : ((l.length : Int)=0)↔l = []:=by cases l <;> simp; omega
theorem Aoj (k : Nat) (s t : List Int) (lv : Int) (hs : s.length≤9223372036854775807) (ht : t.length≤9223372036854775807) (hk : s.length<k) (hk2 : t.length<k) :
 Aae k 64 [] [] s t lv=some (Akk s t lv):=by
 unfold Aae Akk
 rw [AoU k (by omega),AaK,if_neg (by simp),show IntKind.wrap .i64 ((64 : Int)-1)=63 from rfl,Ajn k s 0 63 hs hk]
 by_cases a : s = []
 ·rw [if_pos (ApO.2 a),if_neg (by simp [a])]
 rw [if_neg (by rw [ApO]; exact a),AaK]
 generalize Aej _ _ none s=S
 cases S
 ·rw [itf,if_neg (by simp)]
 rw [itt]
 unfold AcC
 by_cases b : (1 : Int)≤(t.length : Int)∧(t.length : Int)≤8
 case neg =>
  have h1 : (if (1 : Int)≤(t.length : Int) then some (decide ((t.length : Int)≤8)) else some false)=some false:=by
   split
   ·have : ¬ (t.length : Int)≤8:=fun h=>b ⟨by assumption,h⟩
    simp [this]
   ·rfl
  rw [h1,AaK,itf,if_neg (by rintro ⟨_,_,h1,h2,_⟩; exact b ⟨by omega,by omega⟩)]
 rw [if_pos b.1,AaK,if_neg (by simp [b.2])]
 by_cases c : 1≤lv∧lv≤3
 case neg =>
  have h1 : (if 1≤lv then some (decide (lv≤3)) else some false)=some false:=by
   split
   ·have : ¬ lv≤3:=fun h=>c ⟨by assumption,h⟩
    simp [this]
   ·rfl
  rw [h1,AaK,itf,if_neg (by rintro ⟨_,_,_,_,h1,h2,_⟩; exact c ⟨by omega,by omega⟩)]
 rw [if_pos c.1,AaK,if_neg (by simp [c.2]),show (0 : Int)=((0 : Nat) : Int) from rfl,Aix k t ht t.length 0 k (by omega) hk2]
 have h1 : 1≤t.length:=by omega
 have h2 : t.length≤8:=by omega
 simp only [prv,if_true,List.drop_zero,h1,h2,c.1,c.2,a,ne_eq,not_false_eq_true,true_and]
 rfl
theorem Aky (k : Nat) (s t : List Int) (lv : Int) (hs : s.length≤9223372036854775807) (ht : t.length≤9223372036854775807) (hk : s.length<k) (hk2 : t.length<k) :
 Acx k 64 [] [] s t lv=some (Akk s t lv):=by
 have g0 : Aan k 64 [] []=some 0:=by
  obtain ⟨n,rfl⟩ : ∃ n,k=n+1:=⟨k-1,by omega⟩
  unfold Aan Aa4
  rw [Aa4.L1,Aan.L1]
  simp
 unfold Acx Aar Akk
 rw [g0,AaK,if_neg (by simp),Aks k s 64 hs hk,Ai8 (ok':=fun x=>decide (0≤x)&&decide (x≤63)) (rel':=fun q x=>decide (q<x)) (fun x=>by
  congr 1; exact decide_eq_decide.2 (by omega)) (fun _ _=>rfl)]
 by_cases a : s = []
 ·rw [if_pos (ApO.2 a),AaK,itf,if_neg (by simp [a])]
 rw [if_neg (by rw [ApO]; exact a),AaK]
 generalize Aej _ _ none s=S
 cases S
 ·rw [itf,AaK,itf,if_neg (by simp)]
 rw [itt]
 by_cases b1 : (t.length : Int)<1
 ·rw [if_pos b1,AaK,itf,if_neg (by rintro ⟨_,_,h1,_⟩; omega)]
 by_cases b2 : 8<(t.length : Int)
 ·rw [if_neg b1,if_pos b2,AaK,itf,if_neg (by rintro ⟨_,_,_,h1,_⟩; omega)]
 by_cases c1 : lv<1
 ·rw [if_neg b1,if_neg b2,if_pos c1,AaK,itf,if_neg (by rintro ⟨_,_,_,_,h1,_⟩; omega)]
 by_cases c2 : 3<lv
 ·rw [if_neg b1,if_neg b2,if_neg c1,if_pos c2,AaK,itf,if_neg (by rintro ⟨_,_,_,_,_,h1,_⟩; omega)]
 rw [if_neg b1,if_neg b2,if_neg c1,if_neg c2,show (0 : Int)=((0 : Nat) : Int) from rfl,Ain k t ht t.length 0 k (by omega) hk2,AaK]
 have h1 : 1≤t.length:=by omega
 have h2 : t.length≤8:=by omega
 have h3 : 1≤lv:=by omega
 have h4 : lv≤3:=by omega
 simp only [prv,if_true,List.drop_zero,h1,h2,h3,h4,a,ne_eq,not_false_eq_true,true_and]
 cases Ajd none t <;> simp
def Af8 (g s t : List Int) (lv seats span quota : Int) : Int :=
 if okR g=true then (if Akk s t lv=0 then (if 1≤seats∧seats≤9∧1≤span∧span≤1000000∧0≤quota∧quota≤64 then 0 else 40) else Akk s t lv) else 43
theorem Ajc (seats span quota : Int) : (if seats<1 then some 40 else if 9<seats then some 40 else if span<1 then some 40 else if 1000000<span then some 40 else if quota<0 then some 40 else if 64<quota then some 40 else some 0 : Option Int) =
 some (if 1≤seats∧seats≤9∧1≤span∧span≤1000000∧0≤quota∧quota≤64 then 0 else 40):=by
 repeat' split
 all_goals first | rfl | omega
theorem AjW (k : Nat) (g s t : List Int) (lv seats span quota : Int) (hg : g.length≤9223372036854775807) (hs : s.length≤9223372036854775807) (ht : t.length≤9223372036854775807) (hkg : g.length<k) (hk : s.length<k) (hk2 : t.length<k) :
 Acd k g s t lv seats span quota=some (Af8 g s t lv seats span quota):=by
 unfold Acd Af8
 rw [AlR k g hkg hg,AaK,Aoj k s t lv hs ht hk hk2]
 cases okR g
 ·rfl
 rw [itt,AaK,Ajc,if_pos rfl]
 by_cases h : Akk s t lv=0 <;> simp [h]
theorem Agv (k : Nat) (g s t : List Int) (lv seats span quota : Int) (hg : g.length≤9223372036854775807) (hs : s.length≤9223372036854775807) (ht : t.length≤9223372036854775807) (hkg : g.length<k) (hk : s.length<k) (hk2 : t.length<k) :
 Acw k g s t lv seats span quota=some (Af8 g s t lv seats span quota):=by
 unfold Acw Af8
 rw [Ah6 k g hkg hg,AaK,Aky k s t lv hs ht hk hk2]
 cases okR g
 ·rfl
 rw [itt,AaK,Ajc,if_pos rfl]
 by_cases h : Akk s t lv=0 <;> simp [h]
theorem AgE (k : Nat) (l : List Int) (p : Int) (c : List Int) (hl : l.length≤1000) (hp : Pos p) (h0 : 0<c.length) (h9 : c.length≤1000000) : ∃ x q,AbC k l p c=some (x,q)∧Pos q∧x ∈ c:=by
 unfold AbC
 obtain ⟨a,q,e,hq,ha⟩:=Aea k l p (c.length : Int) hl hp
 have ha:=ha (by omega) (by omega)
 rw [e,AbI]
 obtain ⟨j,rfl⟩:=Int.eq_ofNat_of_zero_le ha.1
 have hj : j<c.length:=by omega
 rw [Abj hj]
 exact ⟨c[j],q,rfl,hq,List.getElem_mem hj⟩
theorem Aox (k : Nat) (l : List Int) (p n : Int) (hl : l.length≤1000) (hp : Pos p) (h1 : 1≤n) (h9 : n≤1000000) : ∃ b q,AcN k l p n=some (b,q)∧Pos q:=by
 unfold AcN
 obtain ⟨a,q,e,hq,ha⟩:=Aea k l p n hl hp
 rw [e,AbI]
 exact ⟨_,_,rfl,hq⟩
structure AiY (g s t : List Int) (lv seats span quota : Int) : Prop where
 ok : Af8 g s t lv seats span quota=0
 gg : ∃ n : Nat,2≤n∧n≤6∧g=([0,1,2,3,4,5,6] : List Int).take n
 ss : s = [0]∨s = [0,1]
 tl : t.length=2
 tv : ∃ a b,t = [a,b]∧a ∈ ([5,9,3] : List Int)∧(b=a∨b ∈ ([3,2,1] : List Int))
 tw : ∃ a b,t = [a,b]∧a ∈ ([5,9,3] : List Int)∧b ∈ ([3,2,1] : List Int)
 lv : lv ∈ ([1,1,2] : List Int)
 seats : seats ∈ ([3,1,4,5,2] : List Int)
 span : span ∈ ([10,20,5,1] : List Int)
 quota : quota ∈ ([1,2,0,5] : List Int)
theorem Ajp (s : List Int) (a b lv : Int) (hs : s = [0]∨s = [0,1]) (ha : 1≤a∧a≤1000) (hb : 1≤b∧b≤a) (hl : 1≤lv∧lv≤3) : Akk s [a,b] lv=0:=by
 unfold Akk
 rw [if_pos]
 refine ⟨by rcases hs with rfl | rfl <;> simp,by rcases hs with rfl | rfl <;> rfl,by simp,by simp,hl.1,hl.2,?_⟩
 simp [Ajd,Aej]; omega
theorem Ak5 (n : Nat) (h : 2≤n∧n≤6) : okR (([0,1,2,3,4,5,6] : List Int).take n)=true:=by
 have : n=2∨n=3∨n=4∨n=5∨n=6:=by omega
 rcases this with rfl | rfl | rfl | rfl | rfl <;> rfl
theorem Ai2 (k : Nat) (l : List Int) (p : Int) (hl : l.length≤1000) (hp : Pos p) : ∃ g s t lv seats span quota q,AbS k l p=some (g,s,t,lv,seats,span,quota,q)∧Pos q∧AiY g s t lv seats span quota:=by
 unfold AbS
 obtain ⟨seats,p1,e1,q1,m1⟩:=AgE k l p [3,1,4,5,2] hl hp (by simp) (by simp)
 obtain ⟨span,p2,e2,q2,m2⟩:=AgE k l p1 [10,20,5,1] hl q1 (by simp) (by simp)
 obtain ⟨quota,p3,e3,q3,m3⟩:=AgE k l p2 [1,2,0,5] hl q2 (by simp) (by simp)
 obtain ⟨a,p4,e4,q4,m4⟩:=Aea k l p3 5 hl q3
 have m4:=m4 (by omega) (by omega)
 obtain ⟨t0,p5,e5,q5,m5⟩:=AgE k l p4 [4,8,2] hl q4 (by simp) (by simp)
 obtain ⟨t1,p6,e6,q6,m6⟩:=AgE k l p5 [2,1,0] hl q5 (by simp) (by simp)
 obtain ⟨lv,p7,e7,q7,m7⟩:=AgE k l p6 [1,1,2] hl q6 (by simp) (by simp)
 obtain ⟨b,p8,e8,q8⟩:=Aox k l p7 3 hl q7 (by omega) (by omega)
 have r5 : 2≤t0∧t0≤8:=by simp at m5; omega
 have r6 : 0≤t1∧t1≤2:=by simp at m6; omega
 have wa : IntKind.wrap .i64 (2+a)=2+a:=w64 (by omega) (by omega)
 have w0 : IntKind.wrap .i64 (1+t0)=1+t0:=w64 (by omega) (by omega)
 have w1 : IntKind.wrap .i64 (1+t1)=1+t1:=w64 (by omega) (by omega)
 rw [e1,AbI,e2,AbI,e3,AbI,e4,AbI,wa,AaS ⟨by omega,by simp; omega⟩,e5,AbI,e6,AbI,e7,AbI,e8,AbI]
 have key : ∀ s : List Int,(s = [0]∨s = [0,1])→∃ g t,AbS.J1 k seats span quota a t0 t1 lv s p8=some (g,s,t,lv,seats,span,quota,p8)∧AiY g s t lv seats span quota:=by
  intro s hs
  have hJ : AbS.J1 k seats span quota a t0 t1 lv s p8=some (([0,1,2,3,4,5,6] : List Int).take (2+a).toNat,s,[1+t0,if 1+t1<1+t0 then 1+t1 else 1+t0],lv,seats,span,quota,p8):=by
   unfold AbS.J1
   rw [wa,w0,w1]
   simp [chk,idx,Aj4]
  refine ⟨_,_,hJ,?_⟩
  have hn2 : 2≤(2+a).toNat∧(2+a).toNat≤6:=by omega
  have hx1 : 1≤(if 1+t1<1+t0 then 1+t1 else 1+t0)∧(if 1+t1<1+t0 then 1+t1 else 1+t0)≤1+t0:=by split <;> omega
  have r7 : 1≤lv∧lv≤2:=by simp at m7; omega
  have r1 : 1≤seats∧seats≤5:=by simp at m1; omega
  have r2 : 1≤span∧span≤20:=by simp at m2; omega
  have r3 : 0≤quota∧quota≤5:=by simp at m3; omega
  refine ⟨?_,⟨_,hn2.1,hn2.2,rfl⟩,hs,rfl,⟨1+t0,(if 1+t1<1+t0 then 1+t1 else 1+t0),rfl,?_,?_⟩,⟨1+t0,(if 1+t1<1+t0 then 1+t1 else 1+t0),rfl,?_,?_⟩,m7,m1,m2,m3⟩
  ·unfold Af8
   rw [if_pos (Ak5 _ hn2),Ajp s _ _ lv hs (by omega) hx1 (by omega),if_pos rfl,if_pos (by omega)]
  ·simp at m5 ⊢; omega
  ·simp at m6 ⊢; split <;> omega
  ·simp at m5 ⊢; omega
  ·simp at m5 m6 ⊢; split <;> omega
 cases b
 ·rw [if_neg (by simp)]
  obtain ⟨g,t,h1,h2⟩:=key [0] (.inl rfl)
  exact ⟨g,[0],t,lv,seats,span,quota,p8,h1,q8,h2⟩
 ·rw [if_pos rfl]
  obtain ⟨g,t,h1,h2⟩:=key [0,1] (.inr rfl)
  exact ⟨g,[0,1],t,lv,seats,span,quota,p8,h1,q8,h2⟩
theorem AiY.lens {g s t : List Int} {lv seats span quota : Int} (h : AiY g s t lv seats span quota) : g.length≤10∧s.length≤10∧t.length≤10:=by
 obtain ⟨n,_,h2,rfl⟩:=h.gg
 have:=h.tl
 refine ⟨by simp; omega,?_,by omega⟩
 rcases h.ss with rfl | rfl <;> simp
theorem Aoy (k : Nat) (l : List Int) (p : Int) (g s t : List Int) (lv seats span quota : Int) (hl : l.length≤1000) (hp : Pos p) (hg : g.length≤10) (hs : s.length≤10) (ht : t.length≤10) :
 ∃ g' s' t' lv' seats' span' quota' q,AbK k l p g s t lv seats span quota=some (g',s',t',lv',seats',span',quota',q)∧Pos q∧g'.length≤10∧s'.length≤10∧t'.length≤10:=by
 unfold AbK
 obtain ⟨a,p1,e1,q1,m1⟩:=Aea k l p 7 hl hp
 rw [e1,AbI]
 by_cases a0 : a=0
 ·rw [if_pos a0]
  obtain ⟨c,p2,e2,q2,m2⟩:=Aea k l p1 5 hl q1
  have m2:=m2 (by omega) (by omega)
  rw [e2,AbI]
  by_cases c0 : c=0
  ·rw [if_pos c0]; exact ⟨_,_,_,_,_,_,_,_,rfl,q2,by simp,hs,ht⟩
  rw [if_neg c0]
  by_cases c1 : c=1
  ·rw [if_pos c1]; exact ⟨_,_,_,_,_,_,_,_,rfl,q2,by simp,hs,ht⟩
  rw [if_neg c1]
  by_cases c2 : c=2
  ·rw [if_pos c2]; exact ⟨_,_,_,_,_,_,_,_,rfl,q2,by simp,hs,ht⟩
  rw [if_neg c2]
  by_cases c3 : c=3
  ·rw [if_pos c3]; exact ⟨_,_,_,_,_,_,_,_,rfl,q2,by simp,hs,ht⟩
  rw [if_neg c3]
  rw [if_pos (by omega)]; exact ⟨_,_,_,_,_,_,_,_,rfl,q2,by simp,hs,ht⟩
 rw [if_neg a0]
 by_cases a1 : a=1
 ·rw [if_pos a1]
  obtain ⟨x,p2,e2,q2,_⟩:=AgE k l p1 [0,-1,9,10] hl q1 (by simp) (by simp)
  rw [e2,AbI]; exact ⟨_,_,_,_,_,_,_,_,rfl,q2,hg,hs,ht⟩
 rw [if_neg a1]
 by_cases a2 : a=2
 ·rw [if_pos a2]
  obtain ⟨x,p2,e2,q2,_⟩:=AgE k l p1 [0,-1,1000000,1000001] hl q1 (by simp) (by simp)
  rw [e2,AbI]; exact ⟨_,_,_,_,_,_,_,_,rfl,q2,hg,hs,ht⟩
 rw [if_neg a2]
 by_cases a3 : a=3
 ·rw [if_pos a3]
  obtain ⟨x,p2,e2,q2,_⟩:=AgE k l p1 [-1,64,65] hl q1 (by simp) (by simp)
  rw [e2,AbI]; exact ⟨_,_,_,_,_,_,_,_,rfl,q2,hg,hs,ht⟩
 rw [if_neg a3]
 by_cases a4 : a=4
 ·rw [if_pos a4]
  obtain ⟨c,p2,e2,q2,m2⟩:=Aea k l p1 3 hl q1
  have m2:=m2 (by omega) (by omega)
  rw [e2,AbI]
  by_cases c0 : c=0
  ·rw [if_pos c0]; exact ⟨_,_,_,_,_,_,_,_,rfl,q2,hg,by simp,ht⟩
  rw [if_neg c0]
  by_cases c1 : c=1
  ·rw [if_pos c1]; exact ⟨_,_,_,_,_,_,_,_,rfl,q2,hg,by simp,ht⟩
  rw [if_neg c1]
  rw [if_pos (by omega)]; exact ⟨_,_,_,_,_,_,_,_,rfl,q2,hg,by simp,ht⟩
 rw [if_neg a4]
 by_cases a5 : a=5
 ·rw [if_pos a5]
  obtain ⟨c,p2,e2,q2,m2⟩:=Aea k l p1 4 hl q1
  have m2:=m2 (by omega) (by omega)
  rw [e2,AbI]
  by_cases c0 : c=0
  ·rw [if_pos c0]; exact ⟨_,_,_,_,_,_,_,_,rfl,q2,hg,hs,by simp⟩
  rw [if_neg c0]
  by_cases c1 : c=1
  ·rw [if_pos c1]; exact ⟨_,_,_,_,_,_,_,_,rfl,q2,hg,hs,by simp⟩
  rw [if_neg c1]
  by_cases c2 : c=2
  ·rw [if_pos c2]; exact ⟨_,_,_,_,_,_,_,_,rfl,q2,hg,hs,by simp⟩
  rw [if_neg c2]
  rw [if_pos (by omega)]; exact ⟨_,_,_,_,_,_,_,_,rfl,q2,hg,hs,by simp⟩
 rw [if_neg a5]
 obtain ⟨x,p2,e2,q2,_⟩:=AgE k l p1 [0,4,-1] hl q1 (by simp) (by simp)
 rw [e2,AbI]; exact ⟨_,_,_,_,_,_,_,_,rfl,q2,hg,hs,ht⟩
theorem Aj2 (k : Nat) (l : List Int) : Ad9 k l=some (decide ((l.length : Int)≤400)):=rfl
theorem Ak9 (k : Nat) (l : List Int) : Aet k l=some (l,0):=rfl
end Go.TF
set_option linter.unusedVariables false
set_option linter.unusedSimpArgs false
namespace Go.TF
open Go Go.Abs
theorem wN {x : Nat} (h : x<4294967296) : IntKind.wrap .u32 (x : Int)=(x : Int):=by
 have:=Ado (x : Int)
 unfold w32 at this
 rw [this]; omega
theorem bx {a b : Nat} (ha : a<4294967296) (hb : b<4294967296) : AaF .xor .u32 (a : Int) (b : Int)=((Nat.xor a b : Nat) : Int):=by
 have e : Nat.xor a b=a ^^^ b:=rfl
 have lt : a ^^^ b<2 ^ 32:=Nat.xor_lt_two_pow (by simpa using ha) (by simpa using hb)
 rw [e]
 simp only [AaF,BitVec.ofInt_natCast,BitVec.toNat_xor,BitVec.toNat_ofNat,show IntKind.bits .u32=32 from rfl]
 rw [Nat.mod_eq_of_lt (show a<2 ^ 32 by simpa using ha),Nat.mod_eq_of_lt (show b<2 ^ 32 by simpa using hb)]
 exact wN (by simpa using lt)
theorem ba {a b : Nat} (ha : a<4294967296) (hb : b<4294967296) : AaF .and .u32 (a : Int) (b : Int)=((Nat.land a b : Nat) : Int):=by
 have e : Nat.land a b=a &&& b:=rfl
 have lt : a &&& b<2 ^ 32:=Nat.and_lt_two_pow _ (by simpa using hb)
 rw [e]
 simp only [AaF,BitVec.ofInt_natCast,BitVec.toNat_and,BitVec.toNat_ofNat,show IntKind.bits .u32=32 from rfl]
 rw [Nat.mod_eq_of_lt (show a<2 ^ 32 by simpa using ha),Nat.mod_eq_of_lt (show b<2 ^ 32 by simpa using hb)]
 exact wN (by simpa using lt)
theorem bo {a b : Nat} (ha : a<4294967296) (hb : b<4294967296) : AaF .or .u32 (a : Int) (b : Int)=((a ||| b : Nat) : Int):=by
 have lt : a ||| b<2 ^ 32:=Nat.or_lt_two_pow (by simpa using ha) (by simpa using hb)
 simp only [AaF,BitVec.ofInt_natCast,BitVec.toNat_or,BitVec.toNat_ofNat,show IntKind.bits .u32=32 from rfl]
 rw [Nat.mod_eq_of_lt (show a<2 ^ 32 by simpa using ha),Nat.mod_eq_of_lt (show b<2 ^ 32 by simpa using hb)]
 exact wN (by simpa using lt)
theorem AjU {a b : Nat} (ha : a<4294967296) (hb : b<4294967296) : Nat.xor a b<4294967296:=by
 have:=Nat.xor_lt_two_pow (n:=32) (show a<2 ^ 32 by simpa using ha) (show b<2 ^ 32 by simpa using hb)
 simpa using this
theorem AiT {a b : Nat} (hb : b<4294967296) : Nat.land a b<4294967296:=by
 have:=Nat.and_lt_two_pow (n:=32) a (show b<2 ^ 32 by simpa using hb)
 simpa using this
def ro (x n : Nat) : Nat:=Nat.mod (Nat.shiftRight (Nat.mul x 4294967297) n) 4294967296
theorem Ade (x n : Nat) : ro x n<4294967296:=Nat.mod_lt _ (by omega)
theorem An9 (x n : Nat) (hx : x<4294967296) (h0 : 0<n) (h : n<32) : x / 2 ^ n ||| (x*2 ^ (32-n)) % 4294967296=ro x n:=by
 have p : 2 ^ n*2 ^ (32-n)=4294967296:=by rw [← Nat.pow_add,show n+(32-n)=32 by omega]
 have pn : 0<2 ^ n:=Nat.two_pow_pos n
 obtain ⟨q,r,hr,e⟩ : ∃ q r,r<2 ^ n∧x=q*2 ^ n+r:=⟨x / 2 ^ n,x % 2 ^ n,Nat.mod_lt _ pn,by rw [Nat.mul_comm]; exact (Nat.div_add_mod x _).symm⟩
 have hq : x / 2 ^ n=q:=by
  rw [e,Nat.add_comm,Nat.add_mul_div_right _ _ pn,Nat.div_eq_of_lt hr,Nat.zero_add]
 have q2 : q<2 ^ (32-n):=by
  rw [← hq]
  exact Nat.div_lt_of_lt_mul (by rw [p]; exact hx)
 have m1 : x*2 ^ (32-n)=q*4294967296+r*2 ^ (32-n):=by
  rw [e,Nat.add_mul,Nat.mul_assoc,p]
 have r2 : r*2 ^ (32-n)<4294967296:=by
  rw [← p]; exact Nat.mul_lt_mul_of_pos_right hr (Nat.two_pow_pos _)
 have m2 : (x*2 ^ (32-n)) % 4294967296=r*2 ^ (32-n):=by
  rw [m1,Nat.add_comm,Nat.add_mul_mod_self_right,Nat.mod_eq_of_lt r2]
 have or2 : q ||| r*2 ^ (32-n)=r*2 ^ (32-n)+q:=by
  rw [Nat.or_comm,Nat.mul_comm,← Nat.two_pow_add_eq_or_of_lt q2]
 have s : Nat.shiftRight (Nat.mul x 4294967297) n=x*2 ^ (32-n)+q:=by
  have : Nat.shiftRight (Nat.mul x 4294967297) n=(x*4294967297) / 2 ^ n:=Nat.shiftRight_eq_div_pow _ _
  rw [this,show x*4294967297=x+(x*2 ^ (32-n))*2 ^ n by rw [Nat.mul_assoc,Nat.mul_comm (2 ^ (32-n)),p]; omega,Nat.add_mul_div_right _ _ pn,hq,Nat.add_comm]
 rw [hq,m2,or2]
 unfold ro
 rw [s,m1]
 show r*2 ^ (32-n)+q=(q*4294967296+r*2 ^ (32-n)+q) % 4294967296
 have lt : r*2 ^ (32-n)+q<4294967296:=by
  have:=Nat.mul_le_mul_right (2 ^ (32-n)) (show r+1≤2 ^ n from hr)
  rw [p,Nat.add_mul,Nat.one_mul] at this
  omega
 rw [Nat.add_assoc,Nat.add_comm (q*4294967296),Nat.add_mul_mod_self_right,Nat.mod_eq_of_lt lt]
theorem Akj (x n : Nat) (hx : x<4294967296) (h0 : 0<n) (h : n<32) : AcS (x : Int) n=((ro x n : Nat) : Int):=by
 rw [← An9 x n hx h0 h]
 unfold AcS
 have e1 : Int.fdiv (x : Int) (2 ^ n)=((x / 2 ^ n : Nat) : Int):=by
  rw [Int.fdiv_eq_ediv_of_nonneg _ (Int.le_of_lt (Int.pow_pos (by omega))),Int.natCast_ediv,Int.natCast_pow]; rfl
 have e2 : IntKind.wrap .u32 ((x : Int)*2 ^ (32-n))=(((x*2 ^ (32-n)) % 4294967296 : Nat) : Int):=by
  have:=Ado ((x : Int)*2 ^ (32-n))
  unfold w32 at this
  rw [this,Int.natCast_emod,Int.natCast_mul,Int.natCast_pow]; rfl
 rw [e1,e2]
 exact bo (Nat.lt_of_le_of_lt (Nat.div_le_self _ _) hx) (Nat.mod_lt _ (by omega))
theorem AoZ (x n : Nat) : Int.fdiv (x : Int) (2 ^ n)=((Nat.shiftRight x n : Nat) : Int):=by
 have : Nat.shiftRight x n=x / 2 ^ n:=Nat.shiftRight_eq_div_pow _ _
 rw [this,Int.fdiv_eq_ediv_of_nonneg _ (Int.le_of_lt (Int.pow_pos (by omega))),Int.natCast_ediv,Int.natCast_pow]; rfl
theorem Agc (a b : Nat) : (Nat.xor a b) % 4294967296=Nat.xor (a % 4294967296) (b % 4294967296):=by
 have:=Nat.xor_mod_two_pow (a:=a) (b:=b) (n:=32)
 exact this
noncomputable def force {α : Type} (x : Nat) (f : Nat→α) : α:=@Nat.rec (fun _=>α) (f 0) (fun n _=>f n) (Nat.succ x)
theorem Acb {α : Type} (x : Nat) (f : Nat→α) : force x f=f x:=rfl
abbrev F8:=Nat→Nat→Nat→Nat→Nat→Nat→Nat→Nat→Nat
abbrev F16:=Nat→Nat→Nat→Nat→Nat→Nat→Nat→Nat→Nat→Nat→Nat→Nat→Nat→Nat→Nat→Nat→F8
noncomputable def rstp (k : Nat) (ih : F16) : F16:=fun w0 w1 w2 w3 w4 w5 w6 w7 w8 w9 wa wb wc wd we wf a b c d e f g h =>
 force (Nat.mul e 4294967297) fun y =>
 force (Nat.mul a 4294967297) fun z =>
 force (Nat.add (Nat.add (Nat.add h (Nat.shiftRight (Nat.xor (Nat.shiftRight (Nat.xor (Nat.shiftRight y 14) y) 5) y) 6)) (Nat.xor g (Nat.land e (Nat.xor f g)))) (Nat.add k w0)) fun t =>
 force (Nat.mod (Nat.add t (Nat.add (Nat.shiftRight (Nat.xor (Nat.shiftRight (Nat.xor (Nat.shiftRight z 9) z) 11) z) 2) (Nat.xor (Nat.land a (Nat.xor b c)) (Nat.land b c)))) 4294967296) fun a' =>
 force (Nat.mod (Nat.add d t) 4294967296) fun e' =>
 force (Nat.mul w1 4294967297) fun u =>
 force (Nat.mul we 4294967297) fun v =>
 force (Nat.mod (Nat.add (Nat.add (Nat.xor (Nat.shiftRight (Nat.xor (Nat.shiftRight u 11) u) 7) (Nat.shiftRight w1 3)) (Nat.xor (Nat.shiftRight (Nat.xor (Nat.shiftRight v 2) v) 17) (Nat.shiftRight we 10))) (Nat.add w0 w9)) 4294967296) fun w' =>
 ih w1 w2 w3 w4 w5 w6 w7 w8 w9 wa wb wc wd we wf w' a' a b c e' e f g
noncomputable def rnd (kk : F8) (ks : List Nat) : F16 :=
 @List.rec Nat (fun _=>F16) (fun _ _ _ _ _ _ _ _ _ _ _ _ _ _ _ _ a b c d e f g h=>kk a b c d e f g h) (fun k _ ih=>rstp k ih) ks
def tN (e f g h k w : Nat) : Nat:=h+Nat.xor (Nat.xor (ro e 6) (ro e 11)) (ro e 25)+Nat.xor g (Nat.land e (Nat.xor f g))+(k+w)
def uN (a b c : Nat) : Nat:=Nat.xor (Nat.xor (ro a 2) (ro a 13)) (ro a 22)+Nat.xor (Nat.land a (Nat.xor b c)) (Nat.land b c)
def sN (w0 w1 w9 we : Nat) : Nat:=(Nat.xor (Nat.xor (ro w1 7) (ro w1 18)) (Nat.shiftRight w1 3 % 4294967296)+Nat.xor (Nat.xor (ro we 17) (ro we 19)) (Nat.shiftRight we 10 % 4294967296)+(w0+w9)) % 4294967296
theorem Aid {a b : Nat} (h : ∀ i,a.testBit i=b.testBit i) : a=b:=Nat.eq_of_testBit_eq h
theorem AqJ {e f g : Nat} (he : e<4294967296) (hg : g<4294967296) : Nat.xor (Nat.land e f) (Nat.land (Nat.xor 4294967295 e) g)=Nat.xor g (Nat.land e (Nat.xor f g)):=by
 show (e &&& f) ^^^ ((4294967295 ^^^ e) &&& g)=g ^^^ (e &&& (f ^^^ g))
 refine Aid fun i=>?_
 have m : (4294967295 : Nat).testBit i=decide (i<32):=Nat.testBit_two_pow_sub_one 32 i
 simp only [Nat.testBit_xor,Nat.testBit_and,m]
 by_cases c : i<32
 ·simp only [c,decide_true]
  cases e.testBit i <;> cases f.testBit i <;> cases g.testBit i <;> rfl
 ·have z : ∀ x : Nat,x<4294967296→x.testBit i=false:=fun x hx=>Nat.testBit_lt_two_pow (Nat.lt_of_lt_of_le hx (Nat.le_trans (show 4294967296≤2 ^ 32 by decide) (Nat.pow_le_pow_right (n:=2) (by omega) (show 32≤i by omega))))
  simp only [c,decide_false,z e he,z g hg]
  cases f.testBit i <;> rfl
theorem AoP (a b c : Nat) : Nat.xor (Nat.xor (Nat.land a b) (Nat.land a c)) (Nat.land b c)=Nat.xor (Nat.land a (Nat.xor b c)) (Nat.land b c):=by
 show ((a &&& b) ^^^ (a &&& c)) ^^^ (b &&& c)=(a &&& (b ^^^ c)) ^^^ (b &&& c)
 refine Aid fun i=>?_
 simp only [Nat.testBit_xor,Nat.testBit_and]
 cases a.testBit i <;> cases b.testBit i <;> cases c.testBit i <;> rfl
theorem sh3 (y i j l : Nat) : Nat.shiftRight (Nat.xor (Nat.shiftRight (Nat.xor (Nat.shiftRight y l) y) j) y) i=Nat.xor (Nat.xor (Nat.shiftRight y i) (Nat.shiftRight y (j+i))) (Nat.shiftRight y (l+j+i)):=by
 show ((((y >>> l) ^^^ y) >>> j) ^^^ y) >>> i=((y >>> i) ^^^ (y >>> (j+i))) ^^^ (y >>> (l+j+i))
 refine Aid fun n=>?_
 simp only [Nat.testBit_shiftRight,Nat.testBit_xor]
 rw [show l+(j+(i+n))=l+j+i+n by omega,show j+(i+n)=j+i+n by omega]
 cases y.testBit (i+n) <;> cases y.testBit (j+i+n) <;> cases y.testBit (l+j+i+n) <;> rfl
theorem sh2 (y i j : Nat) : Nat.shiftRight (Nat.xor (Nat.shiftRight y j) y) i=Nat.xor (Nat.shiftRight y i) (Nat.shiftRight y (j+i)):=by
 show ((y >>> j) ^^^ y) >>> i=(y >>> i) ^^^ (y >>> (j+i))
 refine Aid fun n=>?_
 simp only [Nat.testBit_shiftRight,Nat.testBit_xor]
 rw [show j+(i+n)=j+i+n by omega]
 cases y.testBit (i+n) <;> cases y.testBit (j+i+n) <;> rfl
theorem Al3 (kk : F8) (w0 w1 w2 w3 w4 w5 w6 w7 w8 w9 wa wb wc wd we wf a b c d e f g h : Nat) : rnd kk [] w0 w1 w2 w3 w4 w5 w6 w7 w8 w9 wa wb wc wd we wf a b c d e f g h=kk a b c d e f g h:=rfl
theorem Api (ih : F16) (k w0 w1 w2 w3 w4 w5 w6 w7 w8 w9 wa wb wc wd we wf a b c d e f g h y z u v E A U V : Nat) (hE : (Nat.xor (Nat.xor (Nat.shiftRight y 6) (Nat.shiftRight y 11)) (Nat.shiftRight y 25)) % 4294967296=E) (hA : (Nat.xor (Nat.xor (Nat.shiftRight z 2) (Nat.shiftRight z 13)) (Nat.shiftRight z 22)) % 4294967296=A) (hU : (Nat.xor (Nat.xor (Nat.shiftRight u 7) (Nat.shiftRight u 18)) (Nat.shiftRight w1 3)) % 4294967296=U) (hV : (Nat.xor (Nat.xor (Nat.shiftRight v 17) (Nat.shiftRight v 19)) (Nat.shiftRight we 10)) % 4294967296=V) :
 ih w1 w2 w3 w4 w5 w6 w7 w8 w9 wa wb wc wd we wf ((Nat.xor (Nat.xor (Nat.shiftRight u 7) (Nat.shiftRight u 18)) (Nat.shiftRight w1 3)+Nat.xor (Nat.xor (Nat.shiftRight v 17) (Nat.shiftRight v 19)) (Nat.shiftRight we 10)+(w0+w9)) % 4294967296) (((h+Nat.xor (Nat.xor (Nat.shiftRight y 6) (Nat.shiftRight y 11)) (Nat.shiftRight y 25)+Nat.xor g (Nat.land e (Nat.xor f g))+(k+w0))+(Nat.xor (Nat.xor (Nat.shiftRight z 2) (Nat.shiftRight z 13)) (Nat.shiftRight z 22)+Nat.xor (Nat.land a (Nat.xor b c)) (Nat.land b c))) % 4294967296) a b c ((d+(h+Nat.xor (Nat.xor (Nat.shiftRight y 6) (Nat.shiftRight y 11)) (Nat.shiftRight y 25)+Nat.xor g (Nat.land e (Nat.xor f g))+(k+w0))) % 4294967296) e f g =
 ih w1 w2 w3 w4 w5 w6 w7 w8 w9 wa wb wc wd we wf ((U+V+(w0+w9)) % 4294967296) ((h+E+Nat.xor g (Nat.land e (Nat.xor f g))+(k+w0)+(A+Nat.xor (Nat.land a (Nat.xor b c)) (Nat.land b c))) % 4294967296) a b c ((d+(h+E+Nat.xor g (Nat.land e (Nat.xor f g))+(k+w0))) % 4294967296) e f g:=by
 generalize Nat.xor (Nat.xor (Nat.shiftRight y 6) (Nat.shiftRight y 11)) (Nat.shiftRight y 25)=E1 at hE ⊢
 generalize Nat.xor (Nat.xor (Nat.shiftRight z 2) (Nat.shiftRight z 13)) (Nat.shiftRight z 22)=A1 at hA ⊢
 generalize Nat.xor (Nat.xor (Nat.shiftRight u 7) (Nat.shiftRight u 18)) (Nat.shiftRight w1 3)=U1 at hU ⊢
 generalize Nat.xor (Nat.xor (Nat.shiftRight v 17) (Nat.shiftRight v 19)) (Nat.shiftRight we 10)=V1 at hV ⊢
 generalize Nat.xor g (Nat.land e (Nat.xor f g))=C1
 generalize Nat.xor (Nat.land a (Nat.xor b c)) (Nat.land b c)=M1
 rw [← hE,← hA,← hU,← hV]
 rw [show (h+E1+C1+(k+w0)+(A1+M1)) % 4294967296=(h+E1 % 4294967296+C1+(k+w0)+(A1 % 4294967296+M1)) % 4294967296 by omega,
  show (d+(h+E1+C1+(k+w0))) % 4294967296=(d+(h+E1 % 4294967296+C1+(k+w0))) % 4294967296 by omega,
  show (U1+V1+(w0+w9)) % 4294967296=(U1 % 4294967296+V1 % 4294967296+(w0+w9)) % 4294967296 by omega]
theorem Al2 (k : Nat) (ih : F16) (w0 w1 w2 w3 w4 w5 w6 w7 w8 w9 wa wb wc wd we wf a b c d e f g h y z u v : Nat) (hy : y=Nat.mul e 4294967297) (hz : z=Nat.mul a 4294967297) (hu : u=Nat.mul w1 4294967297) (hv : v=Nat.mul we 4294967297) : rstp k ih w0 w1 w2 w3 w4 w5 w6 w7 w8 w9 wa wb wc wd we wf a b c d e f g h =
 ih w1 w2 w3 w4 w5 w6 w7 w8 w9 wa wb wc wd we wf ((Nat.xor (Nat.xor (Nat.shiftRight u 7) (Nat.shiftRight u 18)) (Nat.shiftRight w1 3)+Nat.xor (Nat.xor (Nat.shiftRight v 17) (Nat.shiftRight v 19)) (Nat.shiftRight we 10)+(w0+w9)) % 4294967296) (((h+Nat.xor (Nat.xor (Nat.shiftRight y 6) (Nat.shiftRight y 11)) (Nat.shiftRight y 25)+Nat.xor g (Nat.land e (Nat.xor f g))+(k+w0))+(Nat.xor (Nat.xor (Nat.shiftRight z 2) (Nat.shiftRight z 13)) (Nat.shiftRight z 22)+Nat.xor (Nat.land a (Nat.xor b c)) (Nat.land b c))) % 4294967296) a b c ((d+(h+Nat.xor (Nat.xor (Nat.shiftRight y 6) (Nat.shiftRight y 11)) (Nat.shiftRight y 25)+Nat.xor g (Nat.land e (Nat.xor f g))+(k+w0))) % 4294967296) e f g:=by
 have pe : ∀ x y : Nat,Nat.add x y=x+y:=fun _ _=>rfl
 have pm : ∀ x y : Nat,Nat.mod x y=x % y:=fun _ _=>rfl
 unfold rstp
 rw [Acb,Acb,Acb,Acb,Acb,Acb,Acb,Acb,← hy,← hz,← hu,← hv,sh3,sh3,sh2,sh2]
 simp only [pe,pm,Nat.reduceAdd]
theorem Akw (kk : F8) (k : Nat) (ks : List Nat) (w0 w1 w2 w3 w4 w5 w6 w7 w8 w9 wa wb wc wd we wf a b c d e f g h : Nat) : rnd kk (k::ks) w0 w1 w2 w3 w4 w5 w6 w7 w8 w9 wa wb wc wd we wf a b c d e f g h=rnd kk ks w1 w2 w3 w4 w5 w6 w7 w8 w9 wa wb wc wd we wf (sN w0 w1 w9 we) ((tN e f g h k w0+uN a b c) % 4294967296) a b c ((d+tN e f g h k w0) % 4294967296) e f g:=by
 have x3 : ∀ x i j l : Nat,(Nat.xor (Nat.xor (Nat.shiftRight (Nat.mul x 4294967297) i) (Nat.shiftRight (Nat.mul x 4294967297) j)) (Nat.shiftRight (Nat.mul x 4294967297) l)) % 4294967296=Nat.xor (Nat.xor (ro x i) (ro x j)) (ro x l):=by
  intro x i j l
  exact (Agc _ _).trans (congrArg (fun t=>Nat.xor t _) (Agc _ _))
 have x2 : ∀ x i j y : Nat,(Nat.xor (Nat.xor (Nat.shiftRight (Nat.mul x 4294967297) i) (Nat.shiftRight (Nat.mul x 4294967297) j)) y) % 4294967296=Nat.xor (Nat.xor (ro x i) (ro x j)) (y % 4294967296):=by
  intro x i j y
  exact (Agc _ _).trans (congrArg (fun t=>Nat.xor t _) (Agc _ _))
 have q:=Al2 k (rnd kk ks) w0 w1 w2 w3 w4 w5 w6 w7 w8 w9 wa wb wc wd we wf a b c d e f g h _ _ _ _ rfl rfl rfl rfl
 have p:=Api (rnd kk ks) k w0 w1 w2 w3 w4 w5 w6 w7 w8 w9 wa wb wc wd we wf a b c d e f g h _ _ _ _ _ _ _ _ (x3 e 6 11 25) (x3 a 2 13 22) (x2 w1 7 18 (Nat.shiftRight w1 3)) (x2 we 17 19 (Nat.shiftRight we 10))
 exact q.trans p
def lN (a b c d e f g h : Nat) : List Int:=[(a : Int),b,c,d,e,f,g,h]
theorem Anr {a b c d e f g h k w : Nat} (ha : a<4294967296) (hb : b<4294967296) (hc : c<4294967296) (he : e<4294967296) (hf : f<4294967296) (hg : g<4294967296) : Ao4 (lN a b c d e f g h) (k : Int) (w : Int)=lN ((tN e f g h k w+uN a b c) % 4294967296) a b c ((d+tN e f g h k w) % 4294967296) e f g:=by
 have T : AnZ (lN a b c d e f g h) (k : Int) (w : Int)=w32 ((tN e f g h k w : Nat) : Int):=by
  unfold AnZ lN
  show w32 (w32 (w32 (w32 ((h : Int)+AaF .xor .u32 (AaF .xor .u32 (AcS (e : Int) 6) (AcS (e : Int) 11)) (AcS (e : Int) 25))+AaF .xor .u32 (AaF .and .u32 (e : Int) (f : Int)) (AaF .and .u32 (AaF .xor .u32 (IntKind.max .u32) (e : Int)) (g : Int)))+(k : Int))+(w : Int))=_
  rw [Akj e 6 he (by omega) (by omega),Akj e 11 he (by omega) (by omega),Akj e 25 he (by omega) (by omega),bx (Ade _ _) (Ade _ _),bx (AjU (Ade _ _) (Ade _ _)) (Ade _ _),show IntKind.max .u32=((4294967295 : Nat) : Int) from rfl,bx (by omega) he,ba (by exact he) hf,ba (AjU (by omega) he) hg,bx (AiT hf) (AiT hg),AqJ he hg]
  unfold tN
  simp only [Ado]
  omega
 have U : Aoq (lN a b c d e f g h)=((uN a b c : Nat) : Int):=by
  unfold Aoq lN
  show AaF .xor .u32 (AaF .xor .u32 (AcS (a : Int) 2) (AcS (a : Int) 13)) (AcS (a : Int) 22)+AaF .xor .u32 (AaF .xor .u32 (AaF .and .u32 (a : Int) (b : Int)) (AaF .and .u32 (a : Int) (c : Int))) (AaF .and .u32 (b : Int) (c : Int))=_
  rw [Akj a 2 ha (by omega) (by omega),Akj a 13 ha (by omega) (by omega),Akj a 22 ha (by omega) (by omega),bx (Ade _ _) (Ade _ _),bx (AjU (Ade _ _) (Ade _ _)) (Ade _ _),ba ha hb,ba ha hc,ba hb hc,bx (AiT hb) (AiT hc),bx (AjU (AiT hb) (AiT hc)) (AiT hc),AoP]
  unfold uN
  omega
 unfold Ao4
 rw [T,U]
 unfold lN
 simp only [Ado]
 have e1 : ((((tN e f g h k w : Nat) : Int) % 4294967296+((uN a b c : Nat) : Int)) % 4294967296)=(((tN e f g h k w+uN a b c) % 4294967296 : Nat) : Int):=by omega
 have e2 : (((d : Nat) : Int)+((tN e f g h k w : Nat) : Int) % 4294967296) % 4294967296=(((d+tN e f g h k w) % 4294967296 : Nat) : Int):=by omega
 show [_,(a : Int),b,c,((d : Int)+_) % 4294967296,e,f,g]=_
 rw [e1,e2]
theorem Ans {w : List Int} {i w0 w1 w9 we : Nat} (h0 : w.getD (i-16) 0=(w0 : Int)) (h1 : w.getD (i-15) 0=(w1 : Int)) (h9 : w.getD (i-7) 0=(w9 : Int)) (he : w.getD (i-2) 0=(we : Int)) (l1 : w1<4294967296) (le : we<4294967296) : sig w i=((sN w0 w1 w9 we : Nat) : Int):=by
 have sh : ∀ {x n : Nat},x<4294967296→Nat.shiftRight x n<4294967296:=fun {x n} h=>by
  have : Nat.shiftRight x n=x / 2 ^ n:=Nat.shiftRight_eq_div_pow _ _
  rw [this]; exact Nat.lt_of_le_of_lt (Nat.div_le_self _ _) h
 unfold sig
 rw [h0,h1,h9,he,Akj w1 7 l1 (by omega) (by omega),Akj w1 18 l1 (by omega) (by omega),Akj we 17 le (by omega) (by omega),Akj we 19 le (by omega) (by omega),bx (Ade _ _) (Ade _ _),bx (Ade _ _) (Ade _ _),AoZ w1 3,AoZ we 10,bx (AjU (Ade _ _) (Ade _ _)) (sh l1),bx (AjU (Ade _ _) (Ade _ _)) (sh le)]
 have wd : ∀ x : Int,IntKind.wrap .u32 x=x % 4294967296:=Ado
 rw [wd,wd,wd]
 unfold sN
 rw [Nat.mod_eq_of_lt (sh l1),Nat.mod_eq_of_lt (sh le)]
 omega
end Go.TF
set_option linter.unusedVariables false
set_option linter.unusedSimpArgs false
namespace Go.TF
open Go Go.Abs
def KN : List Nat:=[1116352408,1899447441,3049323471,3921009573,961987163,1508970993,2453635748,2870763221,3624381080,310598401,607225278,1426881987,1925078388,2162078206,2614888103,3248222580,3835390401,4022224774,264347078,604807628,770255983,1249150122,1555081692,1996064986,2554220882,2821834349,2952996808,3210313671,3336571891,3584528711,113926993,338241895,666307205,773529912,1294757372,1396182291,1695183700,1986661051,2177026350,2456956037,2730485921,2820302411,3259730800,3345764771,3516065817,3600352804,4094571909,275423344,430227734,506948616,659060556,883997877,958139571,1322822218,1537002063,1747873779,1955562222,2024104815,2227730452,2361852424,2428436474,2756734187,3204031479,3329325298]
theorem Afz : KN.length=64:=rfl
theorem Aqe {i : Nat} (h : i<64) : KK.getD i 0=((KN[i]'(by rw [Afz]; exact h) : Nat) : Int):=by
 have e : KK=KN.map fun (n : Nat)=>(n : Int):=by decide +kernel
 rw [e,List.getD_eq_getElem?_getD,List.getElem?_map,List.getElem?_eq_getElem (by rw [Afz]; exact h)]; rfl
theorem Afw {l : List Int} {i j : Nat} {x : Int} (h : i≠j) : (l.set i x).getD j 0=l.getD j 0:=by
 rw [List.getD_eq_getElem?_getD,List.getElem?_set_ne h,← List.getD_eq_getElem?_getD]
theorem Aew {l : List Int} {i : Nat} {x : Int} (h : i<l.length) : (l.set i x).getD i 0=x:=by
 rw [List.getD_eq_getElem?_getD,List.getElem?_set_self h]; rfl
theorem AhB (b : List Int) : ∀ (m i : Nat) (w : List Int),i+m≤w.length→(∀ j,j<i→(AdJ b m i w).getD j 0=w.getD j 0)∧(∀ j,i≤j→j<i+m→(AdJ b m i w).getD j 0=Anj b j)
 | 0,i,w,h=>⟨fun j hj=>rfl,fun j h1 h2=>by omega⟩
 | m+1,i,w,h=>by
  have ih:=AhB b m (i+1) (w.set i (Anj b i)) (by rw [List.length_set]; omega)
  refine ⟨fun j hj=>?_,fun j h1 h2=>?_⟩
  ·rw [AdJ,ih.1 j (by omega),Afw (by omega)]
  ·rw [AdJ]
   by_cases e : j=i
   ·subst e; rw [ih.1 j (by omega),Aew (by omega)]
   ·exact ih.2 j (by omega) (by omega)
theorem Aji {w w' : List Int} {i : Nat} (h16 : 16≤i) (h : ∀ j,j<i→w.getD j 0=w'.getD j 0) : sig w i=sig w' i:=by
 unfold sig
 rw [h (i-16) (by omega),h (i-15) (by omega),h (i-7) (by omega),h (i-2) (by omega)]
theorem AhI : ∀ (m i : Nat) (w : List Int),16≤i→i+m≤w.length→(∀ j,j<i→(AeF m i w).getD j 0=w.getD j 0)∧(∀ j,i≤j→j<i+m→(AeF m i w).getD j 0=sig (AeF m i w) j)
 | 0,i,w,_,h=>⟨fun j hj=>rfl,fun j h1 h2=>by omega⟩
 | m+1,i,w,h16,h=>by
  have ih:=AhI m (i+1) (w.set i (sig w i)) (by omega) (by rw [List.length_set]; omega)
  have low : ∀ j,j<i→(AeF m (i+1) (w.set i (sig w i))).getD j 0=w.getD j 0:=fun j hj=>by rw [ih.1 j (by omega),Afw (by omega)]
  refine ⟨fun j hj=>by rw [AeF]; exact low j hj,fun j h1 h2=>?_⟩
  rw [AeF]
  by_cases e : j=i
  ·subst e
   rw [ih.1 j (by omega),Aew (by omega)]
   exact Aji h16 fun q hq=>(low q hq).symm
  ·exact ih.2 j (by omega) (by omega)
def Age (b : List Nat) (i : Nat) : Nat:=((b.getD (4*i) 0*256+b.getD (4*i+1) 0)*256+b.getD (4*i+2) 0)*256+b.getD (4*i+3) 0
def cI (b : List Nat) : List Int:=b.map fun (n : Nat)=>(n : Int)
theorem Aiy (b : List Nat) (i : Nat) : (cI b).getD i 0=((b.getD i 0 : Nat) : Int):=by
 unfold cI
 rw [List.getD_eq_getElem?_getD,List.getElem?_map,List.getD_eq_getElem?_getD]
 cases b[i]? <;> rfl
theorem Ag3 {b : List Nat} (h : ∀ x ∈ b,x<256) (i : Nat) : b.getD i 0<256:=by
 rw [List.getD_eq_getElem?_getD]
 cases q : b[i]? with
 | none=>simp
 | some x=>exact h x (List.mem_of_getElem? q)
theorem Aja {b : List Nat} (h : ∀ x ∈ b,x<256) (i : Nat) : Anj (cI b) i=((Age b i : Nat) : Int)∧Age b i<4294967296:=by
 have h0:=Ag3 h (4*i); have h1:=Ag3 h (4*i+1); have h2:=Ag3 h (4*i+2); have h3:=Ag3 h (4*i+3)
 unfold Anj Age
 rw [Aiy,Aiy,Aiy,Aiy]
 generalize b.getD (4*i) 0=x0 at h0
 generalize b.getD (4*i+1) 0=x1 at h1
 generalize b.getD (4*i+2) 0=x2 at h2
 generalize b.getD (4*i+3) 0=x3 at h3
 have s : ∀ (x c : Nat),x<256→x*c<4294967296→IntKind.wrap .u32 (IntKind.wrap .u32 (x : Int)*(c : Int))=((x*c : Nat) : Int):=fun x c hx hc=>by
  rw [wN (by omega),← Int.natCast_mul]; exact wN hc
 have s0:=s x0 16777216 h0 (by omega); have s1:=s x1 65536 h1 (by omega); have s2:=s x2 256 h2 (by omega)
 have p24 : (2 : Int) ^ 24=((16777216 : Nat) : Int):=rfl
 have p16 : (2 : Int) ^ 16=((65536 : Nat) : Int):=rfl
 have p8 : (2 : Int) ^ 8=((256 : Nat) : Int):=rfl
 rw [p24,p16,p8,s0,s1,s2,wN (x:=x3) (by omega)]
 have o1 : x0*16777216 ||| x1*65536=x0*16777216+x1*65536:=by
  have:=Nat.two_pow_add_eq_or_of_lt (i:=24) (b:=x1*65536) (by omega) x0
  rw [show 2 ^ 24*x0=x0*16777216 by omega] at this; exact this.symm
 have o2 : x0*16777216+x1*65536 ||| x2*256=x0*16777216+x1*65536+x2*256:=by
  have:=Nat.two_pow_add_eq_or_of_lt (i:=16) (b:=x2*256) (by omega) (x0*256+x1)
  rw [show 2 ^ 16*(x0*256+x1)=x0*16777216+x1*65536 by omega] at this; exact this.symm
 have o3 : x0*16777216+x1*65536+x2*256 ||| x3=x0*16777216+x1*65536+x2*256+x3:=by
  have:=Nat.two_pow_add_eq_or_of_lt (i:=8) (b:=x3) (by omega) (x0*65536+x1*256+x2)
  rw [show 2 ^ 8*(x0*65536+x1*256+x2)=x0*16777216+x1*65536+x2*256 by omega] at this; exact this.symm
 rw [bo (by omega) (by omega),o1,bo (by omega) (by omega),o2,bo (by omega) (by omega),o3]
 exact ⟨by omega,by omega⟩
structure WS (b : List Nat) (w : List Int) (W : Nat→Nat) : Prop where
 at' : ∀ j,j<64→w.getD j 0=((W j : Nat) : Int)
 lt : ∀ j,j<64→W j<4294967296
 lo : ∀ j,j<16→W j=Age b j
 hi : ∀ j,16≤j→j<64→W j=sN (W (j-16)) (W (j-15)) (W (j-7)) (W (j-2))
theorem Apa {b : List Nat} (h : ∀ x ∈ b,x<256) : ∃ W,WS b (AeF 48 16 (AdJ (cI b) 16 0 (List.replicate 64 0))) W:=by
 have wl : (AdJ (cI b) 16 0 (List.replicate 64 0)).length=64:=by rw [AdI,List.length_replicate]
 have wg:=AhB (cI b) 16 0 (List.replicate 64 0) (by rw [List.length_replicate]; omega)
 have sg:=AhI 48 16 (AdJ (cI b) 16 0 (List.replicate 64 0)) (by omega) (by omega)
 generalize AeF 48 16 (AdJ (cI b) 16 0 (List.replicate 64 0))=w at sg
 have key : ∀ n j,j<n→j<64→∃ x : Nat,w.getD j 0=(x : Int)∧x<4294967296:=by
  intro n
  induction n with
  | zero=>intro j hj; omega
  | succ n ih =>
   intro j hj h64
   by_cases c : j<16
   ·rw [sg.1 j c,wg.2 j (by omega) (by omega)]
    exact ⟨_,(Aja h j).1,(Aja h j).2⟩
   ·obtain ⟨x0,a0,_⟩:=ih (j-16) (by omega) (by omega)
    obtain ⟨x1,a1,l1⟩:=ih (j-15) (by omega) (by omega)
    obtain ⟨x9,a9,_⟩:=ih (j-7) (by omega) (by omega)
    obtain ⟨xe,ae,le⟩:=ih (j-2) (by omega) (by omega)
    rw [sg.2 j (by omega) (by omega),Ans a0 a1 a9 ae l1 le]
    exact ⟨_,rfl,Nat.mod_lt _ (by omega)⟩
 have at' : ∀ j,j<64→w.getD j 0=(((w.getD j 0).toNat : Nat) : Int)∧(w.getD j 0).toNat<4294967296:=fun j hj=>by
  obtain ⟨x,e,l⟩:=key 64 j hj hj
  rw [e]; exact ⟨by omega,by omega⟩
 refine ⟨fun j=>(w.getD j 0).toNat,fun j hj=>(at' j hj).1,fun j hj=>(at' j hj).2,fun j hj=>?_,fun j h16 h64=>?_⟩
 ·show (w.getD j 0).toNat=_
  rw [sg.1 j hj,wg.2 j (by omega) (by omega),(Aja h j).1]; omega
 ·show (w.getD j 0).toNat=_
  rw [sg.2 j h16 (by omega),Ans (at' _ (by omega)).1 (at' _ (by omega)).1 (at' _ (by omega)).1 (at' _ (by omega)).1 (at' _ (by omega)).2 (at' _ (by omega)).2]
  omega
def B8 (a b c d e f g h : Nat) : Prop:=a<4294967296∧b<4294967296∧c<4294967296∧d<4294967296∧e<4294967296∧f<4294967296∧g<4294967296∧h<4294967296
theorem Ajm {B : List Nat} {w : List Int} {W : Nat→Nat} (hw : WS B w W) : ∀ (m i : Nat) (w0 w1 w2 w3 w4 w5 w6 w7 w8 w9 wa wb wc wd we wf a b c d e f g h : Nat),i+m=64 →
 (i<64→w0=W i)→(i+1<64→w1=W (i+1))→(i+2<64→w2=W (i+2))→(i+3<64→w3=W (i+3))→(i+4<64→w4=W (i+4))→(i+5<64→w5=W (i+5))→(i+6<64→w6=W (i+6))→(i+7<64→w7=W (i+7))→(i+8<64→w8=W (i+8))→(i+9<64→w9=W (i+9))→(i+10<64→wa=W (i+10))→(i+11<64→wb=W (i+11))→(i+12<64→wc=W (i+12))→(i+13<64→wd=W (i+13))→(i+14<64→we=W (i+14))→(i+15<64→wf=W (i+15))→B8 a b c d e f g h →
 ∃ a' b' c' d' e' f' g' h',B8 a' b' c' d' e' f' g' h'∧rounds KK w m i (lN a b c d e f g h)=lN a' b' c' d' e' f' g' h'∧∀ kk : F8,rnd kk (KN.drop i) w0 w1 w2 w3 w4 w5 w6 w7 w8 w9 wa wb wc wd we wf a b c d e f g h=kk a' b' c' d' e' f' g' h'
 | 0,i,w0,w1,w2,w3,w4,w5,w6,w7,w8,w9,wa,wb,wc,wd,we,wf,a,b,c,d,e,f,g,h,hi,_,_,_,_,_,_,_,_,_,_,_,_,_,_,_,_,hb=>by
  refine ⟨a,b,c,d,e,f,g,h,hb,rfl,fun kk=>?_⟩
  rw [List.drop_of_length_le (by rw [Afz]; omega),Al3]
 | m+1,i,w0,w1,w2,w3,w4,w5,w6,w7,w8,w9,wa,wb,wc,wd,we,wf,a,b,c,d,e,f,g,h,hi,q0,q1,q2,q3,q4,q5,q6,q7,q8,q9,qa,qb,qc,qd,qe,qf,hb=>by
  have hk:=Aqe (show i<64 by omega)
  have e0:=q0 (by omega)
  have st:=Anr (k:=KN[i]'(by rw [Afz]; omega)) (w:=w0) (d:=d) (h:=h) hb.1 hb.2.1 hb.2.2.1 hb.2.2.2.2.1 hb.2.2.2.2.2.1 hb.2.2.2.2.2.2.1
  obtain ⟨a',b',c',d',e',f',g',h',r1,r2,r3⟩:=Ajm hw m (i+1) w1 w2 w3 w4 w5 w6 w7 w8 w9 wa wb wc wd we wf (sN w0 w1 w9 we) ((tN e f g h (KN[i]'(by rw [Afz]; omega)) w0+uN a b c) % 4294967296) a b c ((d+tN e f g h (KN[i]'(by rw [Afz]; omega)) w0) % 4294967296) e f g (by omega)
   (fun z=>by rw [q1 z]) (fun z=>by rw [q2 (by omega)]) (fun z=>by rw [q3 (by omega)]) (fun z=>by rw [q4 (by omega)]) (fun z=>by rw [q5 (by omega)]) (fun z=>by rw [q6 (by omega)]) (fun z=>by rw [q7 (by omega)]) (fun z=>by rw [q8 (by omega)]) (fun z=>by rw [q9 (by omega)]) (fun z=>by rw [qa (by omega)]) (fun z=>by rw [qb (by omega)]) (fun z=>by rw [qc (by omega)]) (fun z=>by rw [qd (by omega)]) (fun z=>by rw [qe (by omega)]) (fun z=>by rw [qf (by omega)])
   (fun z=>by
    rw [hw.hi (i+1+15) (by omega) z,q0 (by omega),q1 (by omega),q9 (by omega),qe (by omega),show i+1+15-16=i by omega,show i+1+15-15=i+1 by omega,show i+1+15-7=i+9 by omega,show i+1+15-2=i+14 by omega])
   ⟨Nat.mod_lt _ (by omega),hb.1,hb.2.1,hb.2.2.1,Nat.mod_lt _ (by omega),hb.2.2.2.2.1,hb.2.2.2.2.2.1,hb.2.2.2.2.2.2.1⟩
  refine ⟨a',b',c',d',e',f',g',h',r1,?_,fun kk=>?_⟩
  ·rw [rounds,hk,hw.at' i (by omega),← e0,st]; exact r2
  ·rw [List.drop_eq_getElem_cons (by rw [Afz]; omega),Akw]; exact r3 kk
noncomputable def take4 {α : Type} (l : List Nat) (f : Nat→List Nat→α) : α :=
 match l with
 | a::b::c::d::r=>force (Nat.add (Nat.mul (Nat.add (Nat.mul (Nat.add (Nat.mul a 256) b) 256) c) 256) d) fun w=>f w r
 | _=>f 0 []
theorem Akq {α : Type} {l : List Nat} (h : 4≤l.length) (f : Nat→List Nat→α) : take4 l f=f (((l.getD 0 0*256+l.getD 1 0)*256+l.getD 2 0)*256+l.getD 3 0) (l.drop 4):=by
 match l,h with
 | a::b::c::d::r,_ =>
  have e : take4 (a::b::c::d::r) f=force (Nat.add (Nat.mul (Nat.add (Nat.mul (Nat.add (Nat.mul a 256) b) 256) c) 256) d) fun w=>f w r:=rfl
  rw [e,Acb]; rfl
theorem Ai7 {α : Type} {b : List Nat} {i : Nat} (h : 4*i+4≤b.length) (f : Nat→List Nat→α) : take4 (b.drop (4*i)) f=f (Age b i) (b.drop (4*(i+1))):=by
 rw [Akq (by rw [List.length_drop]; omega)]
 have g : ∀ j,(b.drop (4*i)).getD j 0=b.getD (4*i+j) 0:=fun j=>by
  rw [List.getD_eq_getElem?_getD,List.getElem?_drop,List.getD_eq_getElem?_getD]
 rw [g,g,g,g,List.drop_drop]
 rfl
abbrev L8:=List Nat→F8
noncomputable def blkN (AdG : L8) (l : List Nat) : F8:=fun a b c d e f g h =>
 take4 l fun w0 l=>take4 l fun w1 l=>take4 l fun w2 l=>take4 l fun w3 l=>take4 l fun w4 l=>take4 l fun w5 l=>take4 l fun w6 l=>take4 l fun w7 l =>
 take4 l fun w8 l=>take4 l fun w9 l=>take4 l fun wa l=>take4 l fun wb l=>take4 l fun wc l=>take4 l fun wd l=>take4 l fun we l=>take4 l fun wf l =>
 rnd (fun a' b' c' d' e' f' g' h'=>force (Nat.mod (Nat.add a a') 4294967296) fun a=>force (Nat.mod (Nat.add b b') 4294967296) fun b=>force (Nat.mod (Nat.add c c') 4294967296) fun c=>force (Nat.mod (Nat.add d d') 4294967296) fun d=>force (Nat.mod (Nat.add e e') 4294967296) fun e=>force (Nat.mod (Nat.add f f') 4294967296) fun f=>force (Nat.mod (Nat.add g g') 4294967296) fun g=>force (Nat.mod (Nat.add h h') 4294967296) fun h=>AdG l a b c d e f g h) KN w0 w1 w2 w3 w4 w5 w6 w7 w8 w9 wa wb wc wd we wf a b c d e f g h
theorem Ai4 {b : List Nat} {i : Nat} (h : i<16) : Age (b.take 64) i=Age b i:=by
 have g : ∀ j,j<64→(b.take 64).getD j 0=b.getD j 0:=fun j hj=>by
  rw [List.getD_eq_getElem?_getD,List.getElem?_take_of_lt hj,List.getD_eq_getElem?_getD]
 unfold Age
 rw [g _ (by omega),g _ (by omega),g _ (by omega),g _ (by omega)]
theorem Aop {l : List Nat} (hl : 64≤l.length) (hb : ∀ x ∈ l,x<256) {a b c d e f g h : Nat} (B : B8 a b c d e f g h) : ∃ a' b' c' d' e' f' g' h',B8 a' b' c' d' e' f' g' h'∧AcJ (lN a b c d e f g h) (cI (l.take 64)) KK=lN a' b' c' d' e' f' g' h'∧∀ AdG : L8,blkN AdG l a b c d e f g h=AdG (l.drop 64) a' b' c' d' e' f' g' h':=by
 obtain ⟨W,hw⟩:=Apa (b:=l.take 64) fun x hx=>hb x (List.mem_of_mem_take hx)
 have lo : ∀ j,j<16→Age l j=W j:=fun j hj=>by rw [hw.lo j hj,Ai4 hj]
 obtain ⟨a',b',c',d',e',f',g',h',r1,r2,r3⟩:=Ajm hw 64 0 (W 0) (W 1) (W 2) (W 3) (W 4) (W 5) (W 6) (W 7) (W 8) (W 9) (W 10) (W 11) (W 12) (W 13) (W 14) (W 15) a b c d e f g h (by omega) (fun _=>rfl) (fun _=>rfl) (fun _=>rfl) (fun _=>rfl) (fun _=>rfl) (fun _=>rfl) (fun _=>rfl) (fun _=>rfl) (fun _=>rfl) (fun _=>rfl) (fun _=>rfl) (fun _=>rfl) (fun _=>rfl) (fun _=>rfl) (fun _=>rfl) (fun _=>rfl) B
 have lt : ∀ x : Nat,x % 4294967296<4294967296:=fun x=>Nat.mod_lt _ (by omega)
 refine ⟨(a+a') % 4294967296,(b+b') % 4294967296,(c+c') % 4294967296,(d+d') % 4294967296,(e+e') % 4294967296,(f+f') % 4294967296,(g+g') % 4294967296,(h+h') % 4294967296,⟨lt _,lt _,lt _,lt _,lt _,lt _,lt _,lt _⟩,?_,fun AdG=>?_⟩
 ·unfold AcJ
  rw [r2]
  have w : ∀ x y : Nat,w32 ((x : Int)+(y : Int))=(((x+y) % 4294967296 : Nat) : Int):=fun x y=>by rw [Ado]; omega
  show [w32 _,w32 _,w32 _,w32 _,w32 _,w32 _,w32 _,w32 _]=_
  unfold lN
  show [w32 ((a : Int)+(a' : Int)),w32 ((b : Int)+(b' : Int)),w32 ((c : Int)+(c' : Int)),w32 ((d : Int)+(d' : Int)),w32 ((e : Int)+(e' : Int)),w32 ((f : Int)+(f' : Int)),w32 ((g : Int)+(g' : Int)),w32 ((h : Int)+(h' : Int))]=_
  rw [w,w,w,w,w,w,w,w]
 ·have t:=fun (i : Nat) (hi : i<16)=>@Ai7 Nat l i (by omega)
  unfold blkN
  conv=>lhs; rw [show l=l.drop (4*0) from rfl]
  rw [t 0 (by omega),t 1 (by omega),t 2 (by omega),t 3 (by omega),t 4 (by omega),t 5 (by omega),t 6 (by omega),t 7 (by omega),t 8 (by omega),t 9 (by omega),t 10 (by omega),t 11 (by omega),t 12 (by omega),t 13 (by omega),t 14 (by omega),t 15 (by omega)]
  rw [lo 0 (by omega),lo 1 (by omega),lo 2 (by omega),lo 3 (by omega),lo 4 (by omega),lo 5 (by omega),lo 6 (by omega),lo 7 (by omega),lo 8 (by omega),lo 9 (by omega),lo 10 (by omega),lo 11 (by omega),lo 12 (by omega),lo 13 (by omega),lo 14 (by omega),lo 15 (by omega)]
  have r3':=r3 (fun a' b' c' d' e' f' g' h'=>force (Nat.mod (Nat.add a a') 4294967296) fun a=>force (Nat.mod (Nat.add b b') 4294967296) fun b=>force (Nat.mod (Nat.add c c') 4294967296) fun c=>force (Nat.mod (Nat.add d d') 4294967296) fun d=>force (Nat.mod (Nat.add e e') 4294967296) fun e=>force (Nat.mod (Nat.add f f') 4294967296) fun f=>force (Nat.mod (Nat.add g g') 4294967296) fun g=>force (Nat.mod (Nat.add h h') 4294967296) fun h=>AdG (l.drop (4*(15+1))) a b c d e f g h)
  rw [List.drop_zero] at r3'
  rw [r3']
  simp only [Acb]
  rfl
noncomputable def runN (m : Nat) : L8:=@Nat.rec (fun _=>L8) (fun _ a _ _ _ _ _ _ _=>a) (fun _ ih l a b c d e f g h=>blkN ih l a b c d e f g h) m
end Go.TF
