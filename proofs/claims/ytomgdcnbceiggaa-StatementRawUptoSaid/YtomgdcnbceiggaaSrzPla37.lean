import Derived.Test.YtomgdcnbceiggaaSrzWal30
import Derived.Test.YtomgdcnbceiggaaSrzLay24
set_option linter.unusedVariables false
set_option linter.unusedSimpArgs false
namespace Go.TF
open Go Go.Abs
theorem AaX {α : Type} {c : Prop} [Decidable c] {x : Option α} (h : c) : chk c x=x:=by simp [chk,h]
theorem AcV {α β : Type} {l : List α} {i : Nat} {f : α→Option β} (h : i<l.length) : idx l (i : Int) f=f l[i]:=by
 simp [idx,h]
@[simp] theorem AaH {α γ : Type} (a : α) (f : α→Option γ) : AbD (some a) f=f a:=rfl
@[simp] theorem Aea {α β γ : Type} (a : α) (b : β) (f : α→β→Option γ) : AfT (some (a,b)) f=f a b:=rfl
@[simp] theorem Ab8 {α β δ γ : Type} (a : α) (b : β) (c : δ) (f : α→β→δ→Option γ) : Aer (some (a,b,c)) f=f a b c:=rfl
@[simp] theorem Ap5 {α β δ ε γ : Type} (a : α) (b : β) (c : δ) (d : ε) (f : α→β→δ→ε→Option γ) : AsY (some (a,b,c,d)) f=f a b c d:=rfl
@[simp] theorem Ajw {α γ : Type} (x : α) (f : α→Option γ) : AnY x f=f x:=rfl
theorem w64 {n : Int} (h1 : -9223372036854775808≤n) (h2 : n≤9223372036854775807) : IntKind.wrap .i64 n=n:=Ao4 h1 h2
theorem AqF {n : Int} (h1 : 0≤n) (h2 : n≤18446744073709551615) : IntKind.wrap .u64 n=n:=Ao3 .u64 (by simpa [IntKind.min,IntKind.bits,IntKind.signed] using h1) (by simpa [IntKind.max,IntKind.bits,IntKind.signed] using h2)
theorem AlL (n : Int) : IntKind.wrap .u8 n=n % 256:=by simp [IntKind.wrap]
theorem AkE (n : Int) : IntKind.wrap .u64 n=n % 18446744073709551616:=by simp [IntKind.wrap]
theorem AiB (n : Int) : IntKind.wrap .i64 n=if n % 18446744073709551616<9223372036854775808 then n % 18446744073709551616 else n % 18446744073709551616-18446744073709551616:=by
 simp only [IntKind.wrap,IntKind.signed,IntKind.bits]
 simp
 split <;> split <;> omega
theorem Adr (a : ByteArray) : AbZ a a=true:=by simp [AbZ]
theorem Aiu (a b : ByteArray) : AbZ a b=true↔a=b:=by
 simp only [AbZ,beq_iff_eq]
 constructor
 ·intro h
  cases a; cases b
  simp at h
  simp [h]
 ·rintro rfl; rfl
end Go.TF
set_option linter.unusedVariables false
set_option linter.unusedSimpArgs false
namespace Go.TF
open Go Go.Abs
theorem AeS (i : Nat) (h : i<9223372036854775807) : IntKind.wrap .i64 ((i : Int)+1)=((i+1 : Nat) : Int):=by rw [w64 (by omega) (by omega)]; omega
def Aqn (p : Int→Bool) : Nat→Nat→List Int
 | 0,_=>[]
 | m+1,i=>if p i=true then (i : Int)::Aqn p m (i+1) else Aqn p m (i+1)
def sel (p : Int→Bool) : List Int:=Aqn p 64 0
def asc (p : Int) : List Int→Bool
 | []=>true
 | x::l=>decide (0≤x)&&decide (x<64)&&decide (p<x)&&asc x l
def okR (l : List Int) : Bool := !l.isEmpty&&asc (-1) l
def Asr (a b : List Int) : List Int:=sel fun j=>decide (j ∈ a)||decide (j ∈ b)
def Asq (a b : List Int) : List Int:=sel fun j=>decide (j ∈ a) && !decide (j ∈ b)
def Arq (l : List Int) (i : Nat) : Int:=if i=0 then -1 else l.getD (i-1) 0
end Go.TF
set_option linter.unusedVariables false
set_option linter.unusedSimpArgs false
namespace Go.TF
open Go Go.Abs
def As1 (a b : Int) : Int:=if b<1 then 0 else if Int.tmod a b<0 then IntKind.wrap .i64 (Int.tmod a b+b) else Int.tmod a b
abbrev Pos (p : Int) : Prop:=0≤p∧p≤1000
end Go.TF
set_option linter.unusedVariables false
set_option linter.unusedSimpArgs false
namespace Go.TF
open Go Go.Abs
def Ahw (v : Int) : Nat→List Int
 | 0=>[]
 | j+1=>(v / 2 ^ (8*j) % 256)::Ahw v j
theorem AhJ (v : Int) : ∀ j,(Ahw v j).length=j
 | 0=>rfl
 | j+1=>by simp [Ahw,AhJ v j]
def enc (v : Int) : List Int:=Ahw v 8
theorem Aay (v : Int) : (enc v).length=8:=AhJ v 8
theorem Al4 (v : Int) (j : Nat) (hj : j<8) : (v % 18446744073709551616) / 2 ^ (8*j) % 256=v / 2 ^ (8*j) % 256:=by
 have : j=0∨j=1∨j=2∨j=3∨j=4∨j=5∨j=6∨j=7:=by omega
 rcases this with rfl | rfl | rfl | rfl | rfl | rfl | rfl | rfl <;> simp <;> omega
theorem AkS (k : Nat) (v : Int) : ∀ (j n : Nat) (acc : List Int),j≤8→j<n→acc.length+j≤20000000000000→AcS.L1 k v n (8*(j : Int)-8) acc=some (acc++Ahw v j)
 | 0,n+1,acc,_,_,_=>by
  rw [AcS.L1,if_neg (by omega)]; simp [Ahw]
 | j+1,n+1,acc,hj,hn,ha=>by
  have e1 : IntKind.wrap .u64 (8*((j+1 : Nat) : Int)-8)=8*(j : Int):=by rw [AqF (by omega) (by omega)]; omega
  have e2 : IntKind.wrap .i64 (8*((j+1 : Nat) : Int)-8-8)=8*(j : Int)-8:=by rw [w64 (by omega) (by omega)]; omega
  have e3 : min (8*(j : Int)).toNat 64=8*j:=by omega
  have e4 : IntKind.wrap .u8 (Int.fdiv (IntKind.wrap .u64 v) (2 ^ (8*j)))=v / 2 ^ (8*j) % 256:=by
   rw [AlL,AkE,Int.fdiv_eq_ediv_of_nonneg _ (by exact Int.pow_nonneg (by omega)),Al4 v j (by omega)]
  rw [AcS.L1,if_pos (by omega),e1,AaX (by omega),e3,e4,AaX (by simp; omega),e2,AkS k v j n _ (by omega) (by omega) (by simp; omega)]
  simp [Ahw]
theorem AnS (k : Nat) (hk : 8<k) (b : List Int) (v : Int) (hb : b.length≤10000000000000) : AcS k b v=some (b++enc v):=by
 unfold AcS
 exact AkS k v 8 k b (by omega) hk (by omega)
theorem Af7 (k : Nat) (hk : 8<k) (b : List Int) (v : Int) (hb : b.length≤10000000000000) : Acq k b v=some (b++enc v):=by
 unfold Acq AbW
 rw [AaX (by omega),AaH,AnS k hk b v hb,AaH]
theorem Ag3 (k : Nat) (v : Int) : ∀ (j n : Nat) (acc : List Int),j≤8→j<n→acc.length+j≤20000000000000→AbQ.L1 k v n ((j : Int)-1) acc=some (acc++Ahw v j)
 | 0,n+1,acc,_,_,_=>by
  rw [AbQ.L1,if_neg (by omega)]; simp [Ahw]
 | j+1,n+1,acc,hj,hn,ha=>by
  have e0 : IntKind.wrap .i64 (8*(((j+1 : Nat) : Int)-1))=8*(j : Int):=by rw [w64 (by omega) (by omega)]; omega
  have e1 : IntKind.wrap .u64 (8*(j : Int))=8*(j : Int):=AqF (by omega) (by omega)
  have e2 : IntKind.wrap .i64 (((j+1 : Nat) : Int)-1-1)=(j : Int)-1:=by rw [w64 (by omega) (by omega)]; omega
  have e3 : min (8*(j : Int)).toNat 64=8*j:=by omega
  have e4 : IntKind.wrap .u8 (Int.fdiv v (2 ^ (8*j)))=v / 2 ^ (8*j) % 256:=by
   rw [AlL,Int.fdiv_eq_ediv_of_nonneg _ (by exact Int.pow_nonneg (by omega))]
  rw [AbQ.L1,if_pos (by omega),e0,e1,AaX (by omega),e3,e4,AaX (by simp; omega),e2,Ag3 k v j n _ (by omega) (by omega) (by simp; omega)]
  simp [Ahw]
theorem Acy (k : Nat) (hk : 8<k) (b : List Int) (v : Int) (hb : b.length≤10000000000000) : AbQ k b v=some (b++enc v):=by
 unfold AbQ
 rw [AaX (by omega)]
 exact Ag3 k v 8 k b (by omega) hk (by omega)
theorem Aih (k : Nat) (hk : 8<k) (b : List Int) (s : ByteArray) (hb : b.length≤10000000000000) (hs : s.size≤10000000000000) : AdU k b s=some (b++enc s.size++bI s):=by
 unfold AdU
 rw [Af7 k hk b _ hb,AaH,AaX (by simp [Aay]; omega)]
theorem AfH (k : Nat) (hk : 8<k) (b : List Int) (s : ByteArray) (hb : b.length≤10000000000000) (hs : s.size≤10000000000000) : Ac7 k b s=some (b++enc s.size++bI s):=by
 unfold Ac7
 rw [Acy k hk b _ hb,AaH,AaX (by simp [Aay]; omega)]
theorem AjZ (k : Nat) (hk : 8<k) (l : List Int) (hl : l.length≤1000) : ∀ (m i n : Nat) (acc : List Int),i+m=l.length→m<n→acc.length+8*m≤10000000000000→AcC.L1 k l n (i : Int) acc=some (acc++(l.drop i).flatMap enc)
 | 0,i,n+1,acc,h,_,_=>by
  rw [AcC.L1,if_neg (by omega),List.drop_of_length_le (by omega)]; simp
 | m+1,i,n+1,acc,h,hn,ha=>by
  have hi : i<l.length:=by omega
  rw [AcC.L1,if_pos (by omega),AcV hi,AnS k hk _ _ (by omega),AaH,w64 (by omega) (by omega)]
  have:=AjZ k hk l hl m (i+1) n (acc++enc l[i]) (by omega) (by omega) (by simp [Aay]; omega)
  rw [show ((i : Int)+1)=((i+1 : Nat) : Int) by omega,this,List.drop_eq_getElem_cons hi,List.flatMap_cons,List.append_assoc]
theorem Aoe (k : Nat) (hk : 8<k) (b l : List Int) (hb : b.length≤1000000000000) (hl : l.length<k) (hl2 : l.length≤1000) : AcC k b l=some (b++enc l.length++l.flatMap enc):=by
 unfold AcC
 rw [Af7 k hk b _ (by omega),AaH]
 have:=AjZ k hk l hl2 l.length 0 k (b++enc l.length) (by omega) hl (by simp [Aay]; omega)
 simpa using this
theorem AgR (k : Nat) (hk : 8<k) (l : List Int) (hl : l.length≤1000) : ∀ (m i n : Nat) (acc : List Int),i+m=l.length→m<n→acc.length+8*m≤10000000000000→Abx.L1 k l n (i : Int) acc=some (acc++(l.drop i).flatMap enc)
 | 0,i,n+1,acc,h,_,_=>by
  rw [Abx.L1,if_neg (by omega),List.drop_of_length_le (by omega)]; simp
 | m+1,i,n+1,acc,h,hn,ha=>by
  have hi : i<l.length:=by omega
  rw [Abx.L1,if_pos (by omega),AcV hi,Acy k hk _ _ (by omega),AaH,w64 (by omega) (by omega)]
  have:=AgR k hk l hl m (i+1) n (acc++enc l[i]) (by omega) (by omega) (by simp [Aay]; omega)
  rw [show ((i : Int)+1)=((i+1 : Nat) : Int) by omega,this,List.drop_eq_getElem_cons hi,List.flatMap_cons,List.append_assoc]
theorem Aku (k : Nat) (hk : 8<k) (b l : List Int) (hb : b.length≤1000000000000) (hl : l.length<k) (hl2 : l.length≤1000) : Abx k b l=some (b++enc l.length++l.flatMap enc):=by
 unfold Abx
 rw [Acy k hk b _ (by omega),AaH]
 have:=AgR k hk l hl2 l.length 0 k (b++enc l.length) (by omega) hl (by simp [Aay]; omega)
 simpa using this
end Go.TF
set_option linter.unusedVariables false
set_option linter.unusedSimpArgs false
namespace Go.TF
open Go Go.Abs
def AqQ (rel : Int→Int→Bool) : Option Int→Int→Bool
 | none,_=>true
 | some q,x=>rel q x
@[simp] theorem ApV (rel : Int→Int→Bool) (x : Int) : AqQ rel none x=true:=rfl
@[simp] theorem ApU (rel : Int→Int→Bool) (q x : Int) : AqQ rel (some q) x=rel q x:=rfl
def Anu (ok : Int→Bool) (rel : Int→Int→Bool) (p : Option Int) (l : List Int) : Bool :=
 match l with
 | []=>true
 | x::l=>ok x&&AqQ rel p x&&Anu ok rel (some x) l
def prv (l : List Int) (i : Nat) : Option Int:=if i=0 then none else l[i-1]?
theorem AnT (i : Nat) (h0 : 0<i) (h : i<9223372036854775807) : IntKind.wrap .i64 ((i : Int)-1)=((i-1 : Nat) : Int):=by rw [w64 (by omega) (by omega)]; omega
theorem itf {α : Type} (x y : α) : (if (!false)=true then x else y)=x:=rfl
theorem itt {α : Type} (x y : α) : (if (!true)=true then x else y)=y:=rfl
def AsK : Option Int→List Int→Bool:=Anu (fun x=>decide (1≤x)&&decide (x≤1000)) (fun q x=>decide (x≤q))
def Arr (s t : List Int) (lv : Int) : Int :=
 if s≠[]∧Anu (fun x=>decide (0≤x)&&decide (x≤63)) (fun q x=>decide (q<x)) none s=true∧1≤t.length∧t.length≤8∧1≤lv∧lv≤3∧AsK none t=true then 0 else 15
def Aqp (g s t : List Int) (lv seats span quota : Int) : Int :=
 if okR g=true then (if Arr s t lv=0 then (if 1≤seats∧seats≤9∧1≤span∧span≤1000000∧0≤quota∧quota≤64 then 0 else 40) else Arr s t lv) else 43
structure AqD (g s t : List Int) (lv seats span quota : Int) : Prop where
 ok : Aqp g s t lv seats span quota=0
 gg : ∃ n : Nat,2≤n∧n≤6∧g=([0,1,2,3,4,5,6] : List Int).take n
 ss : s = [0]∨s = [0,1]
 tl : t.length=2
 tv : ∃ a b,t = [a,b]∧a ∈ ([5,9,3] : List Int)∧(b=a∨b ∈ ([3,2,1] : List Int))
 tw : ∃ a b,t = [a,b]∧a ∈ ([5,9,3] : List Int)∧b ∈ ([3,2,1] : List Int)
 lv : lv ∈ ([1,1,2] : List Int)
 seats : seats ∈ ([3,1,4,5,2] : List Int)
 span : span ∈ ([10,20,5,1] : List Int)
 quota : quota ∈ ([1,2,0,5] : List Int)
theorem AqD.lens {g s t : List Int} {lv seats span quota : Int} (h : AqD g s t lv seats span quota) : g.length≤10∧s.length≤10∧t.length≤10:=by
 obtain ⟨n,_,h2,rfl⟩:=h.gg
 have:=h.tl
 refine ⟨by simp; omega,?_,by omega⟩
 rcases h.ss with rfl | rfl <;> simp
end Go.TF
set_option linter.unusedVariables false
set_option linter.unusedSimpArgs false
namespace Go.TF
open Go Go.Abs
def bIn (x lo hi : Int) : Bool:=decide (lo≤x)&&decide (x≤hi)
theorem AlI (k : Nat) (x lo hi : Int) : Abd k x lo hi=some (bIn x lo hi):=by
 unfold Abd bIn
 by_cases h : lo≤x <;> simp [h]
theorem AkF (k : Nat) (x : Int) : AbN k x=some (bIn x 0 1099511627776):=by unfold AbN; rw [AlI]; rfl
theorem AkP (k : Nat) (x m : Int) : AdG k x m=some (bIn x 0 m):=by
 unfold AdG bIn
 by_cases h : 0≤x <;> simp [h]
theorem Ajf (k : Nat) (x : Int) : Adz k x=some (bIn x 0 63):=by
 unfold Adz bIn
 have : decide (x<64)=decide (x≤63):=decide_eq_decide.2 (by omega)
 by_cases h : 0≤x <;> simp [h,this]
def ApY (p : Option Int) (x : AaA) : Bool:=bIn x.Author 0 63&&AqQ (fun q x=>decide (q<x)) p x.Author&&bIn x.Height 1 200&&decide (x.Digest.size=32)
def AgH : Option Int→List AaA→Bool
 | _,[]=>true
 | p,x::l=>ApY p x&&AgH (some x.Author) l
def Amd (l : List AaA) (i : Nat) : Option Int:=if i=0 then none else (l[i-1]?).map (·.Author)
theorem Aiy {l : List AaA} {i : Nat} (h : i<l.length) : Amd l (i+1)=some l[i].Author:=by simp [Amd,h]
theorem AkK (n : Nat) : ((n : Int) !=32) = !decide (n=32):=by
 by_cases h : n=32
 ·subst h; rfl
 ·have : ¬ (n : Int)=32:=by omega
  simp [h,this]
theorem AgG (p : Option Int) (x : AaA) (l : List AaA) : AgH p (x::l)=(ApY p x&&AgH (some x.Author) l):=by cases p <;> rfl
theorem Ag6 (k : Nat) (l : List AaA) (h9 : l.length≤9223372036854775807) : ∀ (m i n : Nat),i+m=l.length→m<n→AaP.L1 k l n (i : Int)=some (AgH (Amd l i) (l.drop i))
 | 0,i,n+1,h,_=>by rw [AaP.L1,if_neg (by omega),List.drop_of_length_le (by omega)]; cases Amd l i <;> rfl
 | m+1,i,n+1,h,hn=>by
  have h1 : i<l.length:=by omega
  have ih:=Ag6 k l h9 m (i+1) n (by omega) (by omega)
  rw [Aiy h1] at ih
  rw [AaP.L1,if_pos (by omega),AcV h1,List.drop_eq_getElem_cons h1,AgG,AlI,AaH,AlI,ApY]
  have hj : ∀ b : Bool,AaP.J2 k (i : Int) (fun v=>AaP.L1 k l n v) b=if b=true then some false else some (AgH (some l[i].Author) (l.drop (i+1))):=by
   intro b
   unfold AaP.J2
   rw [AeS i (by omega)]; dsimp only; rw [ih]
  simp only [AaH,hj]
  cases bIn l[i].Author 0 63
  ·rfl
  rw [itt]
  by_cases c : i=0
  ·subst c
   rw [if_neg (by omega)]
   cases bIn l[0].Height 1 200
   ·rfl
   rw [itt,AkK]
   cases decide (l[0].Digest.size=32) <;> rfl
  ·have hp : Amd l i=some ((l[i-1]'(by omega)).Author):=by simp [Amd,c,List.getElem?_eq_getElem (show i-1<l.length by omega)]
   rw [if_pos (by omega),AnT i (by omega) (by omega),AcV (by omega),hp]
   by_cases d : l[i].Author≤l[i-1].Author
   ·rw [if_pos d]
    have : ¬ l[i-1].Author<l[i].Author:=by omega
    simp [this]
   ·rw [if_neg d]
    have : l[i-1].Author<l[i].Author:=by omega
    cases bIn l[i].Height 1 200
    ·simp
    rw [itt,AkK]
    cases decide (l[i].Digest.size=32) <;> simp [this]
theorem Alc (k : Nat) (l : List AaA) (h9 : l.length≤9223372036854775807) (hk : l.length<k) : AaP k l=some (AgH none l):=Ag6 k l h9 l.length 0 k (by omega) hk
theorem Apn (x : Int) (y z : Option Bool) : (if x<1 then y else if 200<x then y else z)=if bIn x 1 200=true then z else y:=by
 unfold bIn
 by_cases a : x<1
 ·rw [if_pos a,if_neg (by simp; omega)]
 ·by_cases b : 200<x
  ·rw [if_neg a,if_pos b,if_neg (by simp; omega)]
  ·rw [if_neg a,if_neg b,if_pos (by simp; omega)]
theorem Ag5 (k : Nat) (l : List AaA) (h9 : l.length≤9223372036854775807) : ∀ (m i n : Nat),i+m=l.length→m<n→Aad.L1 k l n (i : Int)=some (AgH (Amd l i) (l.drop i))
 | 0,i,n+1,h,_=>by rw [Aad.L1,if_neg (by omega),List.drop_of_length_le (by omega)]; cases Amd l i <;> rfl
 | m+1,i,n+1,h,hn=>by
  have h1 : i<l.length:=by omega
  have ih:=Ag5 k l h9 m (i+1) n (by omega) (by omega)
  rw [Aiy h1] at ih
  rw [Aad.L1,if_pos (by omega),AcV h1,List.drop_eq_getElem_cons h1,AgG,Ajf,AaH,ApY]
  have hj : ∀ b : Bool,Aad.J2 k (i : Int) (fun v=>Aad.L1 k l n v) b=if b=true then some false else some (AgH (some l[i].Author) (l.drop (i+1))):=by
   intro b
   unfold Aad.J2
   rw [AeS i (by omega)]; dsimp only; rw [ih]
  simp only [hj,Apn]
  cases bIn l[i].Author 0 63
  ·rfl
  rw [itt]
  by_cases c : i=0
  ·subst c
   rw [if_neg (by omega)]
   cases bIn l[0].Height 1 200
   ·rfl
   rw [if_pos rfl,AkK]
   cases decide (l[0].Digest.size=32) <;> rfl
  ·have hp : Amd l i=some ((l[i-1]'(by omega)).Author):=by simp [Amd,c,List.getElem?_eq_getElem (show i-1<l.length by omega)]
   rw [if_pos (by omega),AnT i (by omega) (by omega),AcV (by omega),hp]
   by_cases d : l[i].Author≤l[i-1].Author
   ·rw [if_pos d]
    have : ¬ l[i-1].Author<l[i].Author:=by omega
    simp [this]
   ·rw [if_neg d]
    have : l[i-1].Author<l[i].Author:=by omega
    cases bIn l[i].Height 1 200
    ·simp
    rw [if_pos rfl,AkK]
    cases decide (l[i].Digest.size=32) <;> simp [this]
theorem Alb (k : Nat) (l : List AaA) (h9 : l.length≤9223372036854775807) (hk : l.length<k) : Aad k l=some (AgH none l):=Ag5 k l h9 l.length 0 k (by omega) hk
def Amh (l : List Int) : Bool:=l.all fun x=>bIn x 0 1099511627776
theorem AjX (x : Int) (l : List Int) : Amh (x::l)=(bIn x 0 1099511627776&&Amh l):=by simp [Amh]
theorem Akc (k : Nat) (l : List Int) (h9 : l.length≤9223372036854775807) : ∀ (m i n : Nat),i+m=l.length→m<n→∃ r,AaU.L1 k l n (i : Int)=some r∧decide (0≤r) = !Amh (l.drop i)
 | 0,i,n+1,h,_=>by rw [AaU.L1,if_neg (by omega),List.drop_of_length_le (by omega)]; exact ⟨_,rfl,rfl⟩
 | m+1,i,n+1,h,hn=>by
  have h1 : i<l.length:=by omega
  rw [AaU.L1,if_pos (by omega),AcV h1,List.drop_eq_getElem_cons h1,AjX]
  unfold Acs
  rw [AkF,AaH,AaH]
  cases e : bIn l[i] 0 1099511627776
  ·exact ⟨_,rfl,by simp⟩
  ·obtain ⟨r,h2,h3⟩:=Akc k l h9 m (i+1) n (by omega) (by omega)
   rw [itt,AeS i (by omega),h2]
   exact ⟨r,rfl,by rw [h3]; simp⟩
theorem AoF (k : Nat) (l : List Int) (h9 : l.length≤9223372036854775807) (hk : l.length<k) : Aaz k l=some (!Amh l):=by
 obtain ⟨r,h2,h3⟩:=Akc k l h9 l.length 0 k (by omega) hk
 unfold Aaz AaU
 rw [show (0 : Int)=((0 : Nat) : Int) from rfl,h2,AaH]
 exact congrArg some h3
def AhB (author time kind A B C : Int) : Bool :=
 if kind=1 then bIn A 0 63&&decide (A≠author)&&bIn B 1 3&&bIn C time 2147483648
 else if kind=2 then bIn A 0 199&&decide (B=0)&&decide (C=0)
 else if kind=3 then decide (A=0)&&decide (B=0)&&decide (C=0)
 else true
theorem AsG (x : Int) : (x==0)=decide (x=0):=by by_cases h : x=0 <;> simp [h]
theorem Am4 (k : Nat) (author num : Int) (prev : ByteArray) (time kind A B C : Int) (l : List Int) (pins : List AaA) (body : ByteArray) (sk : Int) (sd : ByteArray) :
 AcM k author num prev time kind A B C l pins body sk sd=some (AhB author time kind A B C):=by
 unfold AcM AhB
 simp only [AlI,AaH,AsG]
 by_cases k1 : kind=1
 ·rw [if_pos k1,if_pos k1]
  cases bIn A 0 63 <;> simp
  by_cases e : A=author <;> simp [e]
  cases bIn B 1 3 <;> simp
 rw [if_neg k1,if_neg k1]
 by_cases k2 : kind=2
 ·rw [if_pos k2,if_pos k2]
  cases bIn A 0 199 <;> simp
  by_cases e : B=0 <;> simp [e]
 rw [if_neg k2,if_neg k2]
 by_cases k3 : kind=3
 ·rw [if_pos k3,if_pos k3]
  by_cases e : A=0 <;> simp [e]
  by_cases e : B=0 <;> simp [e]
 rw [if_neg k3,if_neg k3]
theorem AgT (k : Nat) (author time kind A B C : Int) (l : List Int) (h9 : l.length≤9223372036854775807) : ∀ (m i n : Nat),i+m=l.length→m<n →
 AbL.L1 k author time kind A B C l n (i : Int)=some (Amh (l.drop i)&&AhB author time kind A B C)
 | 0,i,n+1,h,_=>by
  rw [AbL.L1,if_neg (by omega),List.drop_of_length_le (by omega)]
  unfold AhB
  simp only [Ajf,AkP,AaH,AsG,Amh,List.all_nil,Bool.true_and]
  by_cases k1 : kind=1
  ·rw [if_pos k1,if_pos k1]
   cases bIn A 0 63 <;> simp
   by_cases e : A=author <;> simp [e]
   unfold bIn
   by_cases b1 : 1≤B <;> simp [b1]
   by_cases b2 : B≤3 <;> simp [b2]
   by_cases c1 : time≤C <;> simp [c1]
  rw [if_neg k1,if_neg k1]
  by_cases k2 : kind=2
  ·rw [if_pos k2,if_pos k2]
   cases bIn A 0 199 <;> simp
   by_cases e : B=0 <;> simp [e]
  rw [if_neg k2,if_neg k2]
  by_cases k3 : kind=3
  ·rw [if_pos k3,if_pos k3]
   by_cases e : A=0 <;> simp [e]
   by_cases e : B=0 <;> simp [e]
  rw [if_neg k3,if_neg k3]
 | m+1,i,n+1,h,hn=>by
  have h1 : i<l.length:=by omega
  rw [AbL.L1,if_pos (by omega),AcV h1,List.drop_eq_getElem_cons h1,AkP,AaH,AjX]
  cases bIn l[i] 0 1099511627776
  ·rfl
  rw [itt,AeS i (by omega),AgT k author time kind A B C l h9 m (i+1) n (by omega) (by omega)]
  simp
def Ak2 (author num time kind A B C : Int) (l : List Int) : Bool:=bIn num 0 199&&bIn A 0 1099511627776&&bIn B 0 1099511627776&&bIn C 0 1099511627776&&AhB author time kind A B C&&Amh l
theorem Ak3 (k : Nat) (author num : Int) (prev : ByteArray) (time kind A B C : Int) (l : List Int) (pins : List AaA) (body : ByteArray) (sk : Int) (sd : ByteArray) (h9 : l.length≤9223372036854775807) (hk : l.length<k) :
 AbL k author num prev time kind A B C l pins body sk sd=some (Ak2 author num time kind A B C l):=by
 unfold AbL Ak2
 have:=AgT k author time kind A B C l h9 l.length 0 k (by omega) hk
 simp only [AkP,AaH]
 rw [show (0 : Int)=((0 : Nat) : Int) from rfl] at *
 rw [this]
 cases bIn num ((0 : Nat) : Int) 199
 ·rfl
 cases bIn A ((0 : Nat) : Int) 1099511627776
 ·rfl
 cases bIn B ((0 : Nat) : Int) 1099511627776
 ·rfl
 cases bIn C ((0 : Nat) : Int) 1099511627776
 ·rfl
 simp [Bool.and_comm]
def AlB (num : Int) (prev : ByteArray) (kind : Int) (l : List Int) (pins : List AaA) (body : ByteArray) : Bool :=
 (if num=0 then AbZ prev (ByteArray.mk #[]) else if 0<num then decide (prev.size=32) else true)&&AgH none pins && !(decide (kind≤3)&&(!l.isEmpty || !pins.isEmpty || !AbZ body (ByteArray.mk #[])))
def Amg (author num : Int) (prev : ByteArray) (time kind A B C : Int) (l : List Int) (pins : List AaA) (body : ByteArray) : Int :=
 if bIn author 0 63=true then
  if (bIn kind 1 3||bIn kind 10 31)=true then
   if bIn time 0 2147483648=true then
    if Ak2 author num time kind A B C l=true then
     if l.length≤64∧pins.length≤64∧body.size≤4096 then
      if AlB num prev kind l pins body=true then 0 else 1
     else 3
    else 2
   else 9
  else 5
 else 4
theorem Ahx (b : ByteArray) : AbZ b (ByteArray.mk #[])=decide (b.size=0):=by
 by_cases h : b.size=0
 ·have : b=ByteArray.mk #[]:=by
   obtain ⟨a⟩:=b
   have : a.size=0:=h
   rw [Array.size_eq_zero_iff.1 this]
  subst this; rfl
 ·have : ¬ AbZ b (ByteArray.mk #[])=true:=by
   rw [Aiu]; rintro rfl; exact h rfl
  simp [h,this]
theorem Amt (l : List Int) (pins : List AaA) (body : ByteArray) (h1 : l.length≤64) (h2 : pins.length≤64) (h3 : body.size≤4096) :
 decide (0<IntKind.wrap .i64 (IntKind.wrap .i64 ((l.length : Int)+(pins.length : Int))+(body.size : Int)))=(!l.isEmpty || !pins.isEmpty || !AbZ body (ByteArray.mk #[])):=by
 rw [w64 (n:=(l.length : Int)+pins.length) (by omega) (by omega),w64 (by omega) (by omega),Ahx]
 cases l with
 | cons x l=>simp; omega
 | nil=>cases pins with
  | cons x p=>simp; omega
  | nil =>
   by_cases h : body.size=0
   ·simp [h]
   ·have : 0<body.size:=by omega
    simp [h,this]
theorem AnR (k : Nat) (num : Int) (prev : ByteArray) (kind : Int) (l : List Int) (pins : List AaA) (body : ByteArray) (h2 : pins.length<k) (J : Bool→Option Int) (hJ : ∀ b,J b=if b=true then some 1 else some 0) :
 (if 64<(l.length : Int) then some 3 else if 64<(pins.length : Int) then some 3 else if 4096<(body.size : Int) then some 3 else
  if num=0 then
   if (!AbZ prev (ByteArray.mk #[]))=true then J true
   else if 0<num then none
   else AbD (AaP k pins) fun v=>if (!v)=true then J true else if kind≤3 then J (decide (0<IntKind.wrap .i64 (IntKind.wrap .i64 ((l.length : Int)+(pins.length : Int))+(body.size : Int)))) else J false
  else if 0<num then
   if (prev.size : Int)≠32 then J true
   else AbD (AaP k pins) fun v=>if (!v)=true then J true else if kind≤3 then J (decide (0<IntKind.wrap .i64 (IntKind.wrap .i64 ((l.length : Int)+(pins.length : Int))+(body.size : Int)))) else J false
  else AbD (AaP k pins) fun v=>if (!v)=true then J true else if kind≤3 then J (decide (0<IntKind.wrap .i64 (IntKind.wrap .i64 ((l.length : Int)+(pins.length : Int))+(body.size : Int)))) else J false) =
 some (if l.length≤64∧pins.length≤64∧body.size≤4096 then (if AlB num prev kind l pins body=true then 0 else 1) else 3):=by
 by_cases a1 : 64<(l.length : Int)
 ·rw [if_pos a1,if_neg (by omega)]
 by_cases a2 : 64<(pins.length : Int)
 ·rw [if_neg a1,if_pos a2,if_neg (by omega)]
 by_cases a3 : 4096<(body.size : Int)
 ·rw [if_neg a1,if_neg a2,if_pos a3,if_neg (by omega)]
 rw [if_neg a1,if_neg a2,if_neg a3,if_pos (show l.length≤64∧pins.length≤64∧body.size≤4096 from ⟨by omega,by omega,by omega⟩),Alc k pins (by omega) h2]
 simp only [AaH,hJ,Amt l pins body (by omega) (by omega) (by omega)]
 unfold AlB
 generalize (!l.isEmpty || !pins.isEmpty || !AbZ body (ByteArray.mk #[]))=q
 generalize AgH none pins=p
 by_cases n0 : num=0
 ·subst n0
  generalize AbZ prev (ByteArray.mk #[])=e
  by_cases k3 : kind≤3 <;> cases e <;> cases p <;> cases q <;> simp [k3]
 by_cases n1 : 0<num
 ·by_cases z : prev.size=32
  ·have z' : (prev.size : Int)=32:=by omega
   by_cases k3 : kind≤3 <;> cases p <;> cases q <;> simp [k3,n0,n1,z,z']
  ·have z' : ¬ (prev.size : Int)=32:=by omega
   by_cases k3 : kind≤3 <;> cases p <;> cases q <;> simp [k3,n0,n1,z,z']
 ·by_cases k3 : kind≤3 <;> cases p <;> cases q <;> simp [k3,n0,n1]
theorem AkC (k : Nat) (author num : Int) (prev : ByteArray) (time kind A B C : Int) (l : List Int) (pins : List AaA) (body : ByteArray) (sk : Int) (sd : ByteArray) (h9 : l.length≤9223372036854775807) (hk : l.length<k) (h2 : pins.length<k) :
 AaM k author num prev time kind A B C l pins body sk sd=some (Amg author num prev time kind A B C l pins body):=by
 unfold AaM Amg
 simp only [AlI,AkF,Am4,AoF k l h9 hk,AaH,AnR k num prev kind l pins body h2 (AaM.J2 k) (fun b=>by unfold AaM.J2 AaM.J1; rfl),
  AnR k num prev kind l pins body h2 (AaM.J3 k) (fun b=>by unfold AaM.J3 AaM.J1; rfl)]
 unfold Ak2
 generalize (if l.length≤64∧pins.length≤64∧body.size≤4096 then (if AlB num prev kind l pins body=true then (0 : Int) else 1) else 3)=R
 cases bIn author 0 63
 ·rfl
 simp only [itt,if_true]
 cases bIn kind 1 3
 ·simp only [itf,Bool.false_or]
  cases bIn kind 10 31
  ·rfl
  simp only [itt,if_true]
  cases bIn time 0 2147483648
  ·rfl
  simp only [itt,if_true]
  cases bIn num 0 199
  ·rfl
  cases bIn A 0 1099511627776
  ·rfl
  cases bIn B 0 1099511627776
  ·rfl
  cases bIn C 0 1099511627776
  ·rfl
  cases AhB author time kind A B C
  ·rfl
  cases Amh l <;> rfl
 ·simp only [itt,Bool.true_or,if_true]
  cases bIn time 0 2147483648
  ·rfl
  simp only [itt,if_true]
  cases bIn num 0 199
  ·rfl
  cases bIn A 0 1099511627776
  ·rfl
  cases bIn B 0 1099511627776
  ·rfl
  cases bIn C 0 1099511627776
  ·rfl
  cases AhB author time kind A B C
  ·rfl
  cases Amh l <;> rfl
theorem Asb (k : Nat) (kind : Int) (l : List Int) (pins : List AaA) (body : ByteArray) (b : Bool) : Aan.J3 k kind l pins body b =
 if b=true then some 1 else if (decide (kind≤3)&&(!l.isEmpty || !pins.isEmpty || !AbZ body (ByteArray.mk #[])))=true then some 1 else some 0:=by
 unfold Aan.J3 Aan.J1
 cases b
 ·simp only [Bool.false_eq_true,if_false]
  by_cases k3 : kind≤3
  ·rw [if_pos k3]
   cases l with
   | cons x l=>rw [if_pos (by simp)]; simp [k3]
   | nil=>cases pins with
    | cons x p=>rw [if_neg (by simp),if_pos (by simp)]; simp [k3]
    | nil =>
     rw [if_neg (by simp),if_neg (by simp)]
     cases AbZ body (ByteArray.mk #[]) <;> simp [k3]
  ·rw [if_neg k3]; simp [k3]
 ·rfl
theorem Apl (kind : Int) (x : Bool→Option Int) : (if kind<1 then x true else if 3<kind then (if kind<10 then x true else x (decide (31<kind))) else x (decide (31<kind)))=x (!(bIn kind 1 3||bIn kind 10 31)):=by
 unfold bIn
 by_cases a : kind<1
 ·rw [if_pos a]; congr 1; symm; simp; try omega
 rw [if_neg a]
 by_cases b : 3<kind
 ·rw [if_pos b]
  by_cases c : kind<10
  ·rw [if_pos c]; congr 1; symm; simp; try omega
  ·rw [if_neg c]; congr 1
   by_cases d : 31<kind
   ·simp [d]; try omega
   ·simp [d]; try omega
 ·rw [if_neg b]; congr 1
  have : ¬ 31<kind:=by omega
  simp [this]; try omega
theorem Aij (k : Nat) (author num : Int) (prev : ByteArray) (time kind A B C : Int) (l : List Int) (pins : List AaA) (body : ByteArray) (sk : Int) (sd : ByteArray) (h9 : l.length≤9223372036854775807) (hk : l.length<k) (h2 : pins.length<k) :
 Aan k author num prev time kind A B C l pins body sk sd=some (Amg author num prev time kind A B C l pins body):=by
 unfold Aan Amg
 rw [Ajf,AaH]
 cases bIn author 0 63
 ·rfl
 rw [itt,if_pos rfl,Apl kind (fun b=>Aan.J2 k author num prev time kind A B C l pins body sk sd b)]
 unfold Aan.J2
 cases (bIn kind 1 3||bIn kind 10 31)
 ·rfl
 rw [if_neg (by simp),if_pos rfl,AkP,AaH]
 cases bIn time 0 2147483648
 ·rfl
 rw [itt,if_pos rfl,Ak3 k _ _ _ _ _ _ _ _ l _ _ _ _ h9 hk,AaH]
 cases Ak2 author num time kind A B C l
 ·rfl
 rw [itt,if_pos rfl]
 by_cases a1 : 64<(l.length : Int)
 ·rw [if_pos a1,if_neg (by omega)]
 by_cases a2 : 64<(pins.length : Int)
 ·rw [if_neg a1,if_pos a2,if_neg (by omega)]
 by_cases a3 : 4096<(body.size : Int)
 ·rw [if_neg a1,if_neg a2,if_pos a3,if_neg (by omega)]
 rw [if_neg a1,if_neg a2,if_neg a3,if_pos (show l.length≤64∧pins.length≤64∧body.size≤4096 from ⟨by omega,by omega,by omega⟩),Alb k pins (by omega) h2]
 simp only [AaH,Asb]
 unfold AlB
 generalize (decide (kind≤3)&&(!l.isEmpty || !pins.isEmpty || !AbZ body (ByteArray.mk #[])))=q
 generalize AgH none pins=p
 by_cases n0 : num=0
 ·subst n0
  generalize AbZ prev (ByteArray.mk #[])=e
  cases e <;> cases p <;> cases q <;> simp
 by_cases n1 : 0<num
 ·by_cases z : prev.size=32
  ·have z' : (prev.size : Int)=32:=by omega
   cases p <;> cases q <;> simp [n0,n1,z,z']
  ·have z' : ¬ (prev.size : Int)=32:=by omega
   cases p <;> cases q <;> simp [n0,n1,z,z']
 ·cases p <;> cases q <;> simp [n0,n1]
end Go.TF
set_option linter.unusedVariables false
set_option linter.unusedSimpArgs false
set_option maxRecDepth 4000
namespace Go.TF
open Go Go.Abs
theorem Ac0 (a b : Int) : AaG .or .u32 a b=AaG .or .u32 b a:=by
 simp only [AaG]; rw [BitVec.or_comm]
def Adh (x : Int) (n : Nat) : Int:=AaG .or .u32 (Int.fdiv x (2 ^ n)) (IntKind.wrap .u32 (x*2 ^ (32-n)))
theorem Aqu (k : Nat) (x : Int) : AaN k x 6=some (Adh x 6):=by
 unfold AaN Aao Adh
 have e : AaG .and .u64 (IntKind.wrap .u64 (IntKind.wrap .i64 (-6))) 31=26:=by decide
 rw [e,show IntKind.wrap .u64 (32-(26 : Int))=6 by decide,AaX (by omega),AaX (by omega),AaH,Ac0]
 rfl
theorem Aqr (k : Nat) (x : Int) : Aax k x 6=some (Adh x 6):=by
 unfold Aax Adh
 rw [show IntKind.wrap .u64 (32-(6 : Int))=26 by decide,AaX (by omega),AaX (by omega)]
 rfl
theorem ApR (k : Nat) (x : Int) : AaN k x 11=some (Adh x 11):=by
 unfold AaN Aao Adh
 have e : AaG .and .u64 (IntKind.wrap .u64 (IntKind.wrap .i64 (-11))) 31=21:=by decide
 rw [e,show IntKind.wrap .u64 (32-(21 : Int))=11 by decide,AaX (by omega),AaX (by omega),AaH,Ac0]
 rfl
theorem ApK (k : Nat) (x : Int) : Aax k x 11=some (Adh x 11):=by
 unfold Aax Adh
 rw [show IntKind.wrap .u64 (32-(11 : Int))=21 by decide,AaX (by omega),AaX (by omega)]
 rfl
theorem ApL (k : Nat) (x : Int) : AaN k x 25=some (Adh x 25):=by
 unfold AaN Aao Adh
 have e : AaG .and .u64 (IntKind.wrap .u64 (IntKind.wrap .i64 (-25))) 31=7:=by decide
 rw [e,show IntKind.wrap .u64 (32-(7 : Int))=25 by decide,AaX (by omega),AaX (by omega),AaH,Ac0]
 rfl
theorem ApE (k : Nat) (x : Int) : Aax k x 25=some (Adh x 25):=by
 unfold Aax Adh
 rw [show IntKind.wrap .u64 (32-(25 : Int))=7 by decide,AaX (by omega),AaX (by omega)]
 rfl
theorem Aqv (k : Nat) (x : Int) : AaN k x 2=some (Adh x 2):=by
 unfold AaN Aao Adh
 have e : AaG .and .u64 (IntKind.wrap .u64 (IntKind.wrap .i64 (-2))) 31=30:=by decide
 rw [e,show IntKind.wrap .u64 (32-(30 : Int))=2 by decide,AaX (by omega),AaX (by omega),AaH,Ac0]
 rfl
theorem Aqs (k : Nat) (x : Int) : Aax k x 2=some (Adh x 2):=by
 unfold Aax Adh
 rw [show IntKind.wrap .u64 (32-(2 : Int))=30 by decide,AaX (by omega),AaX (by omega)]
 rfl
theorem ApQ (k : Nat) (x : Int) : AaN k x 13=some (Adh x 13):=by
 unfold AaN Aao Adh
 have e : AaG .and .u64 (IntKind.wrap .u64 (IntKind.wrap .i64 (-13))) 31=19:=by decide
 rw [e,show IntKind.wrap .u64 (32-(19 : Int))=13 by decide,AaX (by omega),AaX (by omega),AaH,Ac0]
 rfl
theorem ApJ (k : Nat) (x : Int) : Aax k x 13=some (Adh x 13):=by
 unfold Aax Adh
 rw [show IntKind.wrap .u64 (32-(13 : Int))=19 by decide,AaX (by omega),AaX (by omega)]
 rfl
theorem ApM (k : Nat) (x : Int) : AaN k x 22=some (Adh x 22):=by
 unfold AaN Aao Adh
 have e : AaG .and .u64 (IntKind.wrap .u64 (IntKind.wrap .i64 (-22))) 31=10:=by decide
 rw [e,show IntKind.wrap .u64 (32-(10 : Int))=22 by decide,AaX (by omega),AaX (by omega),AaH,Ac0]
 rfl
theorem ApF (k : Nat) (x : Int) : Aax k x 22=some (Adh x 22):=by
 unfold Aax Adh
 rw [show IntKind.wrap .u64 (32-(22 : Int))=10 by decide,AaX (by omega),AaX (by omega)]
 rfl
theorem Aqt (k : Nat) (x : Int) : AaN k x 7=some (Adh x 7):=by
 unfold AaN Aao Adh
 have e : AaG .and .u64 (IntKind.wrap .u64 (IntKind.wrap .i64 (-7))) 31=25:=by decide
 rw [e,show IntKind.wrap .u64 (32-(25 : Int))=7 by decide,AaX (by omega),AaX (by omega),AaH,Ac0]
 rfl
theorem Aqq (k : Nat) (x : Int) : Aax k x 7=some (Adh x 7):=by
 unfold Aax Adh
 rw [show IntKind.wrap .u64 (32-(7 : Int))=25 by decide,AaX (by omega),AaX (by omega)]
 rfl
theorem ApO (k : Nat) (x : Int) : AaN k x 18=some (Adh x 18):=by
 unfold AaN Aao Adh
 have e : AaG .and .u64 (IntKind.wrap .u64 (IntKind.wrap .i64 (-18))) 31=14:=by decide
 rw [e,show IntKind.wrap .u64 (32-(14 : Int))=18 by decide,AaX (by omega),AaX (by omega),AaH,Ac0]
 rfl
theorem ApH (k : Nat) (x : Int) : Aax k x 18=some (Adh x 18):=by
 unfold Aax Adh
 rw [show IntKind.wrap .u64 (32-(18 : Int))=14 by decide,AaX (by omega),AaX (by omega)]
 rfl
theorem ApP (k : Nat) (x : Int) : AaN k x 17=some (Adh x 17):=by
 unfold AaN Aao Adh
 have e : AaG .and .u64 (IntKind.wrap .u64 (IntKind.wrap .i64 (-17))) 31=15:=by decide
 rw [e,show IntKind.wrap .u64 (32-(15 : Int))=17 by decide,AaX (by omega),AaX (by omega),AaH,Ac0]
 rfl
theorem ApI (k : Nat) (x : Int) : Aax k x 17=some (Adh x 17):=by
 unfold Aax Adh
 rw [show IntKind.wrap .u64 (32-(17 : Int))=15 by decide,AaX (by omega),AaX (by omega)]
 rfl
theorem ApN (k : Nat) (x : Int) : AaN k x 19=some (Adh x 19):=by
 unfold AaN Aao Adh
 have e : AaG .and .u64 (IntKind.wrap .u64 (IntKind.wrap .i64 (-19))) 31=13:=by decide
 rw [e,show IntKind.wrap .u64 (32-(13 : Int))=19 by decide,AaX (by omega),AaX (by omega),AaH,Ac0]
 rfl
theorem ApG (k : Nat) (x : Int) : Aax k x 19=some (Adh x 19):=by
 unfold Aax Adh
 rw [show IntKind.wrap .u64 (32-(19 : Int))=13 by decide,AaX (by omega),AaX (by omega)]
 rfl
def w32 (x : Int) : Int:=IntKind.wrap .u32 x
theorem AlR (x : Int) : w32 x=x % 4294967296:=by simp [w32,IntKind.wrap]
theorem Anr (a b : Int) : w32 (a+w32 b)=w32 (a+b):=by simp only [AlR]; omega
theorem Amk (a b : Int) : w32 (w32 a+b)=w32 (a+b):=by simp only [AlR]; omega
def AsI (b : List Int) (i : Nat) : Int :=
 AaG .or .u32 (AaG .or .u32 (AaG .or .u32 (IntKind.wrap .u32 ((IntKind.wrap .u32 (b.getD (4*i) 0))*2 ^ (24))) (IntKind.wrap .u32 ((IntKind.wrap .u32 (b.getD (4*i+1) 0))*2 ^ (16)))) (IntKind.wrap .u32 ((IntKind.wrap .u32 (b.getD (4*i+2) 0))*2 ^ (8)))) (IntKind.wrap .u32 (b.getD (4*i+3) 0))
def Aga (b : List Int) : Nat→Nat→List Int→List Int
 | 0,_,w=>w
 | m+1,i,w=>Aga b m (i+1) (w.set i (AsI b i))
theorem Aey (b : List Int) : ∀ (m i : Nat) (w : List Int),(Aga b m i w).length=w.length
 | 0,_,_=>rfl
 | m+1,i,w=>by rw [Aga,Aey]; simp
theorem AnA {l : List Int} {i : Nat} (h : i<l.length) : l[i]=l.getD i 0:=by simp [h]
theorem Abq {β : Type} {l : List Int} {i : Nat} {f : Int→Option β} (h : i<l.length) : idx l (i : Int) f=f (l.getD i 0):=by rw [AcV h,AnA h]
theorem w4 (i j : Nat) (h : i<1000) (hj : j<10) : IntKind.wrap .i64 (IntKind.wrap .i64 (4*(i : Int))+j)=((4*i+j : Nat) : Int):=by
 rw [w64 (n:=4*(i : Int)) (by omega) (by omega),w64 (by omega) (by omega)]; omega
theorem w40 (i : Nat) (h : i<1000) : IntKind.wrap .i64 (4*(i : Int))=((4*i : Nat) : Int):=by
 rw [w64 (by omega) (by omega)]; omega
theorem AlP (k : Nat) (v0 b v2 : List Int) (hb : b.length=64) : ∀ (m i n : Nat) (w : List Int),i+m=16→m<n→w.length=64 →
 AaL.L1 k v0 b v2 n (i : Int) w=AaL.L2 k v0 v2 k 16 (Aga b m i w)
 | 0,i,n+1,w,h,_,hw=>by rw [AaL.L1,if_neg (by omega)]; rfl
 | m+1,i,n+1,w,h,hn,hw=>by
  rw [AaL.L1,if_pos (by omega),w40 i (by omega),Abq (by omega),
   show (IntKind.wrap .i64 (((4*i : Nat) : Int)+1))=((4*i+1 : Nat) : Int) by rw [w64 (by omega) (by omega)]; omega,Abq (by omega),
   show (IntKind.wrap .i64 (((4*i : Nat) : Int)+2))=((4*i+2 : Nat) : Int) by rw [w64 (by omega) (by omega)]; omega,Abq (by omega),
   show (IntKind.wrap .i64 (((4*i : Nat) : Int)+3))=((4*i+3 : Nat) : Int) by rw [w64 (by omega) (by omega)]; omega,Abq (by omega),
   AaX ⟨by omega,by omega,by rw [Int.toNat_natCast]; omega⟩,AeS i (by omega),Int.toNat_natCast,AlP k v0 b v2 hb m (i+1) n _ (by omega) (by omega) (by simp [hw])]
  rfl
theorem AlO (k : Nat) (v0 b v2 : List Int) (hb : b.length=64) : ∀ (m i n : Nat) (w : List Int),i+m=16→m<n→w.length=64 →
 Aaa.L1 k v0 b v2 n (i : Int) w=Aaa.L2 k v0 v2 k 16 (Aga b m i w)
 | 0,i,n+1,w,h,_,hw=>by rw [Aaa.L1,if_neg (by omega)]; rfl
 | m+1,i,n+1,w,h,hn,hw=>by
  rw [Aaa.L1,if_pos (by omega),w40 i (by omega),Abq (by omega),
   show (IntKind.wrap .i64 (((4*i : Nat) : Int)+1))=((4*i+1 : Nat) : Int) by rw [w64 (by omega) (by omega)]; omega,Abq (by omega),
   show (IntKind.wrap .i64 (((4*i : Nat) : Int)+2))=((4*i+2 : Nat) : Int) by rw [w64 (by omega) (by omega)]; omega,Abq (by omega),
   show (IntKind.wrap .i64 (((4*i : Nat) : Int)+3))=((4*i+3 : Nat) : Int) by rw [w64 (by omega) (by omega)]; omega,Abq (by omega),
   AaX ⟨by omega,by rw [Int.toNat_natCast]; omega⟩,AeS i (by omega),Int.toNat_natCast,AlO k v0 b v2 hb m (i+1) n _ (by omega) (by omega) (by simp [hw])]
  rfl
def sig (w : List Int) (i : Nat) : Int :=
 IntKind.wrap .u32 (IntKind.wrap .u32 (IntKind.wrap .u32 (w.getD (i-16) 0+AaG .xor .u32 (AaG .xor .u32 (Adh (w.getD (i-15) 0) 7) (Adh (w.getD (i-15) 0) 18)) (Int.fdiv (w.getD (i-15) 0) (2 ^ (3))))+w.getD (i-7) 0)+AaG .xor .u32 (AaG .xor .u32 (Adh (w.getD (i-2) 0) 17) (Adh (w.getD (i-2) 0) 19)) (Int.fdiv (w.getD (i-2) 0) (2 ^ (10))))
def Aiv : Nat→Nat→List Int→List Int
 | 0,_,w=>w
 | m+1,i,w=>Aiv m (i+1) (w.set i (sig w i))
theorem Ag0 : ∀ (m i : Nat) (w : List Int),(Aiv m i w).length=w.length
 | 0,_,_=>rfl
 | m+1,i,w=>by rw [Aiv,Ag0]; simp
theorem AnQ (i j : Nat) (h : i<1000) (hj : j≤i) : IntKind.wrap .i64 ((i : Int)-j)=((i-j : Nat) : Int):=by rw [w64 (by omega) (by omega)]; omega
theorem AlX (k : Nat) (v0 v2 : List Int) (h0 : v0.length=8) : ∀ (m i n : Nat) (w : List Int),i+m=64→16≤i→m<n→w.length=64 →
 AaL.L2 k v0 v2 n (i : Int) w=AaL.L3 k v0 v2 (Aiv m i w) k 0 v0
 | 0,i,n+1,w,h,_,_,hw=>by rw [AaL.L2,if_neg (by omega),AaX h0,AaX ⟨rfl,h0⟩]; rfl
 | m+1,i,n+1,w,h,hi,hn,hw=>by
  have e15:=AnQ i 15 (by omega) (by omega)
  have e2:=AnQ i 2 (by omega) (by omega)
  have e16:=AnQ i 16 (by omega) (by omega)
  have e7:=AnQ i 7 (by omega) (by omega)
  simp only [Int.cast_ofNat_Int] at e15 e2 e16 e7
  rw [AaL.L2,if_pos (by omega),e15,e2,e16,e7,
   AaX ⟨by omega,by omega,by rw [Int.toNat_natCast]; omega⟩,Abq (by omega),AaX ⟨by omega,by omega,by rw [Int.toNat_natCast]; omega⟩,Abq (by omega),
   AaX ⟨by omega,by omega,by rw [Int.toNat_natCast]; omega⟩,Abq (by omega),Aqt,AaH,ApO,AaH,AaX ⟨by omega,by omega,by rw [Int.toNat_natCast]; omega⟩,Abq (by omega),ApP,AaH,ApN,AaH,
   AaX ⟨by omega,by omega,by rw [Int.toNat_natCast]; omega⟩,AeS i (by omega),Int.toNat_natCast,AlX k v0 v2 h0 m (i+1) n _ (by omega) (by omega) (by omega) (by simp [hw])]
  rfl
theorem AlW (k : Nat) (v0 v2 : List Int) (h0 : v0.length=8) : ∀ (m i n : Nat) (w : List Int),i+m=64→16≤i→m<n→w.length=64 →
 Aaa.L2 k v0 v2 n (i : Int) w=Aaa.L3 k v0 v2 (Aiv m i w) k 0 v0
 | 0,i,n+1,w,h,_,_,hw=>by rw [Aaa.L2,if_neg (by omega),AaX (by omega)]; rfl
 | m+1,i,n+1,w,h,hi,hn,hw=>by
  have e15:=AnQ i 15 (by omega) (by omega)
  have e2:=AnQ i 2 (by omega) (by omega)
  have e16:=AnQ i 16 (by omega) (by omega)
  have e7:=AnQ i 7 (by omega) (by omega)
  simp only [Int.cast_ofNat_Int] at e15 e2 e16 e7
  have c : ∀ (j : Nat) (x : Option (List Int)),j<64→chk ((0 : Int)≤(j : Int)∧((j : Int)).toNat<w.length) x=x:=fun j x hj=>AaX ⟨by omega,by rw [Int.toNat_natCast]; omega⟩
  rw [Aaa.L2,if_pos (by omega),e15,e2,e16,e7,c _ _ (by omega),Abq (by omega),Aqq,AaH,c _ _ (by omega),ApH,AaH,c _ _ (by omega),c _ _ (by omega),Abq (by omega),ApI,AaH,
   c _ _ (by omega),ApG,AaH,c _ _ (by omega),c _ _ (by omega),Abq (by omega),c _ _ (by omega),Abq (by omega),c _ _ (by omega),AeS i (by omega),Int.toNat_natCast,AlW k v0 v2 h0 m (i+1) n _ (by omega) (by omega) (by omega) (by simp [hw])]
  rfl
def Aqg (x : List Int) (kk ww : Int) : Int :=
 w32 (w32 (w32 (w32 (x.getD 7 0+AaG .xor .u32 (AaG .xor .u32 (Adh (x.getD 4 0) 6) (Adh (x.getD 4 0) 11)) (Adh (x.getD 4 0) 25))+AaG .xor .u32 (AaG .and .u32 (x.getD 4 0) (x.getD 5 0)) (AaG .and .u32 (AaG .xor .u32 (IntKind.max .u32) (x.getD 4 0)) (x.getD 6 0)))+kk)+ww)
def ArS (x : List Int) : Int :=
 AaG .xor .u32 (AaG .xor .u32 (Adh (x.getD 0 0) 2) (Adh (x.getD 0 0) 13)) (Adh (x.getD 0 0) 22)+AaG .xor .u32 (AaG .xor .u32 (AaG .and .u32 (x.getD 0 0) (x.getD 1 0)) (AaG .and .u32 (x.getD 0 0) (x.getD 2 0))) (AaG .and .u32 (x.getD 1 0) (x.getD 2 0))
def Aro (x : List Int) (kk ww : Int) : List Int:=[w32 (Aqg x kk ww+ArS x),x.getD 0 0,x.getD 1 0,x.getD 2 0,w32 (x.getD 3 0+Aqg x kk ww),x.getD 4 0,x.getD 5 0,x.getD 6 0]
def rounds (v2 w : List Int) : Nat→Nat→List Int→List Int
 | 0,_,x=>x
 | m+1,i,x=>rounds v2 w m (i+1) (Aro x (v2.getD i 0) (w.getD i 0))
theorem AgD (v2 w : List Int) : ∀ (m i : Nat) (x : List Int),x.length=8→(rounds v2 w m i x).length=8
 | 0,_,_,h=>h
 | m+1,i,x,h=>AgD v2 w m (i+1) _ rfl
theorem Aja {β : Type} {l : List Int} (j : Int) (h0 : 0≤j) {f : Int→Option β} (h : j.toNat<l.length) : idx l j f=f (l.getD j.toNat 0):=by
 obtain ⟨i,rfl⟩:=Int.eq_ofNat_of_zero_le h0
 exact Abq h
theorem Anj {x : Option (List Int)} {l : List Int} (h : l.length=8) (j : Int) (m : Nat) (h0 : 0≤j) (hj : j<8) (hm : m<8) : chk ((0 : Int)≤j∧m<8∧(j).toNat<l.length) x=x:=AaX ⟨h0,hm,by omega⟩
theorem AkO (k : Nat) (v0 v2 w : List Int) (h2 : v2.length=64) (hw : w.length=64) : ∀ (m i n : Nat) (x : List Int),i+m=64→m<n→x.length=8 →
 AaL.L3 k v0 v2 w n (i : Int) x=AaL.L4 k (rounds v2 w m i x) k 0 v0
 | 0,i,n+1,x,h,_,hx=>by rw [AaL.L3,if_neg (by omega)]; rfl
 | m+1,i,n+1,x,h,hn,hx=>by
  have c0:=fun y=>Anj (x:=y) hx 0 0 (by omega) (by omega) (by omega)
  have c1:=fun y=>Anj (x:=y) hx 1 1 (by omega) (by omega) (by omega)
  have c2:=fun y=>Anj (x:=y) hx 2 2 (by omega) (by omega) (by omega)
  have c3:=fun y=>Anj (x:=y) hx 3 3 (by omega) (by omega) (by omega)
  have c4:=fun y=>Anj (x:=y) hx 4 4 (by omega) (by omega) (by omega)
  have c5:=fun y=>Anj (x:=y) hx 5 5 (by omega) (by omega) (by omega)
  have c6:=fun y=>Anj (x:=y) hx 6 6 (by omega) (by omega) (by omega)
  have c7:=fun y=>Anj (x:=y) hx 7 7 (by omega) (by omega) (by omega)
  have i0:=fun f=>Aja (β:=List Int) (l:=x) 0 (by omega) (f:=f) (by omega)
  have i1:=fun f=>Aja (β:=List Int) (l:=x) 1 (by omega) (f:=f) (by omega)
  have i2:=fun f=>Aja (β:=List Int) (l:=x) 2 (by omega) (f:=f) (by omega)
  have i3:=fun f=>Aja (β:=List Int) (l:=x) 3 (by omega) (f:=f) (by omega)
  have i4:=fun f=>Aja (β:=List Int) (l:=x) 4 (by omega) (f:=f) (by omega)
  have i5:=fun f=>Aja (β:=List Int) (l:=x) 5 (by omega) (f:=f) (by omega)
  have i6:=fun f=>Aja (β:=List Int) (l:=x) 6 (by omega) (f:=f) (by omega)
  have i7:=fun f=>Aja (β:=List Int) (l:=x) 7 (by omega) (f:=f) (by omega)
  rw [AaL.L3,if_pos (by omega),c0,i0,c4,i4,c7,i7,Aqu,AaH,ApR,AaH,ApL,AaH,c5,i5,c6,i6,AaX ⟨by omega,by omega,by rw [Int.toNat_natCast]; omega⟩,Abq (by omega),
   AaX ⟨by omega,by omega,by rw [Int.toNat_natCast]; omega⟩,Abq (by omega),Aqv,AaH,ApQ,AaH,ApM,AaH,c1,i1,c2,i2,c1,c2,c0,c1,c2,c3,i3,c4,c5,c6,AaX ⟨hx,rfl⟩,AeS i (by omega),
   AkO k v0 v2 w h2 hw m (i+1) n _ (by omega) (by omega) rfl,rounds]
  have e : ∀ a b : Int,IntKind.wrap .u32 (a+IntKind.wrap .u32 b)=w32 (a+b):=Anr
  rw [e]
  rfl
theorem AkN (k : Nat) (v0 v2 w : List Int) (h2 : v2.length=64) (hw : w.length=64) : ∀ (m i n : Nat) (x : List Int),i+m=64→m<n→x.length=8 →
 Aaa.L3 k v0 v2 w n (i : Int) x=Aaa.L4 k v0 k 0 (rounds v2 w m i x)
 | 0,i,n+1,x,h,_,hx=>by rw [Aaa.L3,if_neg (by omega)]; rfl
 | m+1,i,n+1,x,h,hn,hx=>by
  have i0:=fun f=>Aja (β:=List Int) (l:=x) 0 (by omega) (f:=f) (by omega)
  have i1:=fun f=>Aja (β:=List Int) (l:=x) 1 (by omega) (f:=f) (by omega)
  have i2:=fun f=>Aja (β:=List Int) (l:=x) 2 (by omega) (f:=f) (by omega)
  have i3:=fun f=>Aja (β:=List Int) (l:=x) 3 (by omega) (f:=f) (by omega)
  have i4:=fun f=>Aja (β:=List Int) (l:=x) 4 (by omega) (f:=f) (by omega)
  have i5:=fun f=>Aja (β:=List Int) (l:=x) 5 (by omega) (f:=f) (by omega)
  have i6:=fun f=>Aja (β:=List Int) (l:=x) 6 (by omega) (f:=f) (by omega)
  have i7:=fun f=>Aja (β:=List Int) (l:=x) 7 (by omega) (f:=f) (by omega)
  rw [Aaa.L3,if_pos (by omega),i4,Aqr,AaH,ApK,AaH,ApE,AaH,i5,i6,i7,Abq (by omega),Abq (by omega),i0,Aqs,AaH,ApJ,AaH,ApF,AaH,i1,i2,i3,AeS i (by omega),
   AkN k v0 v2 w h2 hw m (i+1) n _ (by omega) (by omega) rfl,rounds]
  have e : ∀ a b c : Int,IntKind.wrap .u32 (IntKind.wrap .u32 (a+b)+c)=w32 (a+(b+c)):=fun a b c=>by
   show w32 (w32 (a+b)+c)=_
   rw [Amk,Int.add_assoc]
  have hs : Aro x (v2.getD i 0) (w.getD i 0) = [w32 (Aqg x (v2.getD i 0) (w.getD i 0)+ArS x),x.getD 0 0,x.getD 1 0,x.getD 2 0,w32 (x.getD 3 0+Aqg x (v2.getD i 0) (w.getD i 0)),x.getD 4 0,x.getD 5 0,x.getD 6 0]:=rfl
  rw [hs,ArS]
  rw [← e]
  rfl
def Ao1 (a b : List Int) : List Int:=(List.range 8).map fun i=>w32 (a.getD i 0+b.getD i 0)
def AjU (h b kk : List Int) : List Int:=Ao1 h (rounds kk (Aiv 48 16 (Aga b 16 0 (List.replicate 64 0))) 64 0 h)
theorem An8 {l : List Int} (h : l.length=8) : ∃ a b c d e f g i,l = [a,b,c,d,e,f,g,i]:=by
 match l,h with
 | [a,b,c,d,e,f,g,i],_=>exact ⟨a,b,c,d,e,f,g,i,rfl⟩
theorem Ari (k n : Nat) (h x : List Int) (h0 : h.length=8) (hx : x.length=8) : AaL.L4 k x (n+9) 0 h=some (Ao1 h x):=by
 obtain ⟨a,b,c,d,e,f,g,i,rfl⟩:=An8 h0
 obtain ⟨a',b',c',d',e',f',g',i',rfl⟩:=An8 hx
 simp [AaL.L4,chk,idx,Ao1,w32,List.range_succ,IntKind.wrap]
theorem Arh (k n : Nat) (h x : List Int) (h0 : h.length=8) (hx : x.length=8) : Aaa.L4 k h (n+9) 0 x=some (Ao1 h x):=by
 obtain ⟨a,b,c,d,e,f,g,i,rfl⟩:=An8 h0
 obtain ⟨a',b',c',d',e',f',g',i',rfl⟩:=An8 hx
 simp [Aaa.L4,chk,idx,Ao1,w32,List.range_succ,IntKind.wrap,Int.add_comm]
theorem AoM (k : Nat) (h b kk : List Int) (hk : 100<k) (h0 : h.length=8) (hb : b.length=64) (h2 : kk.length=64) : AaL k h b kk=some (AjU h b kk):=by
 have hw : (Aiv 48 16 (Aga b 16 0 (List.replicate 64 0))).length=64:=by rw [Ag0,Aey]; simp
 obtain ⟨n,rfl⟩ : ∃ n,k=n+9:=⟨k-9,by omega⟩
 exact (AlP _ h b kk hb 16 0 (n+9) (List.replicate 64 0) rfl (by omega) (by simp)).trans ((AlX _ h kk h0 48 16 (n+9) _ rfl (by omega) (by omega) (by rw [Aey]; simp)).trans
  ((AkO _ h kk _ h2 hw 64 0 (n+9) h rfl (by omega) h0).trans (Ari _ n h _ h0 (AgD _ _ _ _ _ h0))))
theorem AoL (k : Nat) (h b kk : List Int) (hk : 100<k) (h0 : h.length=8) (hb : b.length=64) (h2 : kk.length=64) : Aaa k h b kk=some (AjU h b kk):=by
 have hw : (Aiv 48 16 (Aga b 16 0 (List.replicate 64 0))).length=64:=by rw [Ag0,Aey]; simp
 obtain ⟨n,rfl⟩ : ∃ n,k=n+9:=⟨k-9,by omega⟩
 unfold Aaa
 rw [AaX (by omega),Ajw]
 exact (AlO _ h b kk hb 16 0 (n+9) (List.replicate 64 0) rfl (by omega) (by simp)).trans ((AlW _ h kk h0 48 16 (n+9) _ rfl (by omega) (by omega) (by rw [Aey]; simp)).trans
  ((AkN _ h kk _ h2 hw 64 0 (n+9) h rfl (by omega) h0).trans (Arh _ n h _ h0 (AgD _ _ _ _ _ h0))))
theorem AgL (h b kk : List Int) : (AjU h b kk).length=8:=by simp [AjU,Ao1]
def AjM : List Int:=[1779033703,3144134277,1013904242,2773480762,1359893119,2600822924,528734635,1541459225]
def KK : List Int:=(Acj 1).getD []
theorem Asa (k : Nat) : Ado k=some KK:=rfl
theorem AsZ (k : Nat) : Acj k=some KK:=rfl
theorem AmY : KK.length=64:=rfl
def Ah3 : Nat→List Int→List Int→List Int
 | 0,_,h=>h
 | m+1,l,h=>Ah3 m (l.drop 64) (AjU h (l.take 64) KK)
theorem Ah2 : ∀ (m : Nat) (l h : List Int),h.length=8→(Ah3 m l h).length=8
 | 0,_,_,hh=>hh
 | m+1,l,h,hh=>Ah2 m _ _ (AgL _ _ _)
def Aq1 (x : Int) : List Int:=[IntKind.wrap .u8 (Int.fdiv x (2 ^ (24))),IntKind.wrap .u8 (Int.fdiv x (2 ^ (16))),IntKind.wrap .u8 (Int.fdiv x (2 ^ (8))),IntKind.wrap .u8 x]
def AnV (h : List Int) : ByteArray:=ofI (h.flatMap Aq1)
theorem AjW (b : ByteArray) : (bI b).length=b.size:=by unfold bI; rw [List.length_map,Array.length_toList]; rfl
theorem Alq (h : List Int) (h8 : h.length=8) : (AnV h).size=32:=by
 obtain ⟨a,b,c,d,e,f,g,i,rfl⟩:=An8 h8
 rfl
theorem Aqz (k n : Nat) (h : List Int) (h8 : h.length=8) : Aat.L4 k h (n+9) 0 []=some (AnV h):=by
 obtain ⟨a,b,c,d,e,f,g,i,rfl⟩:=An8 h8
 simp [Aat.L4,chk,idx,AnV,Aq1,IntKind.wrap]
theorem Akj (k : Nat) (l : List Int) (hk : 100<k) (hl : l.length<1000000000000000) : ∀ (m j n : Nat) (h : List Int),64*(j+m)=l.length→m<n→h.length=8 →
 Aat.L3 k l KK n h ((64*j : Nat) : Int)=some (AnV (Ah3 m (l.drop (64*j)) h))
 | 0,j,n+1,h,hj,_,hh=>by
  rw [Aat.L3,if_neg (by omega)]
  obtain ⟨q,rfl⟩ : ∃ q,k=q+9:=⟨k-9,by omega⟩
  exact Aqz _ q h hh
 | m+1,j,n+1,h,hj,hn,hh=>by
  have e : IntKind.wrap .i64 (((64*j : Nat) : Int)+64)=((64*(j+1) : Nat) : Int):=by rw [w64 (by omega) (by omega)]; omega
  rw [Aat.L3,if_pos (by omega),e,AaX ⟨by omega,by omega,by omega⟩,Int.toNat_natCast,Int.toNat_natCast]
  have ht : (l.take (64*(j+1))).drop (64*j)=(l.drop (64*j)).take 64:=by
   rw [List.drop_take]; congr 1; omega
  rw [ht,AoL k h _ KK hk hh (by rw [List.length_take,List.length_drop]; omega) AmY,AaH,Akj k l hk hl m (j+1) n _ (by omega) (by omega) (AgL _ _ _),Ah3,List.drop_drop]
  rfl
def fill : Nat→List Int→List Int
 | 0,l=>l
 | m+1,l=>fill m (l++[0])
theorem Agp : ∀ (m : Nat) (l : List Int),(fill m l).length=l.length+m
 | 0,_=>rfl
 | m+1,l=>by rw [fill,Agp]; simp; omega
def AjG (n : Nat) : Nat:=(56+64-n % 64) % 64
theorem Ad1 (n : Nat) : (n+AjG n) % 64=56∧AjG n<64:=by unfold AjG; omega
theorem AqH (n : Nat) : Int.tmod ((n : Nat) : Int) 64=((n % 64 : Nat) : Int):=by rw [Int.tmod_eq_emod_of_nonneg (by omega)]; omega
def Ame (n : Nat) (s : Nat) : Int:=IntKind.wrap .u8 (Int.fdiv (IntKind.wrap .u64 (IntKind.wrap .u64 (n : Int)*8)) (2 ^ (min s 64)))
def lens (n : Nat) : List Int:=[Ame n 56,Ame n 48,Ame n 40,Ame n 32,Ame n 24,Ame n 16,Ame n 8,Ame n 0]
def Ant (b : List Int) : ByteArray :=
 let l:=fill (AjG (b.length+1)) (b++[128])++lens b.length
 AnV (Ah3 (l.length / 64) l AjM)
theorem AhE : AjM.length=8:=rfl
theorem AlV (b : List Int) : (Ant b).size=32:=Alq _ (Ah2 _ _ _ AhE)
theorem AnU (b : List Int) : (fill (AjG (b.length+1)) (b++[128])++lens b.length).length=64*((fill (AjG (b.length+1)) (b++[128])++lens b.length).length / 64) ∧
 (fill (AjG (b.length+1)) (b++[128])++lens b.length).length≤b.length+73+63:=by
 have h:=Ad1 (b.length+1)
 rw [List.length_append,Agp]
 simp only [List.length_append,List.length_cons,List.length_nil,lens]
 omega
theorem Apj (k n : Nat) (b v : List Int) (hk : 100<k) (hv : v.length<100000000000000) : Aat.L2 k b (n+9) 7 v=Aat.L3 k (v++lens b.length) KK k AjM 0:=by
 have c : ∀ (i : Nat) (s : List Int),i<10→s.length=1→(((v.length+i)+s.length)*1≤140737488355328):=fun i s hi hs=>by omega
 have h : v.length+10≤140737488355328:=by omega
 simp [Aat.L2,chk,AsZ,lens,Ame,IntKind.wrap,AjM]
 repeat rw [if_pos (by omega)]
theorem Anf (k : Nat) (b : List Int) (hk : 100<k) : ∀ (m n : Nat) (v : List Int),m=AjG v.length→m<n→v.length+m<100000000000000→Aat.L1 k b n v=Aat.L2 k b k 7 (fill m v)
 | 0,n+1,v,h,_,hv=>by
  have:=Ad1 v.length
  rw [Aat.L1,AqH,if_neg (by omega)]; rfl
 | m+1,n+1,v,h,hn,hv=>by
  have:=Ad1 v.length
  have h2 : AjG (v++[0]).length=m:=by
   rw [List.length_append]; simp only [List.length_cons,List.length_nil]; unfold AjG at h ⊢; omega
  rw [Aat.L1,AqH,if_pos (by omega),AaX (by simp; omega),Anf k b hk m n _ h2.symm (by omega) (by simp; omega)]
  rfl
theorem Ark (k : Nat) (b : List Int) (hk : 100<k) (hk2 : b.length+200<k) (hb : b.length<10000000000000) : Aat k b=some (Ant b):=by
 unfold Aat Ant
 have hn:=Ad1 (b.length+1)
 rw [AaX (by omega),AaX (by simp; omega),Anf k b hk (AjG (b.length+1)) k (b++[128]) (by simp) (by omega) (by simp; omega)]
 obtain ⟨q,hq⟩ : ∃ q,k=q+9:=⟨k-9,by omega⟩
 have:=Apj k q b (fill (AjG (b.length+1)) (b++[128])) hk (by rw [Agp]; simp; omega)
 rw [← hq] at this
 obtain ⟨p1,p2⟩:=AnU b
 rw [this,show (0 : Int)=((64*0 : Nat) : Int) from rfl,Akj k _ hk (by omega) _ 0 k AjM (by rw [Nat.zero_add]; exact p1.symm) (by omega) AhE]
 rfl
theorem Aq0 (k n : Nat) (h : List Int) (h8 : h.length=8) : Aal.L4 k h (n+9) 0 []=some (AnV h):=by
 obtain ⟨a,b,c,d,e,f,g,i,rfl⟩:=An8 h8
 simp [Aal.L4,chk,idx,AnV,Aq1,IntKind.wrap]
theorem Akk (k : Nat) (hk : 100<k) : ∀ (m n : Nat) (l h : List Int),64*m=l.length→m<n→h.length=8 →
 Aal.L3 k KK n l h=some (AnV (Ah3 m l h))
 | 0,n+1,l,h,hj,_,hh=>by
  rw [Aal.L3,if_neg (by omega),AaX hh]
  obtain ⟨q,rfl⟩ : ∃ q,k=q+9:=⟨k-9,by omega⟩
  exact Aq0 _ q h hh
 | m+1,n+1,l,h,hj,hn,hh=>by
  rw [Aal.L3,if_pos (by omega),AaX (by omega),show (64 : Int).toNat=64 from rfl,AoM k h _ KK hk hh (by rw [List.length_take]; omega) AmY,AaH,AaX (by omega),
   Akk k hk m n _ _ (by rw [List.length_drop]; omega) (by omega) (AgL _ _ _)]
  rfl
theorem Apk (k n : Nat) (b : List Int) (v : List Int) (hk : 100<k) (hv : v.length<100000000000000) : Aal.L2 k b (n+9) 56 v=Aal.L3 k KK k (v++lens b.length) AjM:=by
 have h : v.length+10≤140737488355328:=by omega
 simp [Aal.L2,chk,Asa,lens,Ame,IntKind.wrap,AjM,AmY]
 repeat rw [if_pos (by omega)]
theorem Ang (k : Nat) (b : List Int) (hk : 100<k) : ∀ (m n : Nat) (v : List Int),m=AjG v.length→m<n→v.length+m<100000000000000→Aal.L1 k b n v=Aal.L2 k b k 56 (fill m v)
 | 0,n+1,v,h,_,hv=>by
  have:=Ad1 v.length
  rw [Aal.L1,AqH,if_neg (by omega)]; rfl
 | m+1,n+1,v,h,hn,hv=>by
  have:=Ad1 v.length
  have h2 : AjG (v++[0]).length=m:=by
   rw [List.length_append]; simp only [List.length_cons,List.length_nil]; unfold AjG at h ⊢; omega
  rw [Aal.L1,AqH,if_pos (by omega),AaX (by simp; omega),Ang k b hk m n _ h2.symm (by omega) (by simp; omega)]
  rfl
theorem Arl (k : Nat) (b : List Int) (hk : 100<k) (hk2 : b.length+200<k) (hb : b.length<10000000000000) : Aal k b=some (Ant b):=by
 unfold Aal Ant
 have hn:=Ad1 (b.length+1)
 rw [AaX (by omega),AaX (by simp; omega),Ang k b hk (AjG (b.length+1)) k (b++[128]) (by simp) (by omega) (by simp; omega)]
 obtain ⟨q,hq⟩ : ∃ q,k=q+9:=⟨k-9,by omega⟩
 have:=Apk k q b (fill (AjG (b.length+1)) (b++[128])) hk (by rw [Agp]; simp; omega)
 rw [← hq] at this
 obtain ⟨p1,p2⟩:=AnU b
 rw [this,Akk k hk _ k _ AjM p1.symm (by omega) AhE]
end Go.TF
set_option linter.unusedVariables false
set_option linter.unusedSimpArgs false
namespace Go.TF
open Go Go.Abs
def AgO (s : ByteArray) : List Int:=enc s.size++bI s
theorem AiD (s : ByteArray) : (AgO s).length=8+s.size:=by rw [AgO,List.length_append,Aay,AjW]
def AhV (p : AaA) : List Int:=enc p.Author++enc p.Height++AgO p.Digest
theorem Amu (p : AaA) (h : p.Digest.size=32) : (AhV p).length=56:=by simp only [AhV,List.length_append,Aay,AiD,h]
theorem AkT : ∀ (l : List AaA),(∀ p ∈ l,p.Digest.size=32)→(l.flatMap AhV).length=56*l.length
 | [],_=>rfl
 | p::l,h=>by
  rw [List.flatMap_cons,List.length_append,AkT l (fun q hq=>h q (by simp [hq])),Amu p (h p (by simp)),List.length_cons]; omega
theorem AeY : ∀ (l : List Int),(l.flatMap enc).length=8*l.length
 | []=>rfl
 | x::l=>by rw [List.flatMap_cons,List.length_append,Aay,AeY l,List.length_cons]; omega
theorem AgS : ∀ (l : List AaA) (p : Option Int),AgH p l=true→∀ q ∈ l,q.Digest.size=32
 | [],_,_,q,hq=>by cases hq
 | x::l,p,h,q,hq=>by
  rw [AgG,Bool.and_eq_true] at h
  rcases List.mem_cons.1 hq with rfl | hq
  ·have:=h.1
   simp only [ApY,Bool.and_eq_true,decide_eq_true_eq] at this
   exact this.2
  ·exact AgS l _ h.2 q hq
def Aeq (author num : Int) (prev : ByteArray) (time kind A B C : Int) (l : List Int) (pins : List AaA) (body : ByteArray) : List Int :=
 enc author++enc num++AgO prev++[time,kind,A,B,C].flatMap enc++enc l.length++l.flatMap enc++enc pins.length++pins.flatMap AhV++AgO body
structure Aoa (prev : ByteArray) (l : List Int) (pins : List AaA) (body : ByteArray) : Prop where
 p : prev.size≤32
 l : l.length≤100
 q : pins.length≤64
 d : ∀ x ∈ pins,x.Digest.size=32
 b : body.size≤4096
def Ani (author num : Int) (prev : ByteArray) (time kind A B C : Int) (l : List Int) (pins : List AaA) (body : ByteArray) : ByteArray:=Ant (Aeq author num prev time kind A B C l pins body)
def Akp (author num : Int) (prev : ByteArray) (time kind A B C : Int) (l : List Int) (pins : List AaA) (body : ByteArray) (sk : Int) (sd : ByteArray) : Bool:=decide (sk=author)&&AbZ sd (Ani author num prev time kind A B C l pins body)
theorem AjR {author num : Int} {prev : ByteArray} {time kind A B C : Int} {l : List Int} {pins : List AaA} {body : ByteArray} (h : Amg author num prev time kind A B C l pins body=0) : Aoa prev l pins body:=by
 unfold Amg at h
 split at h; rotate_left; · omega
 split at h; rotate_left; · omega
 split at h; rotate_left; · omega
 split at h; rotate_left; · omega
 rename_i hn
 split at h; rotate_left; · omega
 rename_i hz
 split at h; rotate_left; · omega
 rename_i hf
 simp only [AlB,Bool.and_eq_true] at hf
 refine ⟨?_,by have:=hz.1; omega,hz.2.1,AgS _ _ hf.1.2,hz.2.2⟩
 have h1:=hf.1.1
 split at h1
 ·have:=(Ahx prev).symm.trans h1
  simp only [decide_eq_true_eq] at this
  omega
 split at h1
 ·simp only [decide_eq_true_eq] at h1; omega
 ·simp only [Ak2,Bool.and_eq_true,bIn,decide_eq_true_eq] at hn
  omega
end Go.TF
set_option linter.unusedVariables false
set_option linter.unusedSimpArgs false
namespace Go.TF
open Go Go.Abs
def Fb (a b : Int) : Int:=AaG .or .u64 (IntKind.wrap .u64 (a*2 ^ (8))) (IntKind.wrap .u64 b)
def AlF (l : List Int) : Int:=IntKind.wrap .i64 (l.foldl Fb 0)
theorem Ais (k : Nat) (v0 : List Int) (h8 : 8≤v0.length) (h9 : v0.length≤100000) : ∀ (m i n : Nat) (a : Int),i+m=8→m<n→AbH.L1 k v0 n a (i : Int)=some (IntKind.wrap .i64 (((v0.drop i).take m).foldl Fb a),v0.drop 8,true)
 | 0,i,n+1,a,h,_=>by
  have hl : (v0.take (8 : Int).toNat).length=8:=by simp; omega
  rw [AbH.L1,hl,if_neg (by omega),AaX (by omega)]
  unfold AbW
  rw [AaX (by simp; omega)]
  simp
 | m+1,i,n+1,a,h,hn=>by
  have hl : (v0.take (8 : Int).toNat).length=8:=by simp; omega
  have hi : i<(v0.take (8 : Int).toNat).length:=by omega
  rw [AbH.L1,if_pos (by omega),AcV hi,w64 (by omega) (by omega),show ((i : Int)+1)=((i+1 : Nat) : Int) by omega,Ais k v0 h8 h9 m (i+1) n _ (by omega) (by omega)]
  have h1 : i<v0.length:=by omega
  rw [List.drop_eq_getElem_cons h1,List.take_succ_cons,List.foldl_cons]
  simp [Fb]
theorem AgQ (k : Nat) (v0 : List Int) (h8 : 8≤v0.length) (h9 : v0.length≤100000) : ∀ (m i n : Nat) (a : Int),i+m=8→m<n→AbG.L1 k v0 n a (i : Int)=some (IntKind.wrap .i64 (((v0.drop i).take m).foldl Fb a),v0.drop 8,true)
 | 0,i,n+1,a,h,_=>by
  rw [AbG.L1,if_neg (by omega),AaX (by omega)]
  unfold Adw
  rw [AaX (by simp; omega)]
  simp
 | m+1,i,n+1,a,h,hn=>by
  have hi : i<v0.length:=by omega
  rw [AbG.L1,if_pos (by omega),AcV hi,w64 (by omega) (by omega),show ((i : Int)+1)=((i+1 : Nat) : Int) by omega,AgQ k v0 h8 h9 m (i+1) n _ (by omega) (by omega)]
  have h1 : i<v0.length:=by omega
  rw [List.drop_eq_getElem_cons h1,List.take_succ_cons,List.foldl_cons]
  simp [Fb]
def AeR (v0 : List Int) : Int×List Int×Bool:=if v0.length<8 then (0,[],false) else (AlF (v0.take 8),v0.drop 8,true)
theorem AfP (k : Nat) (hk : 8<k) (v0 : List Int) (h : v0.length≤100000) : AbH k v0=some (AeR v0):=by
 unfold AbH AeR
 by_cases h1 : v0.length<8
 ·rw [if_pos (by omega),if_pos h1]
 ·rw [if_neg (by omega),if_neg h1,AaX (by omega)]
  exact Ais k v0 (by omega) h 8 0 k 0 rfl hk
theorem AdF (k : Nat) (hk : 8<k) (v0 : List Int) (h : v0.length≤100000) : AbG k v0=some (AeR v0):=by
 unfold AbG AeR
 by_cases h1 : v0.length<8
 ·rw [if_pos (by omega),if_pos h1]
 ·rw [if_neg (by omega),if_neg h1]
  exact AgQ k v0 (by omega) h 8 0 k 0 rfl hk
theorem AdX (v0 : List Int) : (AeR v0).2.1.length≤v0.length:=by
 unfold AeR; split <;> simp
def Agf (v0 : List Int) (m : Int) : ByteArray×List Int×Bool :=
 let r:=AeR v0
 if (!r.2.2)=true then (ByteArray.mk #[],[],false) else if r.1<0 then (ByteArray.mk #[],[],false) else if m<r.1 then (ByteArray.mk #[],[],false) else if (r.2.1.length : Int)<r.1 then (ByteArray.mk #[],[],false)
 else (ofI (r.2.1.take r.1.toNat),r.2.1.drop r.1.toNat,true)
theorem Aj7 (k : Nat) (hk : 8<k) (v0 : List Int) (m : Int) (h : v0.length≤100000) : Acp k v0 m=some (Agf v0 m):=by
 unfold Acp Agf
 rw [AfP k hk v0 h]
 generalize AeR v0=r
 obtain ⟨a,x,b⟩:=r
 simp only [Ab8]
 split; · rfl
 split; · rfl
 split; · rfl
 split; · rfl
 rw [AaX (by omega),AaX (by omega)]
theorem AeK (k : Nat) (hk : 8<k) (v0 : List Int) (m : Int) (h : v0.length≤100000) : Acz k v0 m=some (Agf v0 m):=by
 unfold Acz Agf
 have hl:=AdX v0
 rw [AdF k hk v0 h]
 generalize AeR v0=r at hl
 obtain ⟨a,x,b⟩:=r
 simp only [Ab8]
 simp only at hl
 split; · rfl
 split; · rfl
 split; · rfl
 split; · rfl
 unfold Adw
 rw [AaX (by omega),AaX (by omega),AaX (by simp; omega),AaH]
def AlD : Nat→List Int→List Int
 | 0,_=>[]
 | m+1,l=>AlF (l.take 8)::AlD m (l.drop 8)
theorem Aki : ∀ (m : Nat) (l : List Int),(AlD m l).length=m
 | 0,_=>rfl
 | m+1,l=>by simp [AlD,Aki m]
theorem Afo (k : Nat) (hk : 8<k) (v5 : Int) (hv : v5≤100000) : ∀ (m i n : Nat) (l acc : List Int),(i+m : Int)=v5→m<n→8*m≤l.length→l.length≤100000→acc.length+m≤200000→AbJ.L1 k v5 n (i : Int) l acc=some (acc++AlD m l,l.drop (8*m),true)
 | 0,i,n+1,l,acc,h,_,_,_,_=>by rw [AbJ.L1,if_neg (by omega)]; simp [AlD]
 | m+1,i,n+1,l,acc,h,hn,h8,hl,ha=>by
  have h1 : ¬ l.length<8:=by omega
  rw [AbJ.L1,if_pos (by omega),AfP k hk l hl,AeR,if_neg h1,Ab8,AaX (by simp; omega),w64 (by omega) (by omega),show ((i : Int)+1)=((i+1 : Nat) : Int) by omega,
   Afo k hk v5 hv m (i+1) n _ _ (by omega) (by omega) (by simp; omega) (by simp; omega) (by simp; omega)]
  simp [AlD,List.drop_drop,Nat.mul_add,Nat.add_comm]
theorem Aem (k : Nat) (hk : 8<k) (v5 : Int) (hv : v5≤100000) : ∀ (m i n : Nat) (l acc : List Int),(i+m : Int)=v5→m<n→8*m≤l.length→l.length≤100000→acc.length+m≤200000→AbB.L1 k v5 n (i : Int) l acc=some (acc++AlD m l,l.drop (8*m),true)
 | 0,i,n+1,l,acc,h,_,_,_,_=>by rw [AbB.L1,if_neg (by omega)]; simp [AlD]
 | m+1,i,n+1,l,acc,h,hn,h8,hl,ha=>by
  have h1 : ¬ l.length<8:=by omega
  rw [AbB.L1,if_pos (by omega),AdF k hk l hl,AeR,if_neg h1,Ab8,AaX (by simp; omega),w64 (by omega) (by omega),show ((i : Int)+1)=((i+1 : Nat) : Int) by omega,
   Aem k hk v5 hv m (i+1) n _ _ (by omega) (by omega) (by simp; omega) (by simp; omega) (by simp; omega)]
  simp [AlD,List.drop_drop,Nat.mul_add,Nat.add_comm]
def AhY (v0 : List Int) (m : Int) : List Int×List Int×Bool :=
 let r:=AeR v0
 if (!r.2.2)=true then ([],[],false) else if r.1<0 then ([],[],false) else if m<r.1 then ([],[],false) else if IntKind.wrap .i64 (Int.tdiv (r.2.1.length : Int) 8)<r.1 then ([],[],false)
 else (AlD r.1.toNat r.2.1,r.2.1.drop (8*r.1.toNat),true)
theorem Ans (n : Nat) (h : n≤100000) : IntKind.wrap .i64 (Int.tdiv (n : Int) 8)=(n : Int) / 8:=by
 rw [Int.tdiv_eq_ediv_of_nonneg (by omega),w64 (by omega) (by omega)]
theorem Aj8 (k : Nat) (hk : 900<k) (v0 : List Int) (m : Int) (h : v0.length≤5000) : AbJ k v0 m=some (AhY v0 m):=by
 unfold AbJ AhY
 have hl:=AdX v0
 rw [AfP k (by omega) v0 (by omega)]
 generalize AeR v0=r at hl
 obtain ⟨a,x,b⟩:=r
 simp only [Ab8]
 simp only at hl
 split; · rfl
 split; · rfl
 split; · rfl
 rw [Ans _ (by omega)]
 split; · rfl
 have:=Afo k (by omega) a (by omega) a.toNat 0 k x [] (by omega) (by omega) (by omega) (by omega) (by simp; omega)
 simpa using this
theorem AfX (k : Nat) (hk : 900<k) (v0 : List Int) (m : Int) (h : v0.length≤5000) : AbB k v0 m=some (AhY v0 m):=by
 unfold AbB AhY
 have hl:=AdX v0
 rw [AdF k (by omega) v0 (by omega)]
 generalize AeR v0=r at hl
 obtain ⟨a,x,b⟩:=r
 simp only [Ab8]
 simp only at hl
 split; · rfl
 split; · rfl
 split; · rfl
 rw [Ans _ (by omega)]
 split; · rfl
 have:=Aem k (by omega) a (by omega) a.toNat 0 k x [] (by omega) (by omega) (by omega) (by omega) (by simp; omega)
 simpa using this
theorem AqE (a b : Int) (h0 : 0≤b) (h1 : b<256) : Fb a b=(a*256) % 18446744073709551616+b:=by
 unfold Fb AaG
 have e1 : IntKind.wrap .u64 b=b:=AqF h0 (by omega)
 rw [e1,AkE]
 simp only
 rw [BitVec.toNat_or,BitVec.toNat_ofInt,BitVec.toNat_ofInt]
 show IntKind.wrap .u64 ((((a*2 ^ 8) % 18446744073709551616 % ((2 ^ 64 : Nat) : Int)).toNat ||| ((b % ((2 ^ 64 : Nat) : Int)).toNat) : Nat) : Int)=_
 obtain ⟨x,hx⟩ : ∃ x : Nat,(a*2 ^ 8) % 18446744073709551616=256*(x : Int)∧x<2 ^ 56:=⟨((a*2 ^ 8) % 18446744073709551616 / 256).toNat,by omega,by omega⟩
 obtain ⟨y,rfl⟩:=Int.eq_ofNat_of_zero_le h0
 rw [hx.1]
 have e2 : ((256*(x : Int)) % ((2 ^ 64 : Nat) : Int)).toNat=x <<< 8:=by rw [Nat.shiftLeft_eq]; omega
 have e3 : ((y : Int) % ((2 ^ 64 : Nat) : Int)).toNat=y:=by omega
 rw [e2,e3,← Nat.shiftLeft_add_eq_or_of_lt (by omega),Nat.shiftLeft_eq,AqF (by omega) (by omega)]
 have : a*256=a*2 ^ 8:=by omega
 rw [this,hx.1]
 omega
theorem Apr (v : Int) : ∀ j,j≤8→(Ahw v j).foldl Fb (v / 2 ^ (8*j) % 2 ^ (64-8*j))=v % 2 ^ 64
 | 0,_=>by simp [Ahw]
 | j+1,hj=>by
  have ih:=Apr v j (by omega)
  rw [Ahw,List.foldl_cons,AqE _ _ (by omega) (by omega)]
  rw [← ih]
  congr 1
  have : j=0∨j=1∨j=2∨j=3∨j=4∨j=5∨j=6∨j=7:=by omega
  rcases this with rfl | rfl | rfl | rfl | rfl | rfl | rfl | rfl <;> simp <;> omega
theorem AnD (v : Int) (h : InR .i64 v) : AlF (enc v)=v:=by
 have h:=h.i64
 have e:=Apr v 8 (by omega)
 simp only [Nat.reduceMul,Nat.reduceSub,Int.pow_zero,Int.emod_one] at e
 unfold AlF enc
 rw [e,AiB]
 split <;> omega
theorem Ago : ∀ l : List Int,(l.flatMap enc).length=8*l.length
 | []=>rfl
 | a::l=>by simp [Ago l,Aay]; omega
theorem Aof {n : Int} (h1 : -9223372036854775808≤n) (h2 : n≤9223372036854775807) : InR .i64 n:=by
 simpa [InR,IntKind.min,IntKind.max,IntKind.bits,IntKind.signed] using ⟨h1,h2⟩
end Go.TF
set_option linter.unusedVariables false
set_option linter.unusedSimpArgs false
namespace Go.TF
open Go Go.Abs
structure Af5 (prev : ByteArray) (l : List Int) (pins : List AaA) (body : ByteArray) : Prop where
 p : prev.size≤100
 l : l.length≤100
 q : pins.length≤100
 d : (pins.flatMap AhV).length≤2000000
 b : body.size≤5000
theorem Ag7 (p : AaA) : (AhV p).length=24+p.Digest.size:=by simp only [AhV,List.length_append,Aay,AiD]; omega
theorem Aej (author num : Int) (prev : ByteArray) (time kind A B C : Int) (l : List Int) (pins : List AaA) (body : ByteArray) (h : Af5 prev l pins body) : (Aeq author num prev time kind A B C l pins body).length≤2100000:=by
 have h1:=h.p; have h2:=h.l; have h3:=h.q; have h5:=h.b; have h6:=h.d
 simp only [Aeq,List.length_append,Aay,AiD,AeY,List.length_cons,List.length_nil]
 omega
theorem Aoa.g {prev : ByteArray} {l : List Int} {pins : List AaA} {body : ByteArray} (h : Aoa prev l pins body) : Af5 prev l pins body :=
 ⟨by have:=h.p; omega,h.l,by have:=h.q; omega,by rw [AkT pins h.d]; have:=h.q; omega,by have:=h.b; omega⟩
theorem AsC (k : Nat) (hk : 8<k) (pins : List AaA) (body : ByteArray) (hb : body.size≤5000) (h9 : pins.length≤100) : ∀ (m i n : Nat) (acc : List Int),i+m=pins.length→m<n→acc.length+((pins.drop i).flatMap AhV).length≤3000000 →
 Aak.L2 k pins body n acc (i : Int)=some (acc++(pins.drop i).flatMap AhV++AgO body)
 | 0,i,n+1,acc,h,_,ha=>by
  rw [Aak.L2,if_neg (by omega),Aih k hk _ _ (by omega) (by omega),AaH,List.drop_of_length_le (by omega)]
  simp [AgO]
 | m+1,i,n+1,acc,h,hn,ha=>by
  have h1 : i<pins.length:=by omega
  have h2:=Ag7 pins[i]
  rw [List.drop_eq_getElem_cons h1,List.flatMap_cons,List.length_append] at ha
  rw [Aak.L2,if_pos (by omega),AcV h1,Af7 k hk _ _ (by omega),AaH,Af7 k hk _ _ (by rw [List.length_append,Aay]; omega),AaH,Aih k hk _ _ (by simp only [List.length_append,Aay]; omega) (by omega),AaH,w64 (by omega) (by omega),show ((i : Int)+1)=((i+1 : Nat) : Int) by omega,
   AsC k hk pins body hb h9 m (i+1) n _ (by omega) (by omega) (by simp only [List.length_append,Aay,AjW]; omega),List.drop_eq_getElem_cons h1,List.flatMap_cons]
  simp only [AhV,AgO,List.append_assoc]
theorem AsD (k : Nat) (hk : 100<k) (time kind A B C : Int) (l : List Int) (pins : List AaA) (body : ByteArray) (hl : l.length≤100) (hb : body.size≤5000) (h9 : pins.length≤100) (hp : (pins.flatMap AhV).length≤2000000) : ∀ (m i n : Nat) (acc : List Int),i+m=5→m<n→acc.length+8*m≤5000 →
 Aak.L1 k time kind A B C l pins body n acc (i : Int)=some (acc++(([time,kind,A,B,C] : List Int).drop i).flatMap enc++enc l.length++l.flatMap enc++enc pins.length++pins.flatMap AhV++AgO body)
 | 0,i,n+1,acc,h,_,ha=>by
  rw [Aak.L1,if_neg (by omega),Aoe k (by omega) _ _ (by omega) (by omega) (by omega),AaH,Af7 k (by omega) _ _ (by simp only [List.length_append,Aay,AeY]; omega),AaH,show (0 : Int)=((0 : Nat) : Int) from rfl,
   AsC k (by omega) pins body hb h9 pins.length 0 k _ (by omega) (by omega) (by rw [List.drop_zero]; simp only [List.length_append,Aay,AeY]; omega),List.drop_of_length_le (l:=([time,kind,A,B,C] : List Int)) (by simp; omega)]
  simp
 | m+1,i,n+1,acc,h,hn,ha=>by
  have h1 : i<([time,kind,A,B,C] : List Int).length:=by simp; omega
  rw [Aak.L1,if_pos (by omega),AaX (by omega),AcV h1,Af7 k (by omega) _ _ (by omega),AaH,w64 (by omega) (by omega),show ((i : Int)+1)=((i+1 : Nat) : Int) by omega,
   AsD k hk time kind A B C l pins body hl hb h9 hp m (i+1) n _ (by omega) (by omega) (by rw [List.length_append,Aay]; omega),List.drop_eq_getElem_cons h1,List.flatMap_cons]
  simp only [List.append_assoc]
theorem Ail (k : Nat) (hk : 100<k) (author num : Int) (prev : ByteArray) (time kind A B C : Int) (l : List Int) (pins : List AaA) (body : ByteArray) (sk : Int) (sd : ByteArray) (h : Af5 prev l pins body) :
 Aak k author num prev time kind A B C l pins body sk sd=some (Aeq author num prev time kind A B C l pins body):=by
 have h1:=h.p
 unfold Aak Aeq
 rw [Af7 k (by omega) _ _ (by simp),AaH,Af7 k (by omega) _ _ (by simp only [List.length_append,Aay,List.length_nil]; omega),AaH,Aih k (by omega) _ _ (by simp only [List.length_append,Aay,List.length_nil]; omega) (by omega),AaH,show (0 : Int)=((0 : Nat) : Int) from rfl,
  AsD k hk time kind A B C l pins body h.l h.b h.q h.d 5 0 k _ (by omega) (by omega) (by simp only [List.length_append,Aay,List.length_nil,AjW]; omega)]
 simp only [AgO,List.nil_append,List.drop_zero,List.append_assoc]
theorem AsA (k : Nat) (hk : 8<k) (pins : List AaA) (body : ByteArray) (hb : body.size≤5000) (h9 : pins.length≤100) : ∀ (m i n : Nat) (acc : List Int),i+m=pins.length→m<n→acc.length+((pins.drop i).flatMap AhV).length≤3000000 →
 Aa5.L2 k pins body n acc (i : Int)=some (acc++(pins.drop i).flatMap AhV++AgO body)
 | 0,i,n+1,acc,h,_,ha=>by
  rw [Aa5.L2,if_neg (by omega),AfH k hk _ _ (by omega) (by omega),AaH,List.drop_of_length_le (by omega)]
  simp [AgO]
 | m+1,i,n+1,acc,h,hn,ha=>by
  have h1 : i<pins.length:=by omega
  have h2:=Ag7 pins[i]
  rw [List.drop_eq_getElem_cons h1,List.flatMap_cons,List.length_append] at ha
  rw [Aa5.L2,if_pos (by omega),AcV h1,Acy k hk _ _ (by omega),AaH,Acy k hk _ _ (by rw [List.length_append,Aay]; omega),AaH,AfH k hk _ _ (by simp only [List.length_append,Aay]; omega) (by omega),AaH,w64 (by omega) (by omega),show ((i : Int)+1)=((i+1 : Nat) : Int) by omega,
   AsA k hk pins body hb h9 m (i+1) n _ (by omega) (by omega) (by simp only [List.length_append,Aay,AjW]; omega),List.drop_eq_getElem_cons h1,List.flatMap_cons]
  simp only [AhV,AgO,List.append_assoc]
theorem AsB (k : Nat) (hk : 100<k) (time kind A B C : Int) (l : List Int) (pins : List AaA) (body : ByteArray) (hl : l.length≤100) (hb : body.size≤5000) (h9 : pins.length≤100) (hp : (pins.flatMap AhV).length≤2000000) : ∀ (m i n : Nat) (acc : List Int),i+m=5→m<n→acc.length+8*m≤5000 →
 Aa5.L1 k time kind A B C l pins body n acc (i : Int)=some (acc++(([time,kind,A,B,C] : List Int).drop i).flatMap enc++enc l.length++l.flatMap enc++enc pins.length++pins.flatMap AhV++AgO body)
 | 0,i,n+1,acc,h,_,ha=>by
  rw [Aa5.L1,if_neg (by simp; omega),Aku k (by omega) _ _ (by omega) (by omega) (by omega),AaH,Acy k (by omega) _ _ (by simp only [List.length_append,Aay,AeY]; omega),AaH,show (0 : Int)=((0 : Nat) : Int) from rfl,
   AsA k (by omega) pins body hb h9 pins.length 0 k _ (by omega) (by omega) (by rw [List.drop_zero]; simp only [List.length_append,Aay,AeY]; omega),List.drop_of_length_le (l:=([time,kind,A,B,C] : List Int)) (by simp; omega)]
  simp
 | m+1,i,n+1,acc,h,hn,ha=>by
  have h1 : i<([time,kind,A,B,C] : List Int).length:=by simp; omega
  rw [Aa5.L1,if_pos (by simp; omega),AcV h1,Acy k (by omega) _ _ (by omega),AaH,w64 (by omega) (by omega),show ((i : Int)+1)=((i+1 : Nat) : Int) by omega,
   AsB k hk time kind A B C l pins body hl hb h9 hp m (i+1) n _ (by omega) (by omega) (by rw [List.length_append,Aay]; omega),List.drop_eq_getElem_cons h1,List.flatMap_cons]
  simp only [List.append_assoc]
theorem Aik (k : Nat) (hk : 100<k) (author num : Int) (prev : ByteArray) (time kind A B C : Int) (l : List Int) (pins : List AaA) (body : ByteArray) (sk : Int) (sd : ByteArray) (h : Af5 prev l pins body) :
 Aa5 k author num prev time kind A B C l pins body sk sd=some (Aeq author num prev time kind A B C l pins body):=by
 have h1:=h.p
 unfold Aa5 Aeq
 rw [Acy k (by omega) _ _ (by simp),AaH,Acy k (by omega) _ _ (by simp only [List.length_append,Aay,List.length_nil]; omega),AaH,AfH k (by omega) _ _ (by simp only [List.length_append,Aay,List.length_nil]; omega) (by omega),AaH,show (0 : Int)=((0 : Nat) : Int) from rfl,
  AsB k hk time kind A B C l pins body h.l h.b h.q h.d 5 0 k _ (by omega) (by omega) (by simp only [List.length_append,Aay,List.length_nil,AjW]; omega)]
 simp only [AgO,List.nil_append,List.drop_zero,List.append_assoc]
theorem AhT (k : Nat) (hk : 3000000<k) (author num : Int) (prev : ByteArray) (time kind A B C : Int) (l : List Int) (pins : List AaA) (body : ByteArray) (sk : Int) (sd : ByteArray) (h : Af5 prev l pins body) :
 Abh k author num prev time kind A B C l pins body sk sd=some (Ani author num prev time kind A B C l pins body):=by
 have:=Aej author num prev time kind A B C l pins body h
 unfold Abh Ani
 rw [Ail k (by omega) _ _ _ _ _ _ _ _ _ _ _ _ _ h,AaH,Arl k _ (by omega) (by omega) (by omega),AaH]
theorem AhS (k : Nat) (hk : 3000000<k) (author num : Int) (prev : ByteArray) (time kind A B C : Int) (l : List Int) (pins : List AaA) (body : ByteArray) (sk : Int) (sd : ByteArray) (h : Af5 prev l pins body) :
 Aci k author num prev time kind A B C l pins body sk sd=some (Ani author num prev time kind A B C l pins body):=by
 have:=Aej author num prev time kind A B C l pins body h
 unfold Aci Ani
 rw [Aik k (by omega) _ _ _ _ _ _ _ _ _ _ _ _ _ h,AaH,Ark k _ (by omega) (by omega) (by omega),AaH]
theorem AhP (k : Nat) (hk : 3000000<k) (author num : Int) (prev : ByteArray) (time kind A B C : Int) (l : List Int) (pins : List AaA) (body : ByteArray) (sk : Int) (sd : ByteArray) (h : Af5 prev l pins body) :
 AbY k author num prev time kind A B C l pins body sk sd=some (Akp author num prev time kind A B C l pins body sk sd):=by
 unfold AbY Akp
 rw [AhT k hk _ _ _ _ _ _ _ _ _ _ _ _ _ h,AaH,Ajw]
 by_cases e : sk=author <;> simp [e]
theorem Af6 (k : Nat) (hk : 3000000<k) (author num : Int) (prev : ByteArray) (time kind A B C : Int) (l : List Int) (pins : List AaA) (body : ByteArray) (sk : Int) (sd : ByteArray) (h : Af5 prev l pins body) :
 AcR k author num prev time kind A B C l pins body sk sd=some (Akp author num prev time kind A B C l pins body sk sd):=by
 unfold AcR Akp
 by_cases e : sk=author
 ·rw [if_pos e,AhS k hk _ _ _ _ _ _ _ _ _ _ _ _ _ h,AaH]; simp [e]
 ·rw [if_neg e]; simp [e]
theorem Aob (k : Nat) (hk : 3000000<k) (author num : Int) (prev : ByteArray) (time kind A B C : Int) (l : List Int) (pins : List AaA) (body : ByteArray) (sk : Int) (sd : ByteArray) (h : Af5 prev l pins body) :
 AcZ k author num prev time kind A B C l pins body sk sd=some ⟨author,num,prev,time,kind,A,B,C,l,pins,body,author,Ani author num prev time kind A B C l pins body⟩:=by
 have h1:=h.l
 have h2:=h.q
 unfold AcZ AcJ Aba
 rw [AaX (by omega),AaH,AaX (by omega),AaH,AhT k hk _ _ _ _ _ _ _ _ _ _ _ _ _ h,AaH]
theorem AmV (k : Nat) (hk : 3000000<k) (author num : Int) (prev : ByteArray) (time kind A B C : Int) (l : List Int) (pins : List AaA) (body : ByteArray) (sk : Int) (sd : ByteArray) (h : Af5 prev l pins body) :
 Adv k author num prev time kind A B C l pins body sk sd=some ⟨author,num,prev,time,kind,A,B,C,l,pins,body,author,Ani author num prev time kind A B C l pins body⟩:=by
 have h1:=h.l
 have h2:=h.q
 unfold Adv AfI
 rw [AaX (by omega),AaX (by omega),AaH,AhS k hk _ _ _ _ _ _ _ _ _ _ _ _ _ h,AaH]
def Anh (author num : Int) (prev : ByteArray) (time kind A B C : Int) (l : List Int) (pins : List AaA) (body : ByteArray) (sk : Int) (sd : ByteArray) : List Int×Int :=
 if Amg author num prev time kind A B C l pins body≠0 then ([],Amg author num prev time kind A B C l pins body)
 else if (!Akp author num prev time kind A B C l pins body sk sd)=true then ([],6)
 else (Aeq author num prev time kind A B C l pins body++enc sk++AgO sd,0)
theorem Ama (k : Nat) (hk : 3000000<k) (author num : Int) (prev : ByteArray) (time kind A B C : Int) (l : List Int) (pins : List AaA) (body : ByteArray) (sk : Int) (sd : ByteArray) (h : Af5 prev l pins body) (hd : sd.size≤100) :
 AcA k author num prev time kind A B C l pins body sk sd=some (Anh author num prev time kind A B C l pins body sk sd):=by
 have h1:=h.l
 have h2:=h.q
 have h3:=Aej author num prev time kind A B C l pins body h
 unfold AcA Anh
 rw [AkC k _ _ _ _ _ _ _ _ _ _ _ _ _ (by omega) (by omega) (by omega),AaH]
 split
 ·rfl
 rw [AhP k hk _ _ _ _ _ _ _ _ _ _ _ _ _ h,AaH]
 split
 ·rfl
 rw [Ail k (by omega) _ _ _ _ _ _ _ _ _ _ _ _ _ h,AaH,Af7 k (by omega) _ _ (by omega),AaH,Aih k (by omega) _ _ (by simp only [List.length_append,Aay]; omega) (by omega),AaH]
 simp only [AgO,List.append_assoc]
theorem AhR (k : Nat) (hk : 3000000<k) (author num : Int) (prev : ByteArray) (time kind A B C : Int) (l : List Int) (pins : List AaA) (body : ByteArray) (sk : Int) (sd : ByteArray) (h : Af5 prev l pins body) (hd : sd.size≤100) :
 Ach k author num prev time kind A B C l pins body sk sd=some (Anh author num prev time kind A B C l pins body sk sd):=by
 have h1:=h.l
 have h2:=h.q
 have h3:=Aej author num prev time kind A B C l pins body h
 unfold Ach Anh
 rw [Aij k _ _ _ _ _ _ _ _ _ _ _ _ _ (by omega) (by omega) (by omega),AaH]
 split
 ·rfl
 rw [Af6 k hk _ _ _ _ _ _ _ _ _ _ _ _ _ h,AaH]
 split
 ·rfl
 rw [Aik k (by omega) _ _ _ _ _ _ _ _ _ _ _ _ _ h,AaH,Acy k (by omega) _ _ (by omega),AaH,AfH k (by omega) _ _ (by simp only [List.length_append,Aay]; omega) (by omega),AaH]
 simp only [AgO,List.append_assoc]
def Aqo (x y : AaA) : Bool:=(x.Author==y.Author)&&((x.Height==y.Height)&&(AbZ x.Digest y.Digest))
theorem Ars (k : Nat) (a b : List AaA) : ∀ (n : Nat) (i : Int),Aab.L1 k a b n i=Aa2.L1 k a b n i
 | 0,_=>rfl
 | n+1,i=>by rw [Aab.L1,Aa2.L1]; simp only [Ars k a b n]
theorem Ar5 (k : Nat) (a b : List Int) : ∀ (n : Nat) (i : Int),Aav.L1 k a b n i=Aa3.L1 k a b n i
 | 0,_=>rfl
 | n+1,i=>by rw [Aav.L1,Aa3.L1]; simp only [Ar5 k a b n]
theorem AkA (k : Nat) (a b : List Int) : Aav k a b=Aa3 k a b:=by unfold Aav Aa3; rw [Ar5]
theorem Aj9 (k : Nat) (a b : List AaA) : Aab k a b=Aa2 k a b:=by unfold Aab Aa2; rw [Ars]
theorem Ahn (k : Nat) (a b : List Int) (hl : a.length=b.length) (h9 : a.length≤100000) : ∀ (m i n : Nat),i+m=a.length→m<n→∃ r,Aa3.L1 k a b n (i : Int)=some r∧(a=b→r=true)
 | 0,i,n+1,h,_=>by rw [Aa3.L1,if_neg (by omega)]; exact ⟨_,rfl,fun _=>rfl⟩
 | m+1,i,n+1,h,hn=>by
  have h1 : i<a.length:=by omega
  have h2 : i<b.length:=by omega
  obtain ⟨r,e,hr⟩:=Ahn k a b hl h9 m (i+1) n (by omega) (by omega)
  rw [Aa3.L1,if_pos (by omega),AcV h1,AcV h2,AeS i (by omega),e]
  by_cases e : a[i]=b[i]
  ·rw [if_neg (by simp [e])]; exact ⟨r,rfl,hr⟩
  ·rw [if_pos e]; exact ⟨_,rfl,fun q=>by subst q; exact absurd rfl e⟩
theorem Ahm (k : Nat) (a b : List AaA) (hl : a.length=b.length) (h9 : a.length≤100000) : ∀ (m i n : Nat),i+m=a.length→m<n→∃ r,Aa2.L1 k a b n (i : Int)=some r∧(a=b→r=true)
 | 0,i,n+1,h,_=>by rw [Aa2.L1,if_neg (by omega)]; exact ⟨_,rfl,fun _=>rfl⟩
 | m+1,i,n+1,h,hn=>by
  have h1 : i<a.length:=by omega
  have h2 : i<b.length:=by omega
  obtain ⟨r,e,hr⟩:=Ahm k a b hl h9 m (i+1) n (by omega) (by omega)
  rw [Aa2.L1,if_pos (by omega),AcV h1,AcV h2,AeS i (by omega),e,Ajw]
  by_cases e : (!(a[i].Author==b[i].Author&&(a[i].Height==b[i].Height&&AbZ a[i].Digest b[i].Digest)))=true
  ·rw [if_pos e]
   refine ⟨_,rfl,fun q=>?_⟩
   subst q
   simp [Adr] at e
  ·rw [if_neg e]; exact ⟨r,rfl,hr⟩
theorem AkM (k : Nat) (a b : List Int) (h : a.length<k) (h9 : a.length≤100000) : ∃ r,Aa3 k a b=some r∧(a=b→r=true):=by
 unfold Aa3
 by_cases e : a.length=b.length
 ·rw [if_neg (by omega)]; exact Ahn k a b e h9 a.length 0 k (by omega) h
 ·rw [if_pos (by omega)]; exact ⟨_,rfl,fun q=>by subst q; exact absurd rfl e⟩
theorem AkL (k : Nat) (a b : List AaA) (h : a.length<k) (h9 : a.length≤100000) : ∃ r,Aa2 k a b=some r∧(a=b→r=true):=by
 unfold Aa2
 by_cases e : a.length=b.length
 ·rw [if_neg (by omega)]; exact Ahm k a b e h9 a.length 0 k (by omega) h
 ·rw [if_pos (by omega)]; exact ⟨_,rfl,fun q=>by subst q; exact absurd rfl e⟩
theorem AmX (k : Nat) (a1 a2 : Int) (a3 : ByteArray) (a4 a5 a6 a7 a8 : Int) (a9 : List Int) (a10 : List AaA) (a11 : ByteArray) (a12 : Int) (a13 : ByteArray) (b1 b2 : Int) (b3 : ByteArray) (b4 b5 b6 b7 b8 : Int) (b9 : List Int) (b10 : List AaA) (b11 : ByteArray) (b12 : Int) (b13 : ByteArray) :
 Ab2 k a1 a2 a3 a4 a5 a6 a7 a8 a9 a10 a11 a12 a13 b1 b2 b3 b4 b5 b6 b7 b8 b9 b10 b11 b12 b13=AcN k a1 a2 a3 a4 a5 a6 a7 a8 a9 a10 a11 a12 a13 b1 b2 b3 b4 b5 b6 b7 b8 b9 b10 b11 b12 b13:=by
 unfold Ab2 AcN
 rw [AkA,Aj9]
theorem AnZ {c : Prop} [Decidable c] {x y : Option Bool} (hx : ∃ r,x=some r) (hy : ∃ r,y=some r) : ∃ r,(if c then x else y)=some r:=by split <;> assumption
theorem AmW (k : Nat) (a1 a2 : Int) (a3 : ByteArray) (a4 a5 a6 a7 a8 : Int) (a9 : List Int) (a10 : List AaA) (a11 : ByteArray) (a12 : Int) (a13 : ByteArray) (b1 b2 : Int) (b3 : ByteArray) (b4 b5 b6 b7 b8 : Int) (b9 : List Int) (b10 : List AaA) (b11 : ByteArray) (b12 : Int) (b13 : ByteArray)
 (h9 : a9.length<k) (h9' : a9.length≤100000) (h10 : a10.length<k) (h10' : a10.length≤100000) :
 ∃ r,AcN k a1 a2 a3 a4 a5 a6 a7 a8 a9 a10 a11 a12 a13 b1 b2 b3 b4 b5 b6 b7 b8 b9 b10 b11 b12 b13=some r:=by
 obtain ⟨r,e,_⟩:=AkM k a9 b9 h9 h9'
 obtain ⟨s,f,_⟩:=AkL k a10 b10 h10 h10'
 unfold AcN
 rw [e,f]
 rw [AaH,AaH]
 iterate 8 refine AnZ ?_ ⟨false,rfl⟩
 iterate 3 refine AnZ ?_ ⟨false,rfl⟩
 exact ⟨_,rfl⟩
theorem AhQ (k : Nat) (a1 a2 : Int) (a3 : ByteArray) (a4 a5 a6 a7 a8 : Int) (a9 : List Int) (a10 : List AaA) (a11 : ByteArray) (a12 : Int) (a13 : ByteArray)
 (h9 : a9.length<k) (h9' : a9.length≤100000) (h10 : a10.length<k) (h10' : a10.length≤100000) :
 AcN k a1 a2 a3 a4 a5 a6 a7 a8 a9 a10 a11 a12 a13 a1 a2 a3 a4 a5 a6 a7 a8 a9 a10 a11 a12 a13=some true:=by
 obtain ⟨r,e,hr⟩:=AkM k a9 a9 h9 h9'
 obtain ⟨s,f,hs⟩:=AkL k a10 a10 h10 h10'
 unfold AcN
 rw [e,f,hr rfl,hs rfl]
 simp [Adr]
theorem Ah7 (k : Nat) (hk : 3000000<k) (a1 a2 : Int) (a3 : ByteArray) (a4 a5 a6 a7 a8 : Int) (a9 : List Int) (a10 : List AaA) (a11 : ByteArray) (a12 : Int) (a13 : ByteArray) (b1 b2 : Int) (b3 : ByteArray) (b4 b5 b6 b7 b8 : Int) (b9 : List Int) (b10 : List AaA) (b11 : ByteArray) (b12 : Int) (b13 : ByteArray)
 (h : Af5 a3 a9 a10 a11) (hd : a13.size≤100) :
 AdN k a1 a2 a3 a4 a5 a6 a7 a8 a9 a10 a11 a12 a13 b1 b2 b3 b4 b5 b6 b7 b8 b9 b10 b11 b12 b13=some true:=by
 have h1:=h.l
 have h2:=h.q
 obtain ⟨r,e⟩:=AmW k a1 a2 a3 a4 a5 a6 a7 a8 a9 a10 a11 a12 a13 b1 b2 b3 b4 b5 b6 b7 b8 b9 b10 b11 b12 b13 (by omega) (by omega) (by omega) (by omega)
 unfold AdN
 rw [Ama k hk _ _ _ _ _ _ _ _ _ _ _ _ _ h hd,AhR k hk _ _ _ _ _ _ _ _ _ _ _ _ _ h hd]
 generalize Anh a1 a2 a3 a4 a5 a6 a7 a8 a9 a10 a11 a12 a13=E
 obtain ⟨E1,E2⟩:=E
 rw [Aea,Aea,AkC k _ _ _ _ _ _ _ _ _ _ _ _ _ (by omega) (by omega) (by omega),Aij k _ _ _ _ _ _ _ _ _ _ _ _ _ (by omega) (by omega) (by omega),AaH,AaH,if_pos rfl,
  Ail k (by omega) _ _ _ _ _ _ _ _ _ _ _ _ _ h,Aik k (by omega) _ _ _ _ _ _ _ _ _ _ _ _ _ h,AaH,AaH,if_pos (Adr _),AhT k hk _ _ _ _ _ _ _ _ _ _ _ _ _ h,AhS k hk _ _ _ _ _ _ _ _ _ _ _ _ _ h,AaH,AaH,if_pos (Adr _),
  AhP k hk _ _ _ _ _ _ _ _ _ _ _ _ _ h,Af6 k hk _ _ _ _ _ _ _ _ _ _ _ _ _ h,AaH,AaH,if_pos (by simp),Aob k hk _ _ _ _ _ _ _ _ _ _ _ _ _ h,AmV k hk _ _ _ _ _ _ _ _ _ _ _ _ _ h,AaH,AaH,
  AhQ k _ _ _ _ _ _ _ _ _ _ _ _ _ (by show a9.length<k; omega) (by show a9.length≤_; omega) (by show a10.length<k; omega) (by show a10.length≤_; omega),AaH,if_pos rfl,if_pos rfl,if_pos (Adr _),AmX,e,AaH,AaH,if_pos (by simp),AmX,AhQ k _ _ _ _ _ _ _ _ _ _ _ _ _ (by omega) (by omega) (by omega) (by omega),AaH]
end Go.TF
set_option linter.unusedVariables false
set_option linter.unusedSimpArgs false
namespace Go.TF
open Go Go.Abs
def Byt (l : List Int) : Prop:=∀ y ∈ l,0≤y∧y<256
theorem Byt.drop {l : List Int} (h : Byt l) (n : Nat) : Byt (l.drop n):=fun y hy=>h y (List.mem_of_mem_drop hy)
theorem Byt.take {l : List Int} (h : Byt l) (n : Nat) : Byt (l.take n):=fun y hy=>h y (List.mem_of_mem_take hy)
theorem AmG : ∀ (l : List Int),Byt l→bI (ofI l)=l:=by
 intro l h
 unfold bI ofI
 simp only [List.map_map]
 refine (List.map_congr_left (g:=id) fun y hy=>?_).trans (List.map_id _)
 have:=h y hy
 show (((UInt8.ofNat y.toNat).toNat : Nat) : Int)=y
 rw [UInt8.toNat_ofNat']
 omega
theorem AkX (l : List Int) : (ofI l).size=l.length:=by simp [ofI,ByteArray.size]
def hz (l : List Int) (a : Int) : Int:=l.foldl (fun a b=>a*256+b) a
theorem Anb : ∀ (t : List Int) (c : Int),Byt t→hz t c / 2 ^ (8*t.length)=c∧(0≤c→0≤hz t c)
 | [],c,_=>by simp [hz]
 | b::t,c,h=>by
  have hb:=h b (by simp)
  obtain ⟨h1,h2⟩:=Anb t (c*256+b) (fun y hy=>h y (by simp [hy]))
  have e : hz (b::t) c=hz t (c*256+b):=rfl
  refine ⟨?_,fun hc=>by rw [e]; exact h2 (by omega)⟩
  rw [e,List.length_cons,show 8*(t.length+1)=8*t.length+8 by omega,Int.pow_add,← Int.ediv_ediv_of_nonneg (Int.pow_nonneg (by omega)),h1]
  omega
theorem Al1 : ∀ (t : List Int) (c : Int),Byt t→Ahw (hz t c) t.length=t
 | [],c,_=>rfl
 | b::t,c,h=>by
  have hb:=h b (by simp)
  have ht : Byt t:=fun y hy=>h y (by simp [hy])
  have e : hz (b::t) c=hz t (c*256+b):=rfl
  rw [List.length_cons,Ahw,e,(Anb t _ ht).1,Al1 t _ ht]
  congr 1
  omega
theorem Ane : ∀ (t : List Int) (a : Int) (m : Nat),Byt t→t.length=m→m≤8→0≤a→a<2 ^ (64-8*m)→t.foldl Fb a=hz t a
 | [],a,m,_,_,_,_,_=>rfl
 | b::t,a,m,h,hl,hm,h0,h1=>by
  have hb:=h b (by simp)
  have ht : Byt t:=fun y hy=>h y (by simp [hy])
  obtain ⟨q,rfl⟩ : ∃ q,m=q+1:=⟨t.length,by simp at hl; omega⟩
  have hq : t.length=q:=by simp at hl; omega
  have e : hz (b::t) a=hz t (a*256+b):=rfl
  have hc : a*256+b<2 ^ (64-8*q)∧a*256<18446744073709551616:=by
   have : q=0∨q=1∨q=2∨q=3∨q=4∨q=5∨q=6∨q=7:=by omega
   rcases this with rfl | rfl | rfl | rfl | rfl | rfl | rfl | rfl <;> simp at h1 ⊢ <;> omega
  rw [List.foldl_cons,AqE a b hb.1 hb.2,e,Int.emod_eq_of_lt (by omega) hc.2]
  exact Ane t (a*256+b) q ht hq (by omega) (by omega) hc.1
theorem Aia (v : Int) : ∀ j,j≤8→Ahw (v % 18446744073709551616) j=Ahw v j
 | 0,_=>rfl
 | j+1,h=>by rw [Ahw,Ahw,Al4 v j (by omega),Aia v j (by omega)]
theorem Ami (v : Int) : IntKind.wrap .i64 v % 18446744073709551616=v % 18446744073709551616:=by rw [AiB]; split <;> omega
theorem Akh (l : List Int) (h : Byt l) (hl : l.length=8) : enc (AlF l)=l:=by
 unfold enc AlF
 rw [Ane l 0 8 h hl (by omega) (by omega) (by simp),← Aia _ 8 (by omega),Ami,Aia _ 8 (by omega)]
 have:=Al1 l 0 h
 rw [hl] at this
 exact this
theorem AiE {l x : List Int} {a : Int} (h : Byt l) (e : AeR l=(a,x,true)) : l=enc a++x∧AlF (enc a)=a∧Byt x:=by
 unfold AeR at e
 split at e
 ·simp at e
 ·simp only [Prod.mk.injEq,and_true] at e
  obtain ⟨rfl,rfl⟩:=e
  have h8:=Akh (l.take 8) (h.take 8) (by simp; omega)
  rw [h8]
  exact ⟨(List.take_append_drop 8 l).symm,rfl,h.drop 8⟩
theorem Aml {l x : List Int} {s : ByteArray} {m : Int} (h : Byt l) (e : Agf l m=(s,x,true)) : l=AgO s++x∧(s.size : Int)≤m∧Byt x:=by
 unfold Agf at e
 rcases hr : AeR l with ⟨a,y,b⟩
 rw [hr] at e
 simp only at e
 cases b
 ·simp at e
 rw [if_neg (by simp)] at e
 split at e; · simp at e
 split at e; · simp at e
 split at e; · simp at e
 obtain ⟨h1,h2,h3⟩:=AiE h hr
 simp only [Prod.mk.injEq,and_true] at e
 obtain ⟨rfl,rfl⟩:=e
 have hs : (ofI (y.take a.toNat)).size=a.toNat:=by rw [AkX,List.length_take]; omega
 refine ⟨?_,by rw [hs]; omega,h3.drop _⟩
 rw [AgO,hs,AmG _ (h3.take _),show ((a.toNat : Nat) : Int)=a by omega,List.append_assoc,List.take_append_drop]
 exact h1
theorem Al2 : ∀ (n : Nat) (l : List Int),Byt l→8*n≤l.length→(AlD n l).flatMap enc=l.take (8*n)
 | 0,l,_,_=>by simp [AlD]
 | n+1,l,h,hl=>by
  rw [AlD,List.flatMap_cons,Akh _ (h.take 8) (by simp; omega),Al2 n _ (h.drop 8) (by simp; omega),show 8*(n+1)=8+8*n by omega,List.take_add]
theorem Amm {l x L : List Int} {m : Int} (h : Byt l) (hl : l.length≤5000) (e : AhY l m=(L,x,true)) : l=enc L.length++(L.flatMap enc++x)∧(L.length : Int)≤m∧Byt x:=by
 unfold AhY at e
 have hl2:=AdX l
 rcases hr : AeR l with ⟨a,y,b⟩
 rw [hr] at e hl2
 simp only at e hl2
 cases b
 ·simp at e
 rw [if_neg (by simp)] at e
 split at e; · simp at e
 split at e; · simp at e
 rw [Ans _ (by omega)] at e
 split at e; · simp at e
 obtain ⟨h1,h2,h3⟩:=AiE h hr
 simp only [Prod.mk.injEq,and_true] at e
 obtain ⟨rfl,rfl⟩:=e
 rw [Aki]
 refine ⟨?_,by omega,h3.drop _⟩
 rw [Al2 _ _ h3 (by omega),List.take_append_drop,show ((a.toNat : Nat) : Int)=a by omega]
 exact h1
theorem Ait (l : List Int) (m : Int) : (Agf l m).2.1.length≤l.length:=by
 unfold Agf
 have:=AdX l
 dsimp only
 repeat' split
 all_goals simp
 omega
theorem Ahl (l : List Int) (m : Int) : (AhY l m).2.1.length≤l.length:=by
 unfold AhY
 have:=AdX l
 dsimp only
 repeat' split
 all_goals simp
 omega
end Go.TF
