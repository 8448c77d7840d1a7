import Derived.Test.YtomgdcnbceiggaaSmtWal29
import Derived.Test.YtomgdcnbceiggaaSmtLay24
set_option linter.unusedVariables false
set_option linter.unusedSimpArgs false
namespace Go.TF
open Go Go.Abs
theorem AaX {α : Type} {c : Prop} [Decidable c] {x : Option α} (h : c) : chk c x=x:=by simp [chk,h]
theorem AcJ {α β : Type} {l : List α} {i : Nat} {f : α→Option β} (h : i<l.length) : idx l (i : Int) f=f l[i]:=by
 simp [idx,h]
@[simp] theorem AaJ {α γ : Type} (a : α) (f : α→Option γ) : AbI (some a) f=f a:=rfl
@[simp] theorem Aaq {α β γ : Type} (a : α) (b : β) (f : α→β→Option γ) : Acy (some (a,b)) f=f a b:=rfl
@[simp] theorem AcL {α β δ γ : Type} (a : α) (b : β) (c : δ) (f : α→β→δ→Option γ) : AfB (some (a,b,c)) f=f a b c:=rfl
@[simp] theorem Aqo {α β δ ε γ : Type} (a : α) (b : β) (c : δ) (d : ε) (f : α→β→δ→ε→Option γ) : AtI (some (a,b,c,d)) f=f a b c d:=rfl
@[simp] theorem Ai7 {α γ : Type} (x : α) (f : α→Option γ) : Ano x f=f x:=rfl
theorem w64 {n : Int} (h1 : -9223372036854775808≤n) (h2 : n≤9223372036854775807) : IntKind.wrap .i64 n=n:=Apq h1 h2
theorem Aq0 {n : Int} (h1 : 0≤n) (h2 : n≤18446744073709551615) : IntKind.wrap .u64 n=n:=Apo .u64 (by simpa [IntKind.min,IntKind.bits,IntKind.signed] using h1) (by simpa [IntKind.max,IntKind.bits,IntKind.signed] using h2)
theorem AhQ (n : Int) : IntKind.wrap .u8 n=n % 256:=by simp [IntKind.wrap]
theorem Aku (n : Int) : IntKind.wrap .u64 n=n % 18446744073709551616:=by simp [IntKind.wrap]
theorem Aim (n : Int) : IntKind.wrap .i64 n=if n % 18446744073709551616<9223372036854775808 then n % 18446744073709551616 else n % 18446744073709551616-18446744073709551616:=by
 simp only [IntKind.wrap,IntKind.signed,IntKind.bits]
 simp
 split <;> split <;> omega
theorem AeA (a : ByteArray) : Abo a a=true:=by simp [Abo]
theorem AjZ (a b : ByteArray) : Abo a b=true↔a=b:=by
 simp only [Abo,beq_iff_eq]
 constructor
 ·intro h
  cases a; cases b
  simp at h
  simp [h]
 ·rintro rfl; rfl
end Go.TF
set_option linter.unusedVariables false
set_option linter.unusedSimpArgs false
namespace Go.TF
open Go Go.Abs
theorem AeS (i : Nat) (h : i<9223372036854775807) : IntKind.wrap .i64 ((i : Int)+1)=((i+1 : Nat) : Int):=by rw [w64 (by omega) (by omega)]; omega
def ArZ (p : Int→Bool) : Nat→Nat→List Int
 | 0,_=>[]
 | m+1,i=>if p i=true then (i : Int)::ArZ p m (i+1) else ArZ p m (i+1)
def sel (p : Int→Bool) : List Int:=ArZ p 64 0
def asc (p : Int) : List Int→Bool
 | []=>true
 | x::l=>decide (0≤x)&&decide (x<64)&&decide (p<x)&&asc x l
def okR (l : List Int) : Bool := !l.isEmpty&&asc (-1) l
def Atc (a b : List Int) : List Int:=sel fun j=>decide (j ∈ a)||decide (j ∈ b)
def Atb (a b : List Int) : List Int:=sel fun j=>decide (j ∈ a) && !decide (j ∈ b)
def Asc (l : List Int) (i : Nat) : Int:=if i=0 then -1 else l.getD (i-1) 0
end Go.TF
set_option linter.unusedVariables false
set_option linter.unusedSimpArgs false
namespace Go.TF
open Go Go.Abs
def AqQ (a b : Int) : Int:=if b<1 then 0 else if Int.tmod a b<0 then IntKind.wrap .i64 (Int.tmod a b+b) else Int.tmod a b
theorem AkH (k : Nat) (a b : Int) : Acb k a b=some (AqQ a b):=by
 unfold Acb AqQ Acb.J1
 split; · rfl
 rw [AaX (by omega)]
 split <;> rfl
theorem AiS (a b : Int) (h1 : 1≤b) (h2 : b≤1000000000) : 0≤AqQ a b∧AqQ a b<b:=by
 have:=Int.tmod_lt_of_pos a (show 0<b by omega)
 have:=Int.lt_tmod_of_pos a (show 0<b by omega)
 unfold AqQ
 rw [if_neg (by omega)]
 split
 ·rw [w64 (by omega) (by omega)]; omega
 ·omega
abbrev Pos (p : Int) : Prop:=0≤p∧p≤1000
theorem AcO (k : Nat) (l : List Int) (p n : Int) (hl : l.length≤1000) (hp : Pos p) : ∃ a q,Aat k l p n=some (a,q)∧Pos q∧(1≤n→n≤1000000000→0≤a∧a<n):=by
 unfold Aat
 by_cases h : (l.length : Int)≤p
 ·rw [if_pos h]; exact ⟨0,p,rfl,hp,fun _ _=>by omega⟩
 ·rw [if_neg h]
  obtain ⟨i,rfl⟩:=Int.eq_ofNat_of_zero_le hp.1
  have e1 : IntKind.wrap .i64 (IntKind.wrap .i64 ((i : Int)+1)-1)=i:=by
   rw [w64 (n:=(i : Int)+1) (by omega) (by omega),w64 (by omega) (by omega)]; omega
  rw [e1,AcJ (by omega),AkH,AaJ,w64 (by omega) (by omega)]
  exact ⟨_,_,rfl,by omega,fun h1 h2=>AiS _ _ h1 h2⟩
theorem Aic (k : Nat) (l : List Int) (hl : l.length≤1000) : ∀ (m n : Nat) (p : Int) (acc : List Int),m<n→Pos p→(∀ x ∈ acc,0≤x∧x≤255)→acc.length+m≤100000 →
 ∃ L q,AbO.L1 k l n (m : Int) p acc=some (L,q)∧Pos q∧(∀ x ∈ L,0≤x∧x≤255)∧L.length=acc.length+m
 | 0,n+1,p,acc,_,hp,h1,_=>by
  rw [AbO.L1,if_neg (by omega)]
  exact ⟨acc,p,rfl,hp,h1,rfl⟩
 | m+1,n+1,p,acc,hn,hp,h1,h2=>by
  rw [AbO.L1,if_pos (by omega)]
  unfold AbS
  obtain ⟨a,q,e,hq,ha⟩:=AcO k l p 7 hl hp
  have ha:=ha (by omega) (by omega)
  rw [show ((([0,1,255,7,128,126,32] : List Int).length : Nat) : Int)=7 from rfl,e,Aaq]
  obtain ⟨j,rfl⟩:=Int.eq_ofNat_of_zero_le ha.1
  rw [AcJ (by simp; omega),Aaq,AaX (by simp; omega),w64 (by omega) (by omega),show (((m+1 : Nat) : Int)-1)=(m : Int) by omega]
  obtain ⟨L,q',e2,h5,h6,h7⟩:=Aic k l hl m n q (acc++[IntKind.wrap .u8 (([0,1,255,7,128,126,32] : List Int)[j]'(by simp; omega))]) (by omega) hq (by
   intro x hx
   rcases List.mem_append.1 hx with hx | hx
   ·exact h1 x hx
   ·simp at hx; rw [hx,AhQ]; omega) (by simp only [List.length_append,List.length_cons,List.length_nil]; omega)
  rw [e2]
  exact ⟨L,q',rfl,h5,h6,by rw [h7]; simp only [List.length_append,List.length_cons,List.length_nil]; omega⟩
theorem AoA (k : Nat) (l : List Int) (p N : Int) (hl : l.length≤1000) (hp : Pos p) (h0 : 0≤N) (h9 : N≤1000) (hk : N<k) : ∃ L q,AbO k l p N=some (L,q)∧Pos q∧(∀ x ∈ L,0≤x∧x≤255)∧(L.length : Int)≤N:=by
 unfold AbO
 rw [w64 (by omega) (by omega)]
 obtain ⟨a,q,e,hq,ha⟩:=AcO k l p (N+1) hl hp
 have ha:=ha (by omega) (by omega)
 rw [e,Aaq]
 obtain ⟨j,rfl⟩:=Int.eq_ofNat_of_zero_le ha.1
 obtain ⟨L,q',e2,h5,h6,h7⟩:=Aic k l hl j k q [] (by omega) hq (by simp) (by simp only [List.length_nil]; omega)
 exact ⟨L,q',e2,h5,h6,by rw [h7]; simp only [List.length_nil]; omega⟩
theorem An6 (k : Nat) (l : List Int) : Afl k l=some (decide ((l.length : Int)≤400)):=rfl
theorem ApL (k : Nat) (l : List Int) : AgM k l=some (l,0):=rfl
end Go.TF
set_option linter.unusedVariables false
set_option linter.unusedSimpArgs false
namespace Go.TF
open Go Go.Abs
def AiZ (v : Int) : Nat→List Int
 | 0=>[]
 | j+1=>(v / 2 ^ (8*j) % 256)::AiZ v j
theorem Ahu (v : Int) : ∀ j,(AiZ v j).length=j
 | 0=>rfl
 | j+1=>by simp [AiZ,Ahu v j]
def enc (v : Int) : List Int:=AiZ v 8
theorem Aa3 (v : Int) : (enc v).length=8:=Ahu v 8
theorem Aml (v : Int) (j : Nat) (hj : j<8) : (v % 18446744073709551616) / 2 ^ (8*j) % 256=v / 2 ^ (8*j) % 256:=by
 have : j=0∨j=1∨j=2∨j=3∨j=4∨j=5∨j=6∨j=7:=by omega
 rcases this with rfl | rfl | rfl | rfl | rfl | rfl | rfl | rfl <;> simp <;> omega
theorem Ak8 (k : Nat) (v : Int) : ∀ (j n : Nat) (acc : List Int),j≤8→j<n→acc.length+j≤20000000000000→Acp.L1 k v n (8*(j : Int)-8) acc=some (acc++AiZ v j)
 | 0,n+1,acc,_,_,_=>by
  rw [Acp.L1,if_neg (by omega)]; simp [AiZ]
 | j+1,n+1,acc,hj,hn,ha=>by
  have e1 : IntKind.wrap .u64 (8*((j+1 : Nat) : Int)-8)=8*(j : Int):=by rw [Aq0 (by omega) (by omega)]; omega
  have e2 : IntKind.wrap .i64 (8*((j+1 : Nat) : Int)-8-8)=8*(j : Int)-8:=by rw [w64 (by omega) (by omega)]; omega
  have e3 : min (8*(j : Int)).toNat 64=8*j:=by omega
  have e4 : IntKind.wrap .u8 (Int.fdiv (IntKind.wrap .u64 v) (2 ^ (8*j)))=v / 2 ^ (8*j) % 256:=by
   rw [AhQ,Aku,Int.fdiv_eq_ediv_of_nonneg _ (by exact Int.pow_nonneg (by omega)),Aml v j (by omega)]
  rw [Acp.L1,if_pos (by omega),e1,AaX (by omega),e3,e4,AaX (by simp; omega),e2,Ak8 k v j n _ (by omega) (by omega) (by simp; omega)]
  simp [AiZ]
theorem AoD (k : Nat) (hk : 8<k) (b : List Int) (v : Int) (hb : b.length≤10000000000000) : Acp k b v=some (b++enc v):=by
 unfold Acp
 exact Ak8 k v 8 k b (by omega) hk (by omega)
theorem AgW (k : Nat) (hk : 8<k) (b : List Int) (v : Int) (hb : b.length≤10000000000000) : Ac7 k b v=some (b++enc v):=by
 unfold Ac7 Abk
 rw [AaX (by omega),AaJ,AoD k hk b v hb,AaJ]
theorem Ahb (k : Nat) (v : Int) : ∀ (j n : Nat) (acc : List Int),j≤8→j<n→acc.length+j≤20000000000000→AbZ.L1 k v n ((j : Int)-1) acc=some (acc++AiZ v j)
 | 0,n+1,acc,_,_,_=>by
  rw [AbZ.L1,if_neg (by omega)]; simp [AiZ]
 | j+1,n+1,acc,hj,hn,ha=>by
  have e0 : IntKind.wrap .i64 (8*(((j+1 : Nat) : Int)-1))=8*(j : Int):=by rw [w64 (by omega) (by omega)]; omega
  have e1 : IntKind.wrap .u64 (8*(j : Int))=8*(j : Int):=Aq0 (by omega) (by omega)
  have e2 : IntKind.wrap .i64 (((j+1 : Nat) : Int)-1-1)=(j : Int)-1:=by rw [w64 (by omega) (by omega)]; omega
  have e3 : min (8*(j : Int)).toNat 64=8*j:=by omega
  have e4 : IntKind.wrap .u8 (Int.fdiv v (2 ^ (8*j)))=v / 2 ^ (8*j) % 256:=by
   rw [AhQ,Int.fdiv_eq_ediv_of_nonneg _ (by exact Int.pow_nonneg (by omega))]
  rw [AbZ.L1,if_pos (by omega),e0,e1,AaX (by omega),e3,e4,AaX (by simp; omega),e2,Ahb k v j n _ (by omega) (by omega) (by simp; omega)]
  simp [AiZ]
theorem AdF (k : Nat) (hk : 8<k) (b : List Int) (v : Int) (hb : b.length≤10000000000000) : AbZ k b v=some (b++enc v):=by
 unfold AbZ
 rw [AaX (by omega)]
 exact Ahb k v 8 k b (by omega) hk (by omega)
theorem AjL (k : Nat) (hk : 8<k) (b : List Int) (s : ByteArray) (hb : b.length≤10000000000000) (hs : s.size≤10000000000000) : Adp k b s=some (b++enc s.size++bI s):=by
 unfold Adp
 rw [AgW k hk b _ hb,AaJ,AaX (by simp [Aa3]; omega)]
theorem Afg (k : Nat) (hk : 8<k) (b : List Int) (s : ByteArray) (hb : b.length≤10000000000000) (hs : s.size≤10000000000000) : AdP k b s=some (b++enc s.size++bI s):=by
 unfold AdP
 rw [AdF k hk b _ hb,AaJ,AaX (by simp [Aa3]; omega)]
theorem AkI (k : Nat) (hk : 8<k) (l : List Int) (hl : l.length≤1000) : ∀ (m i n : Nat) (acc : List Int),i+m=l.length→m<n→acc.length+8*m≤10000000000000→AcQ.L1 k l n (i : Int) acc=some (acc++(l.drop i).flatMap enc)
 | 0,i,n+1,acc,h,_,_=>by
  rw [AcQ.L1,if_neg (by omega),List.drop_of_length_le (by omega)]; simp
 | m+1,i,n+1,acc,h,hn,ha=>by
  have hi : i<l.length:=by omega
  rw [AcQ.L1,if_pos (by omega),AcJ hi,AoD k hk _ _ (by omega),AaJ,w64 (by omega) (by omega)]
  have:=AkI k hk l hl m (i+1) n (acc++enc l[i]) (by omega) (by omega) (by simp [Aa3]; omega)
  rw [show ((i : Int)+1)=((i+1 : Nat) : Int) by omega,this,List.drop_eq_getElem_cons hi,List.flatMap_cons,List.append_assoc]
theorem ApP (k : Nat) (hk : 8<k) (b l : List Int) (hb : b.length≤1000000000000) (hl : l.length<k) (hl2 : l.length≤1000) : AcQ k b l=some (b++enc l.length++l.flatMap enc):=by
 unfold AcQ
 rw [AgW k hk b _ (by omega),AaJ]
 have:=AkI k hk l hl2 l.length 0 k (b++enc l.length) (by omega) hl (by simp [Aa3]; omega)
 simpa using this
theorem Agt (k : Nat) (hk : 8<k) (l : List Int) (hl : l.length≤1000) : ∀ (m i n : Nat) (acc : List Int),i+m=l.length→m<n→acc.length+8*m≤10000000000000→Ab9.L1 k l n (i : Int) acc=some (acc++(l.drop i).flatMap enc)
 | 0,i,n+1,acc,h,_,_=>by
  rw [Ab9.L1,if_neg (by omega),List.drop_of_length_le (by omega)]; simp
 | m+1,i,n+1,acc,h,hn,ha=>by
  have hi : i<l.length:=by omega
  rw [Ab9.L1,if_pos (by omega),AcJ hi,AdF k hk _ _ (by omega),AaJ,w64 (by omega) (by omega)]
  have:=Agt k hk l hl m (i+1) n (acc++enc l[i]) (by omega) (by omega) (by simp [Aa3]; omega)
  rw [show ((i : Int)+1)=((i+1 : Nat) : Int) by omega,this,List.drop_eq_getElem_cons hi,List.flatMap_cons,List.append_assoc]
theorem AlU (k : Nat) (hk : 8<k) (b l : List Int) (hb : b.length≤1000000000000) (hl : l.length<k) (hl2 : l.length≤1000) : Ab9 k b l=some (b++enc l.length++l.flatMap enc):=by
 unfold Ab9
 rw [AdF k hk b _ (by omega),AaJ]
 have:=Agt k hk l hl2 l.length 0 k (b++enc l.length) (by omega) hl (by simp [Aa3]; omega)
 simpa using this
end Go.TF
set_option linter.unusedVariables false
set_option linter.unusedSimpArgs false
namespace Go.TF
open Go Go.Abs
def ArB (rel : Int→Int→Bool) : Option Int→Int→Bool
 | none,_=>true
 | some q,x=>rel q x
@[simp] theorem AqG (rel : Int→Int→Bool) (x : Int) : ArB rel none x=true:=rfl
@[simp] theorem AqF (rel : Int→Int→Bool) (q x : Int) : ArB rel (some q) x=rel q x:=rfl
def Aoa (ok : Int→Bool) (rel : Int→Int→Bool) (p : Option Int) (l : List Int) : Bool :=
 match l with
 | []=>true
 | x::l=>ok x&&ArB rel p x&&Aoa ok rel (some x) l
def prv (l : List Int) (i : Nat) : Option Int:=if i=0 then none else l[i-1]?
theorem AoE (i : Nat) (h0 : 0<i) (h : i<9223372036854775807) : IntKind.wrap .i64 ((i : Int)-1)=((i-1 : Nat) : Int):=by rw [w64 (by omega) (by omega)]; omega
theorem itf {α : Type} (x y : α) : (if (!false)=true then x else y)=x:=rfl
theorem itt {α : Type} (x y : α) : (if (!true)=true then x else y)=y:=rfl
def As7 : Option Int→List Int→Bool:=Aoa (fun x=>decide (1≤x)&&decide (x≤1000)) (fun q x=>decide (x≤q))
def Asd (s t : List Int) (lv : Int) : Int :=
 if s≠[]∧Aoa (fun x=>decide (0≤x)&&decide (x≤63)) (fun q x=>decide (q<x)) none s=true∧1≤t.length∧t.length≤8∧1≤lv∧lv≤3∧As7 none t=true then 0 else 15
def Arb (g s t : List Int) (lv seats span quota : Int) : Int :=
 if okR g=true then (if Asd s t lv=0 then (if 1≤seats∧seats≤9∧1≤span∧span≤1000000∧0≤quota∧quota≤64 then 0 else 40) else Asd s t lv) else 43
structure Aqy (g s t : List Int) (lv seats span quota : Int) : Prop where
 ok : Arb g s t lv seats span quota=0
 gg : ∃ n : Nat,2≤n∧n≤6∧g=([0,1,2,3,4,5,6] : List Int).take n
 ss : s = [0]∨s = [0,1]
 tl : t.length=2
 tv : ∃ a b,t = [a,b]∧a ∈ ([5,9,3] : List Int)∧(b=a∨b ∈ ([3,2,1] : List Int))
 tw : ∃ a b,t = [a,b]∧a ∈ ([5,9,3] : List Int)∧b ∈ ([3,2,1] : List Int)
 lv : lv ∈ ([1,1,2] : List Int)
 seats : seats ∈ ([3,1,4,5,2] : List Int)
 span : span ∈ ([10,20,5,1] : List Int)
 quota : quota ∈ ([1,2,0,5] : List Int)
theorem Aqy.lens {g s t : List Int} {lv seats span quota : Int} (h : Aqy g s t lv seats span quota) : g.length≤10∧s.length≤10∧t.length≤10:=by
 obtain ⟨n,_,h2,rfl⟩:=h.gg
 have:=h.tl
 refine ⟨by simp; omega,?_,by omega⟩
 rcases h.ss with rfl | rfl <;> simp
end Go.TF
set_option linter.unusedVariables false
set_option linter.unusedSimpArgs false
namespace Go.TF
open Go Go.Abs
def bIn (x lo hi : Int) : Bool:=decide (lo≤x)&&decide (x≤hi)
theorem Alu (k : Nat) (x lo hi : Int) : Abv k x lo hi=some (bIn x lo hi):=by
 unfold Abv bIn
 by_cases h : lo≤x <;> simp [h]
theorem Akv (k : Nat) (x : Int) : AbX k x=some (bIn x 0 1099511627776):=by unfold AbX; rw [Alu]; rfl
theorem Ak5 (k : Nat) (x m : Int) : AdY k x m=some (bIn x 0 m):=by
 unfold AdY bIn
 by_cases h : 0≤x <;> simp [h]
theorem AkO (k : Nat) (x : Int) : AeH k x=some (bIn x 0 63):=by
 unfold AeH bIn
 have : decide (x<64)=decide (x≤63):=decide_eq_decide.2 (by omega)
 by_cases h : 0≤x <;> simp [h,this]
def AqJ (p : Option Int) (x : AaD) : Bool:=bIn x.Author 0 63&&ArB (fun q x=>decide (q<x)) p x.Author&&bIn x.Height 1 200&&decide (x.Digest.size=32)
def Agj : Option Int→List AaD→Bool
 | _,[]=>true
 | p,x::l=>AqJ p x&&Agj (some x.Author) l
def AnK (l : List AaD) (i : Nat) : Option Int:=if i=0 then none else (l[i-1]?).map (·.Author)
theorem Ajf {l : List AaD} {i : Nat} (h : i<l.length) : AnK l (i+1)=some l[i].Author:=by simp [AnK,h]
theorem Ak0 (n : Nat) : ((n : Int) !=32) = !decide (n=32):=by
 by_cases h : n=32
 ·subst h; rfl
 ·have : ¬ (n : Int)=32:=by omega
  simp [h,this]
theorem Agi (p : Option Int) (x : AaD) (l : List AaD) : Agj p (x::l)=(AqJ p x&&Agj (some x.Author) l):=by cases p <;> rfl
theorem Ahe (k : Nat) (l : List AaD) (h9 : l.length≤9223372036854775807) : ∀ (m i n : Nat),i+m=l.length→m<n→AaW.L1 k l n (i : Int)=some (Agj (AnK l i) (l.drop i))
 | 0,i,n+1,h,_=>by rw [AaW.L1,if_neg (by omega),List.drop_of_length_le (by omega)]; cases AnK l i <;> rfl
 | m+1,i,n+1,h,hn=>by
  have h1 : i<l.length:=by omega
  have ih:=Ahe k l h9 m (i+1) n (by omega) (by omega)
  rw [Ajf h1] at ih
  rw [AaW.L1,if_pos (by omega),AcJ h1,List.drop_eq_getElem_cons h1,Agi,Alu,AaJ,Alu,AqJ]
  have hj : ∀ b : Bool,AaW.J2 k (i : Int) (fun v=>AaW.L1 k l n v) b=if b=true then some false else some (Agj (some l[i].Author) (l.drop (i+1))):=by
   intro b
   unfold AaW.J2
   rw [AeS i (by omega)]; dsimp only; rw [ih]
  simp only [AaJ,hj]
  cases bIn l[i].Author 0 63
  ·rfl
  rw [itt]
  by_cases c : i=0
  ·subst c
   rw [if_neg (by omega)]
   cases bIn l[0].Height 1 200
   ·rfl
   rw [itt,Ak0]
   cases decide (l[0].Digest.size=32) <;> rfl
  ·have hp : AnK l i=some ((l[i-1]'(by omega)).Author):=by simp [AnK,c,List.getElem?_eq_getElem (show i-1<l.length by omega)]
   rw [if_pos (by omega),AoE i (by omega) (by omega),AcJ (by omega),hp]
   by_cases d : l[i].Author≤l[i-1].Author
   ·rw [if_pos d]
    have : ¬ l[i-1].Author<l[i].Author:=by omega
    simp [this]
   ·rw [if_neg d]
    have : l[i-1].Author<l[i].Author:=by omega
    cases bIn l[i].Height 1 200
    ·simp
    rw [itt,Ak0]
    cases decide (l[i].Digest.size=32) <;> simp [this]
theorem AmF (k : Nat) (l : List AaD) (h9 : l.length≤9223372036854775807) (hk : l.length<k) : AaW k l=some (Agj none l):=Ahe k l h9 l.length 0 k (by omega) hk
theorem AqY (x : Int) (y z : Option Bool) : (if x<1 then y else if 200<x then y else z)=if bIn x 1 200=true then z else y:=by
 unfold bIn
 by_cases a : x<1
 ·rw [if_pos a,if_neg (by simp; omega)]
 ·by_cases b : 200<x
  ·rw [if_neg a,if_pos b,if_neg (by simp; omega)]
  ·rw [if_neg a,if_neg b,if_pos (by simp; omega)]
theorem Ahd (k : Nat) (l : List AaD) (h9 : l.length≤9223372036854775807) : ∀ (m i n : Nat),i+m=l.length→m<n→Aag.L1 k l n (i : Int)=some (Agj (AnK l i) (l.drop i))
 | 0,i,n+1,h,_=>by rw [Aag.L1,if_neg (by omega),List.drop_of_length_le (by omega)]; cases AnK l i <;> rfl
 | m+1,i,n+1,h,hn=>by
  have h1 : i<l.length:=by omega
  have ih:=Ahd k l h9 m (i+1) n (by omega) (by omega)
  rw [Ajf h1] at ih
  rw [Aag.L1,if_pos (by omega),AcJ h1,List.drop_eq_getElem_cons h1,Agi,AkO,AaJ,AqJ]
  have hj : ∀ b : Bool,Aag.J2 k (i : Int) (fun v=>Aag.L1 k l n v) b=if b=true then some false else some (Agj (some l[i].Author) (l.drop (i+1))):=by
   intro b
   unfold Aag.J2
   rw [AeS i (by omega)]; dsimp only; rw [ih]
  simp only [hj,AqY]
  cases bIn l[i].Author 0 63
  ·rfl
  rw [itt]
  by_cases c : i=0
  ·subst c
   rw [if_neg (by omega)]
   cases bIn l[0].Height 1 200
   ·rfl
   rw [if_pos rfl,Ak0]
   cases decide (l[0].Digest.size=32) <;> rfl
  ·have hp : AnK l i=some ((l[i-1]'(by omega)).Author):=by simp [AnK,c,List.getElem?_eq_getElem (show i-1<l.length by omega)]
   rw [if_pos (by omega),AoE i (by omega) (by omega),AcJ (by omega),hp]
   by_cases d : l[i].Author≤l[i-1].Author
   ·rw [if_pos d]
    have : ¬ l[i-1].Author<l[i].Author:=by omega
    simp [this]
   ·rw [if_neg d]
    have : l[i-1].Author<l[i].Author:=by omega
    cases bIn l[i].Height 1 200
    ·simp
    rw [if_pos rfl,Ak0]
    cases decide (l[i].Digest.size=32) <;> simp [this]
theorem AmE (k : Nat) (l : List AaD) (h9 : l.length≤9223372036854775807) (hk : l.length<k) : Aag k l=some (Agj none l):=Ahd k l h9 l.length 0 k (by omega) hk
def AnN (l : List Int) : Bool:=l.all fun x=>bIn x 0 1099511627776
theorem AkD (x : Int) (l : List Int) : AnN (x::l)=(bIn x 0 1099511627776&&AnN l):=by simp [AnN]
theorem AlE (k : Nat) (l : List Int) (h9 : l.length≤9223372036854775807) : ∀ (m i n : Nat),i+m=l.length→m<n→∃ r,AaZ.L1 k l n (i : Int)=some r∧decide (0≤r) = !AnN (l.drop i)
 | 0,i,n+1,h,_=>by rw [AaZ.L1,if_neg (by omega),List.drop_of_length_le (by omega)]; exact ⟨_,rfl,rfl⟩
 | m+1,i,n+1,h,hn=>by
  have h1 : i<l.length:=by omega
  rw [AaZ.L1,if_pos (by omega),AcJ h1,List.drop_eq_getElem_cons h1,AkD]
  unfold Ac9
  rw [Akv,AaJ,AaJ]
  cases e : bIn l[i] 0 1099511627776
  ·exact ⟨_,rfl,by simp⟩
  ·obtain ⟨r,h2,h3⟩:=AlE k l h9 m (i+1) n (by omega) (by omega)
   rw [itt,AeS i (by omega),h2]
   exact ⟨r,rfl,by rw [h3]; simp⟩
theorem Aox (k : Nat) (l : List Int) (h9 : l.length≤9223372036854775807) (hk : l.length<k) : Aa6 k l=some (!AnN l):=by
 obtain ⟨r,h2,h3⟩:=AlE k l h9 l.length 0 k (by omega) hk
 unfold Aa6 AaZ
 rw [show (0 : Int)=((0 : Nat) : Int) from rfl,h2,AaJ]
 exact congrArg some h3
def Ahk (author time kind A B C : Int) : Bool :=
 if kind=1 then bIn A 0 63&&decide (A≠author)&&bIn B 1 3&&bIn C time 2147483648
 else if kind=2 then bIn A 0 199&&decide (B=0)&&decide (C=0)
 else if kind=3 then decide (A=0)&&decide (B=0)&&decide (C=0)
 else true
theorem As2 (x : Int) : (x==0)=decide (x=0):=by by_cases h : x=0 <;> simp [h]
theorem Anl (k : Nat) (author num : Int) (prev : ByteArray) (time kind A B C : Int) (l : List Int) (pins : List AaD) (body : ByteArray) (sk : Int) (sd : ByteArray) :
 Ace k author num prev time kind A B C l pins body sk sd=some (Ahk author time kind A B C):=by
 unfold Ace Ahk
 simp only [Alu,AaJ,As2]
 by_cases k1 : kind=1
 ·rw [if_pos k1,if_pos k1]
  cases bIn A 0 63 <;> simp
  by_cases e : A=author <;> simp [e]
  cases bIn B 1 3 <;> simp
 rw [if_neg k1,if_neg k1]
 by_cases k2 : kind=2
 ·rw [if_pos k2,if_pos k2]
  cases bIn A 0 199 <;> simp
  by_cases e : B=0 <;> simp [e]
 rw [if_neg k2,if_neg k2]
 by_cases k3 : kind=3
 ·rw [if_pos k3,if_pos k3]
  by_cases e : A=0 <;> simp [e]
  by_cases e : B=0 <;> simp [e]
 rw [if_neg k3,if_neg k3]
theorem Agv (k : Nat) (author time kind A B C : Int) (l : List Int) (h9 : l.length≤9223372036854775807) : ∀ (m i n : Nat),i+m=l.length→m<n →
 AbV.L1 k author time kind A B C l n (i : Int)=some (AnN (l.drop i)&&Ahk author time kind A B C)
 | 0,i,n+1,h,_=>by
  rw [AbV.L1,if_neg (by omega),List.drop_of_length_le (by omega)]
  unfold Ahk
  simp only [AkO,Ak5,AaJ,As2,AnN,List.all_nil,Bool.true_and]
  by_cases k1 : kind=1
  ·rw [if_pos k1,if_pos k1]
   cases bIn A 0 63 <;> simp
   by_cases e : A=author <;> simp [e]
   unfold bIn
   by_cases b1 : 1≤B <;> simp [b1]
   by_cases b2 : B≤3 <;> simp [b2]
   by_cases c1 : time≤C <;> simp [c1]
  rw [if_neg k1,if_neg k1]
  by_cases k2 : kind=2
  ·rw [if_pos k2,if_pos k2]
   cases bIn A 0 199 <;> simp
   by_cases e : B=0 <;> simp [e]
  rw [if_neg k2,if_neg k2]
  by_cases k3 : kind=3
  ·rw [if_pos k3,if_pos k3]
   by_cases e : A=0 <;> simp [e]
   by_cases e : B=0 <;> simp [e]
  rw [if_neg k3,if_neg k3]
 | m+1,i,n+1,h,hn=>by
  have h1 : i<l.length:=by omega
  rw [AbV.L1,if_pos (by omega),AcJ h1,List.drop_eq_getElem_cons h1,Ak5,AaJ,AkD]
  cases bIn l[i] 0 1099511627776
  ·rfl
  rw [itt,AeS i (by omega),Agv k author time kind A B C l h9 m (i+1) n (by omega) (by omega)]
  simp
def Alc (author num time kind A B C : Int) (l : List Int) : Bool:=bIn num 0 199&&bIn A 0 1099511627776&&bIn B 0 1099511627776&&bIn C 0 1099511627776&&Ahk author time kind A B C&&AnN l
theorem Ald (k : Nat) (author num : Int) (prev : ByteArray) (time kind A B C : Int) (l : List Int) (pins : List AaD) (body : ByteArray) (sk : Int) (sd : ByteArray) (h9 : l.length≤9223372036854775807) (hk : l.length<k) :
 AbV k author num prev time kind A B C l pins body sk sd=some (Alc author num time kind A B C l):=by
 unfold AbV Alc
 have:=Agv k author time kind A B C l h9 l.length 0 k (by omega) hk
 simp only [Ak5,AaJ]
 rw [show (0 : Int)=((0 : Nat) : Int) from rfl] at *
 rw [this]
 cases bIn num ((0 : Nat) : Int) 199
 ·rfl
 cases bIn A ((0 : Nat) : Int) 1099511627776
 ·rfl
 cases bIn B ((0 : Nat) : Int) 1099511627776
 ·rfl
 cases bIn C ((0 : Nat) : Int) 1099511627776
 ·rfl
 simp [Bool.and_comm]
def Alm (num : Int) (prev : ByteArray) (kind : Int) (l : List Int) (pins : List AaD) (body : ByteArray) : Bool :=
 (if num=0 then Abo prev (ByteArray.mk #[]) else if 0<num then decide (prev.size=32) else true)&&Agj none pins && !(decide (kind≤3)&&(!l.isEmpty || !pins.isEmpty || !Abo body (ByteArray.mk #[])))
def AnM (author num : Int) (prev : ByteArray) (time kind A B C : Int) (l : List Int) (pins : List AaD) (body : ByteArray) : Int :=
 if bIn author 0 63=true then
  if (bIn kind 1 3||bIn kind 10 31)=true then
   if bIn time 0 2147483648=true then
    if Alc author num time kind A B C l=true then
     if l.length≤64∧pins.length≤64∧body.size≤4096 then
      if Alm num prev kind l pins body=true then 0 else 1
     else 3
    else 2
   else 9
  else 5
 else 4
theorem Aia (b : ByteArray) : Abo b (ByteArray.mk #[])=decide (b.size=0):=by
 by_cases h : b.size=0
 ·have : b=ByteArray.mk #[]:=by
   obtain ⟨a⟩:=b
   have : a.size=0:=h
   rw [Array.size_eq_zero_iff.1 this]
  subst this; rfl
 ·have : ¬ Abo b (ByteArray.mk #[])=true:=by
   rw [AjZ]; rintro rfl; exact h rfl
  simp [h,this]
theorem Ana (l : List Int) (pins : List AaD) (body : ByteArray) (h1 : l.length≤64) (h2 : pins.length≤64) (h3 : body.size≤4096) :
 decide (0<IntKind.wrap .i64 (IntKind.wrap .i64 ((l.length : Int)+(pins.length : Int))+(body.size : Int)))=(!l.isEmpty || !pins.isEmpty || !Abo body (ByteArray.mk #[])):=by
 rw [w64 (n:=(l.length : Int)+pins.length) (by omega) (by omega),w64 (by omega) (by omega),Aia]
 cases l with
 | cons x l=>simp; omega
 | nil=>cases pins with
  | cons x p=>simp; omega
  | nil =>
   by_cases h : body.size=0
   ·simp [h]
   ·have : 0<body.size:=by omega
    simp [h,this]
theorem AoC (k : Nat) (num : Int) (prev : ByteArray) (kind : Int) (l : List Int) (pins : List AaD) (body : ByteArray) (h2 : pins.length<k) (J : Bool→Option Int) (hJ : ∀ b,J b=if b=true then some 1 else some 0) :
 (if 64<(l.length : Int) then some 3 else if 64<(pins.length : Int) then some 3 else if 4096<(body.size : Int) then some 3 else
  if num=0 then
   if (!Abo prev (ByteArray.mk #[]))=true then J true
   else if 0<num then none
   else AbI (AaW k pins) fun v=>if (!v)=true then J true else if kind≤3 then J (decide (0<IntKind.wrap .i64 (IntKind.wrap .i64 ((l.length : Int)+(pins.length : Int))+(body.size : Int)))) else J false
  else if 0<num then
   if (prev.size : Int)≠32 then J true
   else AbI (AaW k pins) fun v=>if (!v)=true then J true else if kind≤3 then J (decide (0<IntKind.wrap .i64 (IntKind.wrap .i64 ((l.length : Int)+(pins.length : Int))+(body.size : Int)))) else J false
  else AbI (AaW k pins) fun v=>if (!v)=true then J true else if kind≤3 then J (decide (0<IntKind.wrap .i64 (IntKind.wrap .i64 ((l.length : Int)+(pins.length : Int))+(body.size : Int)))) else J false) =
 some (if l.length≤64∧pins.length≤64∧body.size≤4096 then (if Alm num prev kind l pins body=true then 0 else 1) else 3):=by
 by_cases a1 : 64<(l.length : Int)
 ·rw [if_pos a1,if_neg (by omega)]
 by_cases a2 : 64<(pins.length : Int)
 ·rw [if_neg a1,if_pos a2,if_neg (by omega)]
 by_cases a3 : 4096<(body.size : Int)
 ·rw [if_neg a1,if_neg a2,if_pos a3,if_neg (by omega)]
 rw [if_neg a1,if_neg a2,if_neg a3,if_pos (show l.length≤64∧pins.length≤64∧body.size≤4096 from ⟨by omega,by omega,by omega⟩),AmF k pins (by omega) h2]
 simp only [AaJ,hJ,Ana l pins body (by omega) (by omega) (by omega)]
 unfold Alm
 generalize (!l.isEmpty || !pins.isEmpty || !Abo body (ByteArray.mk #[]))=q
 generalize Agj none pins=p
 by_cases n0 : num=0
 ·subst n0
  generalize Abo prev (ByteArray.mk #[])=e
  by_cases k3 : kind≤3 <;> cases e <;> cases p <;> cases q <;> simp [k3]
 by_cases n1 : 0<num
 ·by_cases z : prev.size=32
  ·have z' : (prev.size : Int)=32:=by omega
   by_cases k3 : kind≤3 <;> cases p <;> cases q <;> simp [k3,n0,n1,z,z']
  ·have z' : ¬ (prev.size : Int)=32:=by omega
   by_cases k3 : kind≤3 <;> cases p <;> cases q <;> simp [k3,n0,n1,z,z']
 ·by_cases k3 : kind≤3 <;> cases p <;> cases q <;> simp [k3,n0,n1]
theorem Aks (k : Nat) (author num : Int) (prev : ByteArray) (time kind A B C : Int) (l : List Int) (pins : List AaD) (body : ByteArray) (sk : Int) (sd : ByteArray) (h9 : l.length≤9223372036854775807) (hk : l.length<k) (h2 : pins.length<k) :
 AaQ k author num prev time kind A B C l pins body sk sd=some (AnM author num prev time kind A B C l pins body):=by
 unfold AaQ AnM
 simp only [Alu,Akv,Anl,Aox k l h9 hk,AaJ,AoC k num prev kind l pins body h2 (AaQ.J2 k) (fun b=>by unfold AaQ.J2 AaQ.J1; rfl),
  AoC k num prev kind l pins body h2 (AaQ.J3 k) (fun b=>by unfold AaQ.J3 AaQ.J1; rfl)]
 unfold Alc
 generalize (if l.length≤64∧pins.length≤64∧body.size≤4096 then (if Alm num prev kind l pins body=true then (0 : Int) else 1) else 3)=R
 cases bIn author 0 63
 ·rfl
 simp only [itt,if_true]
 cases bIn kind 1 3
 ·simp only [itf,Bool.false_or]
  cases bIn kind 10 31
  ·rfl
  simp only [itt,if_true]
  cases bIn time 0 2147483648
  ·rfl
  simp only [itt,if_true]
  cases bIn num 0 199
  ·rfl
  cases bIn A 0 1099511627776
  ·rfl
  cases bIn B 0 1099511627776
  ·rfl
  cases bIn C 0 1099511627776
  ·rfl
  cases Ahk author time kind A B C
  ·rfl
  cases AnN l <;> rfl
 ·simp only [itt,Bool.true_or,if_true]
  cases bIn time 0 2147483648
  ·rfl
  simp only [itt,if_true]
  cases bIn num 0 199
  ·rfl
  cases bIn A 0 1099511627776
  ·rfl
  cases bIn B 0 1099511627776
  ·rfl
  cases bIn C 0 1099511627776
  ·rfl
  cases Ahk author time kind A B C
  ·rfl
  cases AnN l <;> rfl
theorem AtL (k : Nat) (kind : Int) (l : List Int) (pins : List AaD) (body : ByteArray) (b : Bool) : Aav.J3 k kind l pins body b =
 if b=true then some 1 else if (decide (kind≤3)&&(!l.isEmpty || !pins.isEmpty || !Abo body (ByteArray.mk #[])))=true then some 1 else some 0:=by
 unfold Aav.J3 Aav.J1
 cases b
 ·simp only [Bool.false_eq_true,if_false]
  by_cases k3 : kind≤3
  ·rw [if_pos k3]
   cases l with
   | cons x l=>rw [if_pos (by simp)]; simp [k3]
   | nil=>cases pins with
    | cons x p=>rw [if_neg (by simp),if_pos (by simp)]; simp [k3]
    | nil =>
     rw [if_neg (by simp),if_neg (by simp)]
     cases Abo body (ByteArray.mk #[]) <;> simp [k3]
  ·rw [if_neg k3]; simp [k3]
 ·rfl
theorem AqW (kind : Int) (x : Bool→Option Int) : (if kind<1 then x true else if 3<kind then (if kind<10 then x true else x (decide (31<kind))) else x (decide (31<kind)))=x (!(bIn kind 1 3||bIn kind 10 31)):=by
 unfold bIn
 by_cases a : kind<1
 ·rw [if_pos a]; congr 1; symm; simp; try omega
 rw [if_neg a]
 by_cases b : 3<kind
 ·rw [if_pos b]
  by_cases c : kind<10
  ·rw [if_pos c]; congr 1; symm; simp; try omega
  ·rw [if_neg c]; congr 1
   by_cases d : 31<kind
   ·simp [d]; try omega
   ·simp [d]; try omega
 ·rw [if_neg b]; congr 1
  have : ¬ 31<kind:=by omega
  simp [this]; try omega
theorem AjN (k : Nat) (author num : Int) (prev : ByteArray) (time kind A B C : Int) (l : List Int) (pins : List AaD) (body : ByteArray) (sk : Int) (sd : ByteArray) (h9 : l.length≤9223372036854775807) (hk : l.length<k) (h2 : pins.length<k) :
 Aav k author num prev time kind A B C l pins body sk sd=some (AnM author num prev time kind A B C l pins body):=by
 unfold Aav AnM
 rw [AkO,AaJ]
 cases bIn author 0 63
 ·rfl
 rw [itt,if_pos rfl,AqW kind (fun b=>Aav.J2 k author num prev time kind A B C l pins body sk sd b)]
 unfold Aav.J2
 cases (bIn kind 1 3||bIn kind 10 31)
 ·rfl
 rw [if_neg (by simp),if_pos rfl,Ak5,AaJ]
 cases bIn time 0 2147483648
 ·rfl
 rw [itt,if_pos rfl,Ald k _ _ _ _ _ _ _ _ l _ _ _ _ h9 hk,AaJ]
 cases Alc author num time kind A B C l
 ·rfl
 rw [itt,if_pos rfl]
 by_cases a1 : 64<(l.length : Int)
 ·rw [if_pos a1,if_neg (by omega)]
 by_cases a2 : 64<(pins.length : Int)
 ·rw [if_neg a1,if_pos a2,if_neg (by omega)]
 by_cases a3 : 4096<(body.size : Int)
 ·rw [if_neg a1,if_neg a2,if_pos a3,if_neg (by omega)]
 rw [if_neg a1,if_neg a2,if_neg a3,if_pos (show l.length≤64∧pins.length≤64∧body.size≤4096 from ⟨by omega,by omega,by omega⟩),AmE k pins (by omega) h2]
 simp only [AaJ,AtL]
 unfold Alm
 generalize (decide (kind≤3)&&(!l.isEmpty || !pins.isEmpty || !Abo body (ByteArray.mk #[])))=q
 generalize Agj none pins=p
 by_cases n0 : num=0
 ·subst n0
  generalize Abo prev (ByteArray.mk #[])=e
  cases e <;> cases p <;> cases q <;> simp
 by_cases n1 : 0<num
 ·by_cases z : prev.size=32
  ·have z' : (prev.size : Int)=32:=by omega
   cases p <;> cases q <;> simp [n0,n1,z,z']
  ·have z' : ¬ (prev.size : Int)=32:=by omega
   cases p <;> cases q <;> simp [n0,n1,z,z']
 ·cases p <;> cases q <;> simp [n0,n1]
end Go.TF
set_option linter.unusedVariables false
set_option linter.unusedSimpArgs false
set_option maxRecDepth 4000
namespace Go.TF
open Go Go.Abs
theorem AdH (a b : Int) : AaK .or .u32 a b=AaK .or .u32 b a:=by
 simp only [AaK]; rw [BitVec.or_comm]
def Ad2 (x : Int) (n : Nat) : Int:=AaK .or .u32 (Int.fdiv x (2 ^ n)) (IntKind.wrap .u32 (x*2 ^ (32-n)))
theorem Arg (k : Nat) (x : Int) : AaS k x 6=some (Ad2 x 6):=by
 unfold AaS Aax Ad2
 have e : AaK .and .u64 (IntKind.wrap .u64 (IntKind.wrap .i64 (-6))) 31=26:=by decide
 rw [e,show IntKind.wrap .u64 (32-(26 : Int))=6 by decide,AaX (by omega),AaX (by omega),AaJ,AdH]
 rfl
theorem Ard (k : Nat) (x : Int) : Aa5 k x 6=some (Ad2 x 6):=by
 unfold Aa5 Ad2
 rw [show IntKind.wrap .u64 (32-(6 : Int))=26 by decide,AaX (by omega),AaX (by omega)]
 rfl
theorem AqC (k : Nat) (x : Int) : AaS k x 11=some (Ad2 x 11):=by
 unfold AaS Aax Ad2
 have e : AaK .and .u64 (IntKind.wrap .u64 (IntKind.wrap .i64 (-11))) 31=21:=by decide
 rw [e,show IntKind.wrap .u64 (32-(21 : Int))=11 by decide,AaX (by omega),AaX (by omega),AaJ,AdH]
 rfl
theorem Ap5 (k : Nat) (x : Int) : Aa5 k x 11=some (Ad2 x 11):=by
 unfold Aa5 Ad2
 rw [show IntKind.wrap .u64 (32-(11 : Int))=21 by decide,AaX (by omega),AaX (by omega)]
 rfl
theorem Ap6 (k : Nat) (x : Int) : AaS k x 25=some (Ad2 x 25):=by
 unfold AaS Aax Ad2
 have e : AaK .and .u64 (IntKind.wrap .u64 (IntKind.wrap .i64 (-25))) 31=7:=by decide
 rw [e,show IntKind.wrap .u64 (32-(7 : Int))=25 by decide,AaX (by omega),AaX (by omega),AaJ,AdH]
 rfl
theorem Apz (k : Nat) (x : Int) : Aa5 k x 25=some (Ad2 x 25):=by
 unfold Aa5 Ad2
 rw [show IntKind.wrap .u64 (32-(25 : Int))=7 by decide,AaX (by omega),AaX (by omega)]
 rfl
theorem Arh (k : Nat) (x : Int) : AaS k x 2=some (Ad2 x 2):=by
 unfold AaS Aax Ad2
 have e : AaK .and .u64 (IntKind.wrap .u64 (IntKind.wrap .i64 (-2))) 31=30:=by decide
 rw [e,show IntKind.wrap .u64 (32-(30 : Int))=2 by decide,AaX (by omega),AaX (by omega),AaJ,AdH]
 rfl
theorem Are (k : Nat) (x : Int) : Aa5 k x 2=some (Ad2 x 2):=by
 unfold Aa5 Ad2
 rw [show IntKind.wrap .u64 (32-(2 : Int))=30 by decide,AaX (by omega),AaX (by omega)]
 rfl
theorem AqB (k : Nat) (x : Int) : AaS k x 13=some (Ad2 x 13):=by
 unfold AaS Aax Ad2
 have e : AaK .and .u64 (IntKind.wrap .u64 (IntKind.wrap .i64 (-13))) 31=19:=by decide
 rw [e,show IntKind.wrap .u64 (32-(19 : Int))=13 by decide,AaX (by omega),AaX (by omega),AaJ,AdH]
 rfl
theorem Ap4 (k : Nat) (x : Int) : Aa5 k x 13=some (Ad2 x 13):=by
 unfold Aa5 Ad2
 rw [show IntKind.wrap .u64 (32-(13 : Int))=19 by decide,AaX (by omega),AaX (by omega)]
 rfl
theorem Ap7 (k : Nat) (x : Int) : AaS k x 22=some (Ad2 x 22):=by
 unfold AaS Aax Ad2
 have e : AaK .and .u64 (IntKind.wrap .u64 (IntKind.wrap .i64 (-22))) 31=10:=by decide
 rw [e,show IntKind.wrap .u64 (32-(10 : Int))=22 by decide,AaX (by omega),AaX (by omega),AaJ,AdH]
 rfl
theorem Ap0 (k : Nat) (x : Int) : Aa5 k x 22=some (Ad2 x 22):=by
 unfold Aa5 Ad2
 rw [show IntKind.wrap .u64 (32-(22 : Int))=10 by decide,AaX (by omega),AaX (by omega)]
 rfl
theorem Arf (k : Nat) (x : Int) : AaS k x 7=some (Ad2 x 7):=by
 unfold AaS Aax Ad2
 have e : AaK .and .u64 (IntKind.wrap .u64 (IntKind.wrap .i64 (-7))) 31=25:=by decide
 rw [e,show IntKind.wrap .u64 (32-(25 : Int))=7 by decide,AaX (by omega),AaX (by omega),AaJ,AdH]
 rfl
theorem Arc (k : Nat) (x : Int) : Aa5 k x 7=some (Ad2 x 7):=by
 unfold Aa5 Ad2
 rw [show IntKind.wrap .u64 (32-(7 : Int))=25 by decide,AaX (by omega),AaX (by omega)]
 rfl
theorem Ap9 (k : Nat) (x : Int) : AaS k x 18=some (Ad2 x 18):=by
 unfold AaS Aax Ad2
 have e : AaK .and .u64 (IntKind.wrap .u64 (IntKind.wrap .i64 (-18))) 31=14:=by decide
 rw [e,show IntKind.wrap .u64 (32-(14 : Int))=18 by decide,AaX (by omega),AaX (by omega),AaJ,AdH]
 rfl
theorem Ap2 (k : Nat) (x : Int) : Aa5 k x 18=some (Ad2 x 18):=by
 unfold Aa5 Ad2
 rw [show IntKind.wrap .u64 (32-(18 : Int))=14 by decide,AaX (by omega),AaX (by omega)]
 rfl
theorem AqA (k : Nat) (x : Int) : AaS k x 17=some (Ad2 x 17):=by
 unfold AaS Aax Ad2
 have e : AaK .and .u64 (IntKind.wrap .u64 (IntKind.wrap .i64 (-17))) 31=15:=by decide
 rw [e,show IntKind.wrap .u64 (32-(15 : Int))=17 by decide,AaX (by omega),AaX (by omega),AaJ,AdH]
 rfl
theorem Ap3 (k : Nat) (x : Int) : Aa5 k x 17=some (Ad2 x 17):=by
 unfold Aa5 Ad2
 rw [show IntKind.wrap .u64 (32-(17 : Int))=15 by decide,AaX (by omega),AaX (by omega)]
 rfl
theorem Ap8 (k : Nat) (x : Int) : AaS k x 19=some (Ad2 x 19):=by
 unfold AaS Aax Ad2
 have e : AaK .and .u64 (IntKind.wrap .u64 (IntKind.wrap .i64 (-19))) 31=13:=by decide
 rw [e,show IntKind.wrap .u64 (32-(13 : Int))=19 by decide,AaX (by omega),AaX (by omega),AaJ,AdH]
 rfl
theorem Ap1 (k : Nat) (x : Int) : Aa5 k x 19=some (Ad2 x 19):=by
 unfold Aa5 Ad2
 rw [show IntKind.wrap .u64 (32-(19 : Int))=13 by decide,AaX (by omega),AaX (by omega)]
 rfl
def w32 (x : Int) : Int:=IntKind.wrap .u32 x
theorem Al5 (x : Int) : w32 x=x % 4294967296:=by simp [w32,IntKind.wrap]
theorem AoX (a b : Int) : w32 (a+w32 b)=w32 (a+b):=by simp only [Al5]; omega
theorem AnQ (a b : Int) : w32 (w32 a+b)=w32 (a+b):=by simp only [Al5]; omega
def As5 (b : List Int) (i : Nat) : Int :=
 AaK .or .u32 (AaK .or .u32 (AaK .or .u32 (IntKind.wrap .u32 ((IntKind.wrap .u32 (b.getD (4*i) 0))*2 ^ (24))) (IntKind.wrap .u32 ((IntKind.wrap .u32 (b.getD (4*i+1) 0))*2 ^ (16)))) (IntKind.wrap .u32 ((IntKind.wrap .u32 (b.getD (4*i+2) 0))*2 ^ (8)))) (IntKind.wrap .u32 (b.getD (4*i+3) 0))
def Ag4 (b : List Int) : Nat→Nat→List Int→List Int
 | 0,_,w=>w
 | m+1,i,w=>Ag4 b m (i+1) (w.set i (As5 b i))
theorem AfI (b : List Int) : ∀ (m i : Nat) (w : List Int),(Ag4 b m i w).length=w.length
 | 0,_,_=>rfl
 | m+1,i,w=>by rw [Ag4,AfI]; simp
theorem Ant {l : List Int} {i : Nat} (h : i<l.length) : l[i]=l.getD i 0:=by simp [h]
theorem Ab4 {β : Type} {l : List Int} {i : Nat} {f : Int→Option β} (h : i<l.length) : idx l (i : Int) f=f (l.getD i 0):=by rw [AcJ h,Ant h]
theorem w4 (i j : Nat) (h : i<1000) (hj : j<10) : IntKind.wrap .i64 (IntKind.wrap .i64 (4*(i : Int))+j)=((4*i+j : Nat) : Int):=by
 rw [w64 (n:=4*(i : Int)) (by omega) (by omega),w64 (by omega) (by omega)]; omega
theorem w40 (i : Nat) (h : i<1000) : IntKind.wrap .i64 (4*(i : Int))=((4*i : Nat) : Int):=by
 rw [w64 (by omega) (by omega)]; omega
theorem Al3 (k : Nat) (v0 b v2 : List Int) (hb : b.length=64) : ∀ (m i n : Nat) (w : List Int),i+m=16→m<n→w.length=64 →
 AaN.L1 k v0 b v2 n (i : Int) w=AaN.L2 k v0 v2 k 16 (Ag4 b m i w)
 | 0,i,n+1,w,h,_,hw=>by rw [AaN.L1,if_neg (by omega)]; rfl
 | m+1,i,n+1,w,h,hn,hw=>by
  rw [AaN.L1,if_pos (by omega),w40 i (by omega),Ab4 (by omega),
   show (IntKind.wrap .i64 (((4*i : Nat) : Int)+1))=((4*i+1 : Nat) : Int) by rw [w64 (by omega) (by omega)]; omega,Ab4 (by omega),
   show (IntKind.wrap .i64 (((4*i : Nat) : Int)+2))=((4*i+2 : Nat) : Int) by rw [w64 (by omega) (by omega)]; omega,Ab4 (by omega),
   show (IntKind.wrap .i64 (((4*i : Nat) : Int)+3))=((4*i+3 : Nat) : Int) by rw [w64 (by omega) (by omega)]; omega,Ab4 (by omega),
   AaX ⟨by omega,by omega,by rw [Int.toNat_natCast]; omega⟩,AeS i (by omega),Int.toNat_natCast,Al3 k v0 b v2 hb m (i+1) n _ (by omega) (by omega) (by simp [hw])]
  rfl
theorem Al2 (k : Nat) (v0 b v2 : List Int) (hb : b.length=64) : ∀ (m i n : Nat) (w : List Int),i+m=16→m<n→w.length=64 →
 Aad.L1 k v0 b v2 n (i : Int) w=Aad.L2 k v0 v2 k 16 (Ag4 b m i w)
 | 0,i,n+1,w,h,_,hw=>by rw [Aad.L1,if_neg (by omega)]; rfl
 | m+1,i,n+1,w,h,hn,hw=>by
  rw [Aad.L1,if_pos (by omega),w40 i (by omega),Ab4 (by omega),
   show (IntKind.wrap .i64 (((4*i : Nat) : Int)+1))=((4*i+1 : Nat) : Int) by rw [w64 (by omega) (by omega)]; omega,Ab4 (by omega),
   show (IntKind.wrap .i64 (((4*i : Nat) : Int)+2))=((4*i+2 : Nat) : Int) by rw [w64 (by omega) (by omega)]; omega,Ab4 (by omega),
   show (IntKind.wrap .i64 (((4*i : Nat) : Int)+3))=((4*i+3 : Nat) : Int) by rw [w64 (by omega) (by omega)]; omega,Ab4 (by omega),
   AaX ⟨by omega,by rw [Int.toNat_natCast]; omega⟩,AeS i (by omega),Int.toNat_natCast,Al2 k v0 b v2 hb m (i+1) n _ (by omega) (by omega) (by simp [hw])]
  rfl
def sig (w : List Int) (i : Nat) : Int :=
 IntKind.wrap .u32 (IntKind.wrap .u32 (IntKind.wrap .u32 (w.getD (i-16) 0+AaK .xor .u32 (AaK .xor .u32 (Ad2 (w.getD (i-15) 0) 7) (Ad2 (w.getD (i-15) 0) 18)) (Int.fdiv (w.getD (i-15) 0) (2 ^ (3))))+w.getD (i-7) 0)+AaK .xor .u32 (AaK .xor .u32 (Ad2 (w.getD (i-2) 0) 17) (Ad2 (w.getD (i-2) 0) 19)) (Int.fdiv (w.getD (i-2) 0) (2 ^ (10))))
def Ajc : Nat→Nat→List Int→List Int
 | 0,_,w=>w
 | m+1,i,w=>Ajc m (i+1) (w.set i (sig w i))
theorem AhY : ∀ (m i : Nat) (w : List Int),(Ajc m i w).length=w.length
 | 0,_,_=>rfl
 | m+1,i,w=>by rw [Ajc,AhY]; simp
theorem AoB (i j : Nat) (h : i<1000) (hj : j≤i) : IntKind.wrap .i64 ((i : Int)-j)=((i-j : Nat) : Int):=by rw [w64 (by omega) (by omega)]; omega
theorem AmB (k : Nat) (v0 v2 : List Int) (h0 : v0.length=8) : ∀ (m i n : Nat) (w : List Int),i+m=64→16≤i→m<n→w.length=64 →
 AaN.L2 k v0 v2 n (i : Int) w=AaN.L3 k v0 v2 (Ajc m i w) k 0 v0
 | 0,i,n+1,w,h,_,_,hw=>by rw [AaN.L2,if_neg (by omega),AaX h0,AaX ⟨rfl,h0⟩]; rfl
 | m+1,i,n+1,w,h,hi,hn,hw=>by
  have e15:=AoB i 15 (by omega) (by omega)
  have e2:=AoB i 2 (by omega) (by omega)
  have e16:=AoB i 16 (by omega) (by omega)
  have e7:=AoB i 7 (by omega) (by omega)
  simp only [Int.cast_ofNat_Int] at e15 e2 e16 e7
  rw [AaN.L2,if_pos (by omega),e15,e2,e16,e7,
   AaX ⟨by omega,by omega,by rw [Int.toNat_natCast]; omega⟩,Ab4 (by omega),AaX ⟨by omega,by omega,by rw [Int.toNat_natCast]; omega⟩,Ab4 (by omega),
   AaX ⟨by omega,by omega,by rw [Int.toNat_natCast]; omega⟩,Ab4 (by omega),Arf,AaJ,Ap9,AaJ,AaX ⟨by omega,by omega,by rw [Int.toNat_natCast]; omega⟩,Ab4 (by omega),AqA,AaJ,Ap8,AaJ,
   AaX ⟨by omega,by omega,by rw [Int.toNat_natCast]; omega⟩,AeS i (by omega),Int.toNat_natCast,AmB k v0 v2 h0 m (i+1) n _ (by omega) (by omega) (by omega) (by simp [hw])]
  rfl
theorem AmA (k : Nat) (v0 v2 : List Int) (h0 : v0.length=8) : ∀ (m i n : Nat) (w : List Int),i+m=64→16≤i→m<n→w.length=64 →
 Aad.L2 k v0 v2 n (i : Int) w=Aad.L3 k v0 v2 (Ajc m i w) k 0 v0
 | 0,i,n+1,w,h,_,_,hw=>by rw [Aad.L2,if_neg (by omega),AaX (by omega)]; rfl
 | m+1,i,n+1,w,h,hi,hn,hw=>by
  have e15:=AoB i 15 (by omega) (by omega)
  have e2:=AoB i 2 (by omega) (by omega)
  have e16:=AoB i 16 (by omega) (by omega)
  have e7:=AoB i 7 (by omega) (by omega)
  simp only [Int.cast_ofNat_Int] at e15 e2 e16 e7
  have c : ∀ (j : Nat) (x : Option (List Int)),j<64→chk ((0 : Int)≤(j : Int)∧((j : Int)).toNat<w.length) x=x:=fun j x hj=>AaX ⟨by omega,by rw [Int.toNat_natCast]; omega⟩
  rw [Aad.L2,if_pos (by omega),e15,e2,e16,e7,c _ _ (by omega),Ab4 (by omega),Arc,AaJ,c _ _ (by omega),Ap2,AaJ,c _ _ (by omega),c _ _ (by omega),Ab4 (by omega),Ap3,AaJ,
   c _ _ (by omega),Ap1,AaJ,c _ _ (by omega),c _ _ (by omega),Ab4 (by omega),c _ _ (by omega),Ab4 (by omega),c _ _ (by omega),AeS i (by omega),Int.toNat_natCast,AmA k v0 v2 h0 m (i+1) n _ (by omega) (by omega) (by omega) (by simp [hw])]
  rfl
def ArT (x : List Int) (kk ww : Int) : Int :=
 w32 (w32 (w32 (w32 (x.getD 7 0+AaK .xor .u32 (AaK .xor .u32 (Ad2 (x.getD 4 0) 6) (Ad2 (x.getD 4 0) 11)) (Ad2 (x.getD 4 0) 25))+AaK .xor .u32 (AaK .and .u32 (x.getD 4 0) (x.getD 5 0)) (AaK .and .u32 (AaK .xor .u32 (IntKind.max .u32) (x.getD 4 0)) (x.getD 6 0)))+kk)+ww)
def AsF (x : List Int) : Int :=
 AaK .xor .u32 (AaK .xor .u32 (Ad2 (x.getD 0 0) 2) (Ad2 (x.getD 0 0) 13)) (Ad2 (x.getD 0 0) 22)+AaK .xor .u32 (AaK .xor .u32 (AaK .and .u32 (x.getD 0 0) (x.getD 1 0)) (AaK .and .u32 (x.getD 0 0) (x.getD 2 0))) (AaK .and .u32 (x.getD 1 0) (x.getD 2 0))
def Asa (x : List Int) (kk ww : Int) : List Int:=[w32 (ArT x kk ww+AsF x),x.getD 0 0,x.getD 1 0,x.getD 2 0,w32 (x.getD 3 0+ArT x kk ww),x.getD 4 0,x.getD 5 0,x.getD 6 0]
def rounds (v2 w : List Int) : Nat→Nat→List Int→List Int
 | 0,_,x=>x
 | m+1,i,x=>rounds v2 w m (i+1) (Asa x (v2.getD i 0) (w.getD i 0))
theorem Agf (v2 w : List Int) : ∀ (m i : Nat) (x : List Int),x.length=8→(rounds v2 w m i x).length=8
 | 0,_,_,h=>h
 | m+1,i,x,h=>Agf v2 w m (i+1) _ rfl
theorem AkJ {β : Type} {l : List Int} (j : Int) (h0 : 0≤j) {f : Int→Option β} (h : j.toNat<l.length) : idx l j f=f (l.getD j.toNat 0):=by
 obtain ⟨i,rfl⟩:=Int.eq_ofNat_of_zero_le h0
 exact Ab4 h
theorem AoQ {x : Option (List Int)} {l : List Int} (h : l.length=8) (j : Int) (m : Nat) (h0 : 0≤j) (hj : j<8) (hm : m<8) : chk ((0 : Int)≤j∧m<8∧(j).toNat<l.length) x=x:=AaX ⟨h0,hm,by omega⟩
theorem Ak4 (k : Nat) (v0 v2 w : List Int) (h2 : v2.length=64) (hw : w.length=64) : ∀ (m i n : Nat) (x : List Int),i+m=64→m<n→x.length=8 →
 AaN.L3 k v0 v2 w n (i : Int) x=AaN.L4 k (rounds v2 w m i x) k 0 v0
 | 0,i,n+1,x,h,_,hx=>by rw [AaN.L3,if_neg (by omega)]; rfl
 | m+1,i,n+1,x,h,hn,hx=>by
  have c0:=fun y=>AoQ (x:=y) hx 0 0 (by omega) (by omega) (by omega)
  have c1:=fun y=>AoQ (x:=y) hx 1 1 (by omega) (by omega) (by omega)
  have c2:=fun y=>AoQ (x:=y) hx 2 2 (by omega) (by omega) (by omega)
  have c3:=fun y=>AoQ (x:=y) hx 3 3 (by omega) (by omega) (by omega)
  have c4:=fun y=>AoQ (x:=y) hx 4 4 (by omega) (by omega) (by omega)
  have c5:=fun y=>AoQ (x:=y) hx 5 5 (by omega) (by omega) (by omega)
  have c6:=fun y=>AoQ (x:=y) hx 6 6 (by omega) (by omega) (by omega)
  have c7:=fun y=>AoQ (x:=y) hx 7 7 (by omega) (by omega) (by omega)
  have i0:=fun f=>AkJ (β:=List Int) (l:=x) 0 (by omega) (f:=f) (by omega)
  have i1:=fun f=>AkJ (β:=List Int) (l:=x) 1 (by omega) (f:=f) (by omega)
  have i2:=fun f=>AkJ (β:=List Int) (l:=x) 2 (by omega) (f:=f) (by omega)
  have i3:=fun f=>AkJ (β:=List Int) (l:=x) 3 (by omega) (f:=f) (by omega)
  have i4:=fun f=>AkJ (β:=List Int) (l:=x) 4 (by omega) (f:=f) (by omega)
  have i5:=fun f=>AkJ (β:=List Int) (l:=x) 5 (by omega) (f:=f) (by omega)
  have i6:=fun f=>AkJ (β:=List Int) (l:=x) 6 (by omega) (f:=f) (by omega)
  have i7:=fun f=>AkJ (β:=List Int) (l:=x) 7 (by omega) (f:=f) (by omega)
  rw [AaN.L3,if_pos (by omega),c0,i0,c4,i4,c7,i7,Arg,AaJ,AqC,AaJ,Ap6,AaJ,c5,i5,c6,i6,AaX ⟨by omega,by omega,by rw [Int.toNat_natCast]; omega⟩,Ab4 (by omega),
   AaX ⟨by omega,by omega,by rw [Int.toNat_natCast]; omega⟩,Ab4 (by omega),Arh,AaJ,AqB,AaJ,Ap7,AaJ,c1,i1,c2,i2,c1,c2,c0,c1,c2,c3,i3,c4,c5,c6,AaX ⟨hx,rfl⟩,AeS i (by omega),
   Ak4 k v0 v2 w h2 hw m (i+1) n _ (by omega) (by omega) rfl,rounds]
  have e : ∀ a b : Int,IntKind.wrap .u32 (a+IntKind.wrap .u32 b)=w32 (a+b):=AoX
  rw [e]
  rfl
theorem Ak3 (k : Nat) (v0 v2 w : List Int) (h2 : v2.length=64) (hw : w.length=64) : ∀ (m i n : Nat) (x : List Int),i+m=64→m<n→x.length=8 →
 Aad.L3 k v0 v2 w n (i : Int) x=Aad.L4 k v0 k 0 (rounds v2 w m i x)
 | 0,i,n+1,x,h,_,hx=>by rw [Aad.L3,if_neg (by omega)]; rfl
 | m+1,i,n+1,x,h,hn,hx=>by
  have i0:=fun f=>AkJ (β:=List Int) (l:=x) 0 (by omega) (f:=f) (by omega)
  have i1:=fun f=>AkJ (β:=List Int) (l:=x) 1 (by omega) (f:=f) (by omega)
  have i2:=fun f=>AkJ (β:=List Int) (l:=x) 2 (by omega) (f:=f) (by omega)
  have i3:=fun f=>AkJ (β:=List Int) (l:=x) 3 (by omega) (f:=f) (by omega)
  have i4:=fun f=>AkJ (β:=List Int) (l:=x) 4 (by omega) (f:=f) (by omega)
  have i5:=fun f=>AkJ (β:=List Int) (l:=x) 5 (by omega) (f:=f) (by omega)
  have i6:=fun f=>AkJ (β:=List Int) (l:=x) 6 (by omega) (f:=f) (by omega)
  have i7:=fun f=>AkJ (β:=List Int) (l:=x) 7 (by omega) (f:=f) (by omega)
  rw [Aad.L3,if_pos (by omega),i4,Ard,AaJ,Ap5,AaJ,Apz,AaJ,i5,i6,i7,Ab4 (by omega),Ab4 (by omega),i0,Are,AaJ,Ap4,AaJ,Ap0,AaJ,i1,i2,i3,AeS i (by omega),
   Ak3 k v0 v2 w h2 hw m (i+1) n _ (by omega) (by omega) rfl,rounds]
  have e : ∀ a b c : Int,IntKind.wrap .u32 (IntKind.wrap .u32 (a+b)+c)=w32 (a+(b+c)):=fun a b c=>by
   show w32 (w32 (a+b)+c)=_
   rw [AnQ,Int.add_assoc]
  have hs : Asa x (v2.getD i 0) (w.getD i 0) = [w32 (ArT x (v2.getD i 0) (w.getD i 0)+AsF x),x.getD 0 0,x.getD 1 0,x.getD 2 0,w32 (x.getD 3 0+ArT x (v2.getD i 0) (w.getD i 0)),x.getD 4 0,x.getD 5 0,x.getD 6 0]:=rfl
  rw [hs,AsF]
  rw [← e]
  rfl
def Apm (a b : List Int) : List Int:=(List.range 8).map fun i=>w32 (a.getD i 0+b.getD i 0)
def AkA (h b kk : List Int) : List Int:=Apm h (rounds kk (Ajc 48 16 (Ag4 b 16 0 (List.replicate 64 0))) 64 0 h)
theorem Aop {l : List Int} (h : l.length=8) : ∃ a b c d e f g i,l = [a,b,c,d,e,f,g,i]:=by
 match l,h with
 | [a,b,c,d,e,f,g,i],_=>exact ⟨a,b,c,d,e,f,g,i,rfl⟩
theorem AsV (k n : Nat) (h x : List Int) (h0 : h.length=8) (hx : x.length=8) : AaN.L4 k x (n+9) 0 h=some (Apm h x):=by
 obtain ⟨a,b,c,d,e,f,g,i,rfl⟩:=Aop h0
 obtain ⟨a',b',c',d',e',f',g',i',rfl⟩:=Aop hx
 simp [AaN.L4,chk,idx,Apm,w32,List.range_succ,IntKind.wrap]
theorem AsU (k n : Nat) (h x : List Int) (h0 : h.length=8) (hx : x.length=8) : Aad.L4 k h (n+9) 0 x=some (Apm h x):=by
 obtain ⟨a,b,c,d,e,f,g,i,rfl⟩:=Aop h0
 obtain ⟨a',b',c',d',e',f',g',i',rfl⟩:=Aop hx
 simp [Aad.L4,chk,idx,Apm,w32,List.range_succ,IntKind.wrap,Int.add_comm]
theorem Ao4 (k : Nat) (h b kk : List Int) (hk : 100<k) (h0 : h.length=8) (hb : b.length=64) (h2 : kk.length=64) : AaN k h b kk=some (AkA h b kk):=by
 have hw : (Ajc 48 16 (Ag4 b 16 0 (List.replicate 64 0))).length=64:=by rw [AhY,AfI]; simp
 obtain ⟨n,rfl⟩ : ∃ n,k=n+9:=⟨k-9,by omega⟩
 exact (Al3 _ h b kk hb 16 0 (n+9) (List.replicate 64 0) rfl (by omega) (by simp)).trans ((AmB _ h kk h0 48 16 (n+9) _ rfl (by omega) (by omega) (by rw [AfI]; simp)).trans
  ((Ak4 _ h kk _ h2 hw 64 0 (n+9) h rfl (by omega) h0).trans (AsV _ n h _ h0 (Agf _ _ _ _ _ h0))))
theorem Ao3 (k : Nat) (h b kk : List Int) (hk : 100<k) (h0 : h.length=8) (hb : b.length=64) (h2 : kk.length=64) : Aad k h b kk=some (AkA h b kk):=by
 have hw : (Ajc 48 16 (Ag4 b 16 0 (List.replicate 64 0))).length=64:=by rw [AhY,AfI]; simp
 obtain ⟨n,rfl⟩ : ∃ n,k=n+9:=⟨k-9,by omega⟩
 unfold Aad
 rw [AaX (by omega),Ai7]
 exact (Al2 _ h b kk hb 16 0 (n+9) (List.replicate 64 0) rfl (by omega) (by simp)).trans ((AmA _ h kk h0 48 16 (n+9) _ rfl (by omega) (by omega) (by rw [AfI]; simp)).trans
  ((Ak3 _ h kk _ h2 hw 64 0 (n+9) h rfl (by omega) h0).trans (AsU _ n h _ h0 (Agf _ _ _ _ _ h0))))
theorem Agn (h b kk : List Int) : (AkA h b kk).length=8:=by simp [AkA,Apm]
def Aj0 : List Int:=[1779033703,3144134277,1013904242,2773480762,1359893119,2600822924,528734635,1541459225]
def KK : List Int:=(Ac3 1).getD []
theorem AtK (k : Nat) : Ad7 k=some KK:=rfl
theorem AtJ (k : Nat) : Ac3 k=some KK:=rfl
theorem AnG : KK.length=64:=rfl
def Aig : Nat→List Int→List Int→List Int
 | 0,_,h=>h
 | m+1,l,h=>Aig m (l.drop 64) (AkA h (l.take 64) KK)
theorem Aif : ∀ (m : Nat) (l h : List Int),h.length=8→(Aig m l h).length=8
 | 0,_,_,hh=>hh
 | m+1,l,h,hh=>Aif m _ _ (Agn _ _ _)
def Aro (x : Int) : List Int:=[IntKind.wrap .u8 (Int.fdiv x (2 ^ (24))),IntKind.wrap .u8 (Int.fdiv x (2 ^ (16))),IntKind.wrap .u8 (Int.fdiv x (2 ^ (8))),IntKind.wrap .u8 x]
def AoG (h : List Int) : ByteArray:=ofI (h.flatMap Aro)
theorem AkC (b : ByteArray) : (bI b).length=b.size:=by unfold bI; rw [List.length_map,Array.length_toList]; rfl
theorem AmR (h : List Int) (h8 : h.length=8) : (AoG h).size=32:=by
 obtain ⟨a,b,c,d,e,f,g,i,rfl⟩:=Aop h8
 rfl
theorem Arl (k n : Nat) (h : List Int) (h8 : h.length=8) : Aa0.L4 k h (n+9) 0 []=some (AoG h):=by
 obtain ⟨a,b,c,d,e,f,g,i,rfl⟩:=Aop h8
 simp [Aa0.L4,chk,idx,AoG,Aro,IntKind.wrap]
theorem AlK (k : Nat) (l : List Int) (hk : 100<k) (hl : l.length<1000000000000000) : ∀ (m j n : Nat) (h : List Int),64*(j+m)=l.length→m<n→h.length=8 →
 Aa0.L3 k l KK n h ((64*j : Nat) : Int)=some (AoG (Aig m (l.drop (64*j)) h))
 | 0,j,n+1,h,hj,_,hh=>by
  rw [Aa0.L3,if_neg (by omega)]
  obtain ⟨q,rfl⟩ : ∃ q,k=q+9:=⟨k-9,by omega⟩
  exact Arl _ q h hh
 | m+1,j,n+1,h,hj,hn,hh=>by
  have e : IntKind.wrap .i64 (((64*j : Nat) : Int)+64)=((64*(j+1) : Nat) : Int):=by rw [w64 (by omega) (by omega)]; omega
  rw [Aa0.L3,if_pos (by omega),e,AaX ⟨by omega,by omega,by omega⟩,Int.toNat_natCast,Int.toNat_natCast]
  have ht : (l.take (64*(j+1))).drop (64*j)=(l.drop (64*j)).take 64:=by
   rw [List.drop_take]; congr 1; omega
  rw [ht,Ao3 k h _ KK hk hh (by rw [List.length_take,List.length_drop]; omega) AnG,AaJ,AlK k l hk hl m (j+1) n _ (by omega) (by omega) (Agn _ _ _),Aig,List.drop_drop]
  rfl
def fill : Nat→List Int→List Int
 | 0,l=>l
 | m+1,l=>fill m (l++[0])
theorem AhK : ∀ (m : Nat) (l : List Int),(fill m l).length=l.length+m
 | 0,_=>rfl
 | m+1,l=>by rw [fill,AhK]; simp; omega
def Aju (n : Nat) : Nat:=(56+64-n % 64) % 64
theorem AeI (n : Nat) : (n+Aju n) % 64=56∧Aju n<64:=by unfold Aju; omega
theorem Aq2 (n : Nat) : Int.tmod ((n : Nat) : Int) 64=((n % 64 : Nat) : Int):=by rw [Int.tmod_eq_emod_of_nonneg (by omega)]; omega
def AnL (n s : Nat) : Int:=IntKind.wrap .u8 (Int.fdiv (IntKind.wrap .u64 (IntKind.wrap .u64 (n : Int)*8)) (2 ^ (min s 64)))
def lens (n : Nat) : List Int:=[AnL n 56,AnL n 48,AnL n 40,AnL n 32,AnL n 24,AnL n 16,AnL n 8,AnL n 0]
def AoZ (b : List Int) : ByteArray :=
 let l:=fill (Aju (b.length+1)) (b++[128])++lens b.length
 AoG (Aig (l.length / 64) l Aj0)
theorem Aho : Aj0.length=8:=rfl
theorem Ajb (b : List Int) : (AoZ b).size=32:=AmR _ (Aif _ _ _ Aho)
theorem AoF (b : List Int) : (fill (Aju (b.length+1)) (b++[128])++lens b.length).length=64*((fill (Aju (b.length+1)) (b++[128])++lens b.length).length / 64) ∧
 (fill (Aju (b.length+1)) (b++[128])++lens b.length).length≤b.length+73+63:=by
 have h:=AeI (b.length+1)
 rw [List.length_append,AhK]
 simp only [List.length_append,List.length_cons,List.length_nil,lens]
 omega
theorem AqU (k n : Nat) (b v : List Int) (hk : 100<k) (hv : v.length<100000000000000) : Aa0.L2 k b (n+9) 7 v=Aa0.L3 k (v++lens b.length) KK k Aj0 0:=by
 have c : ∀ (i : Nat) (s : List Int),i<10→s.length=1→(((v.length+i)+s.length)*1≤140737488355328):=fun i s hi hs=>by omega
 have h : v.length+10≤140737488355328:=by omega
 simp [Aa0.L2,chk,AtJ,lens,AnL,IntKind.wrap,Aj0]
 repeat rw [if_pos (by omega)]
theorem AoO (k : Nat) (b : List Int) (hk : 100<k) : ∀ (m n : Nat) (v : List Int),m=Aju v.length→m<n→v.length+m<100000000000000→Aa0.L1 k b n v=Aa0.L2 k b k 7 (fill m v)
 | 0,n+1,v,h,_,hv=>by
  have:=AeI v.length
  rw [Aa0.L1,Aq2,if_neg (by omega)]; rfl
 | m+1,n+1,v,h,hn,hv=>by
  have:=AeI v.length
  have h2 : Aju (v++[0]).length=m:=by
   rw [List.length_append]; simp only [List.length_cons,List.length_nil]; unfold Aju at h ⊢; omega
  rw [Aa0.L1,Aq2,if_pos (by omega),AaX (by simp; omega),AoO k b hk m n _ h2.symm (by omega) (by simp; omega)]
  rfl
theorem AsX (k : Nat) (b : List Int) (hk : 100<k) (hk2 : b.length+200<k) (hb : b.length<10000000000000) : Aa0 k b=some (AoZ b):=by
 unfold Aa0 AoZ
 have hn:=AeI (b.length+1)
 rw [AaX (by omega),AaX (by simp; omega),AoO k b hk (Aju (b.length+1)) k (b++[128]) (by simp) (by omega) (by simp; omega)]
 obtain ⟨q,hq⟩ : ∃ q,k=q+9:=⟨k-9,by omega⟩
 have:=AqU k q b (fill (Aju (b.length+1)) (b++[128])) hk (by rw [AhK]; simp; omega)
 rw [← hq] at this
 obtain ⟨p1,p2⟩:=AoF b
 rw [this,show (0 : Int)=((64*0 : Nat) : Int) from rfl,AlK k _ hk (by omega) _ 0 k Aj0 (by rw [Nat.zero_add]; exact p1.symm) (by omega) Aho]
 rfl
theorem Arn (k n : Nat) (h : List Int) (h8 : h.length=8) : Aar.L4 k h (n+9) 0 []=some (AoG h):=by
 obtain ⟨a,b,c,d,e,f,g,i,rfl⟩:=Aop h8
 simp [Aar.L4,chk,idx,AoG,Aro,IntKind.wrap]
theorem AlL (k : Nat) (hk : 100<k) : ∀ (m n : Nat) (l h : List Int),64*m=l.length→m<n→h.length=8 →
 Aar.L3 k KK n l h=some (AoG (Aig m l h))
 | 0,n+1,l,h,hj,_,hh=>by
  rw [Aar.L3,if_neg (by omega),AaX hh]
  obtain ⟨q,rfl⟩ : ∃ q,k=q+9:=⟨k-9,by omega⟩
  exact Arn _ q h hh
 | m+1,n+1,l,h,hj,hn,hh=>by
  rw [Aar.L3,if_pos (by omega),AaX (by omega),show (64 : Int).toNat=64 from rfl,Ao4 k h _ KK hk hh (by rw [List.length_take]; omega) AnG,AaJ,AaX (by omega),
   AlL k hk m n _ _ (by rw [List.length_drop]; omega) (by omega) (Agn _ _ _)]
  rfl
theorem AqV (k n : Nat) (b v : List Int) (hk : 100<k) (hv : v.length<100000000000000) : Aar.L2 k b (n+9) 56 v=Aar.L3 k KK k (v++lens b.length) Aj0:=by
 have h : v.length+10≤140737488355328:=by omega
 simp [Aar.L2,chk,AtK,lens,AnL,IntKind.wrap,Aj0,AnG]
 repeat rw [if_pos (by omega)]
theorem AoP (k : Nat) (b : List Int) (hk : 100<k) : ∀ (m n : Nat) (v : List Int),m=Aju v.length→m<n→v.length+m<100000000000000→Aar.L1 k b n v=Aar.L2 k b k 56 (fill m v)
 | 0,n+1,v,h,_,hv=>by
  have:=AeI v.length
  rw [Aar.L1,Aq2,if_neg (by omega)]; rfl
 | m+1,n+1,v,h,hn,hv=>by
  have:=AeI v.length
  have h2 : Aju (v++[0]).length=m:=by
   rw [List.length_append]; simp only [List.length_cons,List.length_nil]; unfold Aju at h ⊢; omega
  rw [Aar.L1,Aq2,if_pos (by omega),AaX (by simp; omega),AoP k b hk m n _ h2.symm (by omega) (by simp; omega)]
  rfl
theorem AsY (k : Nat) (b : List Int) (hk : 100<k) (hk2 : b.length+200<k) (hb : b.length<10000000000000) : Aar k b=some (AoZ b):=by
 unfold Aar AoZ
 have hn:=AeI (b.length+1)
 rw [AaX (by omega),AaX (by simp; omega),AoP k b hk (Aju (b.length+1)) k (b++[128]) (by simp) (by omega) (by simp; omega)]
 obtain ⟨q,hq⟩ : ∃ q,k=q+9:=⟨k-9,by omega⟩
 have:=AqV k q b (fill (Aju (b.length+1)) (b++[128])) hk (by rw [AhK]; simp; omega)
 rw [← hq] at this
 obtain ⟨p1,p2⟩:=AoF b
 rw [this,AlL k hk _ k _ Aj0 p1.symm (by omega) Aho]
end Go.TF
set_option linter.unusedVariables false
set_option linter.unusedSimpArgs false
namespace Go.TF
open Go Go.Abs
def Agc (s : ByteArray) : List Int:=enc s.size++bI s
theorem AhE (s : ByteArray) : (Agc s).length=8+s.size:=by rw [Agc,List.length_append,Aa3,AkC]
def Ah8 (p : AaD) : List Int:=enc p.Author++enc p.Height++Agc p.Digest
theorem Anb (p : AaD) (h : p.Digest.size=32) : (Ah8 p).length=56:=by simp only [Ah8,List.length_append,Aa3,AhE,h]
theorem Afi : ∀ (l : List AaD),(∀ p ∈ l,p.Digest.size=32)→(l.flatMap Ah8).length=56*l.length
 | [],_=>rfl
 | p::l,h=>by
  rw [List.flatMap_cons,List.length_append,Afi l (fun q hq=>h q (by simp [hq])),Anb p (h p (by simp)),List.length_cons]; omega
theorem AeM : ∀ (l : List Int),(l.flatMap enc).length=8*l.length
 | []=>rfl
 | x::l=>by rw [List.flatMap_cons,List.length_append,Aa3,AeM l,List.length_cons]; omega
theorem Agu : ∀ (l : List AaD) (p : Option Int),Agj p l=true→∀ q ∈ l,q.Digest.size=32
 | [],_,_,q,hq=>by cases hq
 | x::l,p,h,q,hq=>by
  rw [Agi,Bool.and_eq_true] at h
  rcases List.mem_cons.1 hq with rfl | hq
  ·have:=h.1
   simp only [AqJ,Bool.and_eq_true,decide_eq_true_eq] at this
   exact this.2
  ·exact Agu l _ h.2 q hq
def AeW (author num : Int) (prev : ByteArray) (time kind A B C : Int) (l : List Int) (pins : List AaD) (body : ByteArray) : List Int :=
 enc author++enc num++Agc prev++[time,kind,A,B,C].flatMap enc++enc l.length++l.flatMap enc++enc pins.length++pins.flatMap Ah8++Agc body
structure ApI (prev : ByteArray) (l : List Int) (pins : List AaD) (body : ByteArray) : Prop where
 p : prev.size≤32
 l : l.length≤100
 q : pins.length≤64
 d : ∀ x ∈ pins,x.Digest.size=32
 b : body.size≤4096
def Ami (author num : Int) (prev : ByteArray) (time kind A B C : Int) (l : List Int) (pins : List AaD) (body : ByteArray) : ByteArray:=AoZ (AeW author num prev time kind A B C l pins body)
def AlP (author num : Int) (prev : ByteArray) (time kind A B C : Int) (l : List Int) (pins : List AaD) (body : ByteArray) (sk : Int) (sd : ByteArray) : Bool:=decide (sk=author)&&Abo sd (Ami author num prev time kind A B C l pins body)
theorem Aj7 {author num : Int} {prev : ByteArray} {time kind A B C : Int} {l : List Int} {pins : List AaD} {body : ByteArray} (h : AnM author num prev time kind A B C l pins body=0) : ApI prev l pins body:=by
 unfold AnM at h
 split at h; rotate_left; · omega
 split at h; rotate_left; · omega
 split at h; rotate_left; · omega
 split at h; rotate_left; · omega
 rename_i hn
 split at h; rotate_left; · omega
 rename_i hz
 split at h; rotate_left; · omega
 rename_i hf
 simp only [Alm,Bool.and_eq_true] at hf
 refine ⟨?_,by have:=hz.1; omega,hz.2.1,Agu _ _ hf.1.2,hz.2.2⟩
 have h1:=hf.1.1
 split at h1
 ·have:=(Aia prev).symm.trans h1
  simp only [decide_eq_true_eq] at this
  omega
 split at h1
 ·simp only [decide_eq_true_eq] at h1; omega
 ·simp only [Alc,Bool.and_eq_true,bIn,decide_eq_true_eq] at hn
  omega
end Go.TF
set_option linter.unusedVariables false
set_option linter.unusedSimpArgs false
namespace Go.TF
open Go Go.Abs
def Fb (a b : Int) : Int:=AaK .or .u64 (IntKind.wrap .u64 (a*2 ^ (8))) (IntKind.wrap .u64 b)
def Alq (l : List Int) : Int:=IntKind.wrap .i64 (l.foldl Fb 0)
theorem AjX (k : Nat) (v0 : List Int) (h8 : 8≤v0.length) (h9 : v0.length≤100000) : ∀ (m i n : Nat) (a : Int),i+m=8→m<n→AbQ.L1 k v0 n a (i : Int)=some (IntKind.wrap .i64 (((v0.drop i).take m).foldl Fb a),v0.drop 8,true)
 | 0,i,n+1,a,h,_=>by
  have hl : (v0.take (8 : Int).toNat).length=8:=by simp; omega
  rw [AbQ.L1,hl,if_neg (by omega),AaX (by omega)]
  unfold Abk
  rw [AaX (by simp; omega)]
  simp
 | m+1,i,n+1,a,h,hn=>by
  have hl : (v0.take (8 : Int).toNat).length=8:=by simp; omega
  have hi : i<(v0.take (8 : Int).toNat).length:=by omega
  rw [AbQ.L1,if_pos (by omega),AcJ hi,w64 (by omega) (by omega),show ((i : Int)+1)=((i+1 : Nat) : Int) by omega,AjX k v0 h8 h9 m (i+1) n _ (by omega) (by omega)]
  have h1 : i<v0.length:=by omega
  rw [List.drop_eq_getElem_cons h1,List.take_succ_cons,List.foldl_cons]
  simp [Fb]
theorem Ags (k : Nat) (v0 : List Int) (h8 : 8≤v0.length) (h9 : v0.length≤100000) : ∀ (m i n : Nat) (a : Int),i+m=8→m<n→AbN.L1 k v0 n a (i : Int)=some (IntKind.wrap .i64 (((v0.drop i).take m).foldl Fb a),v0.drop 8,true)
 | 0,i,n+1,a,h,_=>by
  rw [AbN.L1,if_neg (by omega),AaX (by omega)]
  unfold AeE
  rw [AaX (by simp; omega)]
  simp
 | m+1,i,n+1,a,h,hn=>by
  have hi : i<v0.length:=by omega
  rw [AbN.L1,if_pos (by omega),AcJ hi,w64 (by omega) (by omega),show ((i : Int)+1)=((i+1 : Nat) : Int) by omega,Ags k v0 h8 h9 m (i+1) n _ (by omega) (by omega)]
  have h1 : i<v0.length:=by omega
  rw [List.drop_eq_getElem_cons h1,List.take_succ_cons,List.foldl_cons]
  simp [Fb]
def Aeo (v0 : List Int) : Int×List Int×Bool:=if v0.length<8 then (0,[],false) else (Alq (v0.take 8),v0.drop 8,true)
theorem Afp (k : Nat) (hk : 8<k) (v0 : List Int) (h : v0.length≤100000) : AbQ k v0=some (Aeo v0):=by
 unfold AbQ Aeo
 by_cases h1 : v0.length<8
 ·rw [if_pos (by omega),if_pos h1]
 ·rw [if_neg (by omega),if_neg h1,AaX (by omega)]
  exact AjX k v0 (by omega) h 8 0 k 0 rfl hk
theorem AdX (k : Nat) (hk : 8<k) (v0 : List Int) (h : v0.length≤100000) : AbN k v0=some (Aeo v0):=by
 unfold AbN Aeo
 by_cases h1 : v0.length<8
 ·rw [if_pos (by omega),if_pos h1]
 ·rw [if_neg (by omega),if_neg h1]
  exact Ags k v0 (by omega) h 8 0 k 0 rfl hk
theorem Ads (v0 : List Int) : (Aeo v0).2.1.length≤v0.length:=by
 unfold Aeo; split <;> simp
def Ag9 (v0 : List Int) (m : Int) : ByteArray×List Int×Bool :=
 let r:=Aeo v0
 if (!r.2.2)=true then (ByteArray.mk #[],[],false) else if r.1<0 then (ByteArray.mk #[],[],false) else if m<r.1 then (ByteArray.mk #[],[],false) else if (r.2.1.length : Int)<r.1 then (ByteArray.mk #[],[],false)
 else (ofI (r.2.1.take r.1.toNat),r.2.1.drop r.1.toNat,true)
theorem Akn (k : Nat) (hk : 8<k) (v0 : List Int) (m : Int) (h : v0.length≤100000) : Ac6 k v0 m=some (Ag9 v0 m):=by
 unfold Ac6 Ag9
 rw [Afp k hk v0 h]
 generalize Aeo v0=r
 obtain ⟨a,x,b⟩:=r
 simp only [AcL]
 split; · rfl
 split; · rfl
 split; · rfl
 split; · rfl
 rw [AaX (by omega),AaX (by omega)]
theorem Aeg (k : Nat) (hk : 8<k) (v0 : List Int) (m : Int) (h : v0.length≤100000) : AdG k v0 m=some (Ag9 v0 m):=by
 unfold AdG Ag9
 have hl:=Ads v0
 rw [AdX k hk v0 h]
 generalize Aeo v0=r at hl
 obtain ⟨a,x,b⟩:=r
 simp only [AcL]
 simp only at hl
 split; · rfl
 split; · rfl
 split; · rfl
 split; · rfl
 unfold AeE
 rw [AaX (by omega),AaX (by omega),AaX (by simp; omega),AaJ]
def Alo : Nat→List Int→List Int
 | 0,_=>[]
 | m+1,l=>Alq (l.take 8)::Alo m (l.drop 8)
theorem AlJ : ∀ (m : Nat) (l : List Int),(Alo m l).length=m
 | 0,_=>rfl
 | m+1,l=>by simp [Alo,AlJ m]
theorem AgB (k : Nat) (hk : 8<k) (v5 : Int) (hv : v5≤100000) : ∀ (m i n : Nat) (l acc : List Int),(i+m : Int)=v5→m<n→8*m≤l.length→l.length≤100000→acc.length+m≤200000→AbT.L1 k v5 n (i : Int) l acc=some (acc++Alo m l,l.drop (8*m),true)
 | 0,i,n+1,l,acc,h,_,_,_,_=>by rw [AbT.L1,if_neg (by omega)]; simp [Alo]
 | m+1,i,n+1,l,acc,h,hn,h8,hl,ha=>by
  have h1 : ¬ l.length<8:=by omega
  rw [AbT.L1,if_pos (by omega),Afp k hk l hl,Aeo,if_neg h1,AcL,AaX (by simp; omega),w64 (by omega) (by omega),show ((i : Int)+1)=((i+1 : Nat) : Int) by omega,
   AgB k hk v5 hv m (i+1) n _ _ (by omega) (by omega) (by simp; omega) (by simp; omega) (by simp; omega)]
  simp [Alo,List.drop_drop,Nat.mul_add,Nat.add_comm]
theorem Ae7 (k : Nat) (hk : 8<k) (v5 : Int) (hv : v5≤100000) : ∀ (m i n : Nat) (l acc : List Int),(i+m : Int)=v5→m<n→8*m≤l.length→l.length≤100000→acc.length+m≤200000→AbJ.L1 k v5 n (i : Int) l acc=some (acc++Alo m l,l.drop (8*m),true)
 | 0,i,n+1,l,acc,h,_,_,_,_=>by rw [AbJ.L1,if_neg (by omega)]; simp [Alo]
 | m+1,i,n+1,l,acc,h,hn,h8,hl,ha=>by
  have h1 : ¬ l.length<8:=by omega
  rw [AbJ.L1,if_pos (by omega),AdX k hk l hl,Aeo,if_neg h1,AcL,AaX (by simp; omega),w64 (by omega) (by omega),show ((i : Int)+1)=((i+1 : Nat) : Int) by omega,
   Ae7 k hk v5 hv m (i+1) n _ _ (by omega) (by omega) (by simp; omega) (by simp; omega) (by simp; omega)]
  simp [Alo,List.drop_drop,Nat.mul_add,Nat.add_comm]
def Ah5 (v0 : List Int) (m : Int) : List Int×List Int×Bool :=
 let r:=Aeo v0
 if (!r.2.2)=true then ([],[],false) else if r.1<0 then ([],[],false) else if m<r.1 then ([],[],false) else if IntKind.wrap .i64 (Int.tdiv (r.2.1.length : Int) 8)<r.1 then ([],[],false)
 else (Alo r.1.toNat r.2.1,r.2.1.drop (8*r.1.toNat),true)
theorem AoY (n : Nat) (h : n≤100000) : IntKind.wrap .i64 (Int.tdiv (n : Int) 8)=(n : Int) / 8:=by
 rw [Int.tdiv_eq_ediv_of_nonneg (by omega),w64 (by omega) (by omega)]
theorem Ako (k : Nat) (hk : 900<k) (v0 : List Int) (m : Int) (h : v0.length≤5000) : AbT k v0 m=some (Ah5 v0 m):=by
 unfold AbT Ah5
 have hl:=Ads v0
 rw [Afp k (by omega) v0 (by omega)]
 generalize Aeo v0=r at hl
 obtain ⟨a,x,b⟩:=r
 simp only [AcL]
 simp only at hl
 split; · rfl
 split; · rfl
 split; · rfl
 rw [AoY _ (by omega)]
 split; · rfl
 have:=AgB k (by omega) a (by omega) a.toNat 0 k x [] (by omega) (by omega) (by omega) (by omega) (by simp; omega)
 simpa using this
theorem Afw (k : Nat) (hk : 900<k) (v0 : List Int) (m : Int) (h : v0.length≤5000) : AbJ k v0 m=some (Ah5 v0 m):=by
 unfold AbJ Ah5
 have hl:=Ads v0
 rw [AdX k (by omega) v0 (by omega)]
 generalize Aeo v0=r at hl
 obtain ⟨a,x,b⟩:=r
 simp only [AcL]
 simp only at hl
 split; · rfl
 split; · rfl
 split; · rfl
 rw [AoY _ (by omega)]
 split; · rfl
 have:=Ae7 k (by omega) a (by omega) a.toNat 0 k x [] (by omega) (by omega) (by omega) (by omega) (by simp; omega)
 simpa using this
theorem Aqz (a b : Int) (h0 : 0≤b) (h1 : b<256) : Fb a b=(a*256) % 18446744073709551616+b:=by
 unfold Fb AaK
 have e1 : IntKind.wrap .u64 b=b:=Aq0 h0 (by omega)
 rw [e1,Aku]
 simp only
 rw [BitVec.toNat_or,BitVec.toNat_ofInt,BitVec.toNat_ofInt]
 show IntKind.wrap .u64 ((((a*2 ^ 8) % 18446744073709551616 % ((2 ^ 64 : Nat) : Int)).toNat ||| ((b % ((2 ^ 64 : Nat) : Int)).toNat) : Nat) : Int)=_
 obtain ⟨x,hx⟩ : ∃ x : Nat,(a*2 ^ 8) % 18446744073709551616=256*(x : Int)∧x<2 ^ 56:=⟨((a*2 ^ 8) % 18446744073709551616 / 256).toNat,by omega,by omega⟩
 obtain ⟨y,rfl⟩:=Int.eq_ofNat_of_zero_le h0
 rw [hx.1]
 have e2 : ((256*(x : Int)) % ((2 ^ 64 : Nat) : Int)).toNat=x <<< 8:=by rw [Nat.shiftLeft_eq]; omega
 have e3 : ((y : Int) % ((2 ^ 64 : Nat) : Int)).toNat=y:=by omega
 rw [e2,e3,← Nat.shiftLeft_add_eq_or_of_lt (by omega),Nat.shiftLeft_eq,Aq0 (by omega) (by omega)]
 have : a*256=a*2 ^ 8:=by omega
 rw [this,hx.1]
 omega
theorem Aqb (v : Int) : ∀ j,j≤8→(AiZ v j).foldl Fb (v / 2 ^ (8*j) % 2 ^ (64-8*j))=v % 2 ^ 64
 | 0,_=>by simp [AiZ]
 | j+1,hj=>by
  have ih:=Aqb v j (by omega)
  rw [AiZ,List.foldl_cons,Aqz _ _ (by omega) (by omega)]
  rw [← ih]
  congr 1
  have : j=0∨j=1∨j=2∨j=3∨j=4∨j=5∨j=6∨j=7:=by omega
  rcases this with rfl | rfl | rfl | rfl | rfl | rfl | rfl | rfl <;> simp <;> omega
theorem Anx (v : Int) (h : InR .i64 v) : Alq (enc v)=v:=by
 have h:=h.i64
 have e:=Aqb v 8 (by omega)
 simp only [Nat.reduceMul,Nat.reduceSub,Int.pow_zero,Int.emod_one] at e
 unfold Alq enc
 rw [e,Aim]
 split <;> omega
theorem Afn : ∀ l : List Int,(l.flatMap enc).length=8*l.length
 | []=>rfl
 | a::l=>by simp [Afn l,Aa3]; omega
theorem ApQ {n : Int} (h1 : -9223372036854775808≤n) (h2 : n≤9223372036854775807) : InR .i64 n:=by
 simpa [InR,IntKind.min,IntKind.max,IntKind.bits,IntKind.signed] using ⟨h1,h2⟩
end Go.TF
set_option linter.unusedVariables false
set_option linter.unusedSimpArgs false
namespace Go.TF
open Go Go.Abs
structure AfH (prev : ByteArray) (l : List Int) (pins : List AaD) (body : ByteArray) : Prop where
 p : prev.size≤100
 l : l.length≤100
 q : pins.length≤100
 d : (pins.flatMap Ah8).length≤2000000
 b : body.size≤5000
theorem Ahf (p : AaD) : (Ah8 p).length=24+p.Digest.size:=by simp only [Ah8,List.length_append,Aa3,AhE]; omega
theorem Ae5 (author num : Int) (prev : ByteArray) (time kind A B C : Int) (l : List Int) (pins : List AaD) (body : ByteArray) (h : AfH prev l pins body) : (AeW author num prev time kind A B C l pins body).length≤2100000:=by
 have h1:=h.p; have h2:=h.l; have h3:=h.q; have h5:=h.b; have h6:=h.d
 simp only [AeW,List.length_append,Aa3,AhE,AeM,List.length_cons,List.length_nil]
 omega
theorem ApI.g {prev : ByteArray} {l : List Int} {pins : List AaD} {body : ByteArray} (h : ApI prev l pins body) : AfH prev l pins body :=
 ⟨by have:=h.p; omega,h.l,by have:=h.q; omega,by rw [Afi pins h.d]; have:=h.q; omega,by have:=h.b; omega⟩
theorem Asy (k : Nat) (hk : 8<k) (pins : List AaD) (body : ByteArray) (hb : body.size≤5000) (h9 : pins.length≤100) : ∀ (m i n : Nat) (acc : List Int),i+m=pins.length→m<n→acc.length+((pins.drop i).flatMap Ah8).length≤3000000 →
 Aao.L2 k pins body n acc (i : Int)=some (acc++(pins.drop i).flatMap Ah8++Agc body)
 | 0,i,n+1,acc,h,_,ha=>by
  rw [Aao.L2,if_neg (by omega),AjL k hk _ _ (by omega) (by omega),AaJ,List.drop_of_length_le (by omega)]
  simp [Agc]
 | m+1,i,n+1,acc,h,hn,ha=>by
  have h1 : i<pins.length:=by omega
  have h2:=Ahf pins[i]
  rw [List.drop_eq_getElem_cons h1,List.flatMap_cons,List.length_append] at ha
  rw [Aao.L2,if_pos (by omega),AcJ h1,AgW k hk _ _ (by omega),AaJ,AgW k hk _ _ (by rw [List.length_append,Aa3]; omega),AaJ,AjL k hk _ _ (by simp only [List.length_append,Aa3]; omega) (by omega),AaJ,w64 (by omega) (by omega),show ((i : Int)+1)=((i+1 : Nat) : Int) by omega,
   Asy k hk pins body hb h9 m (i+1) n _ (by omega) (by omega) (by simp only [List.length_append,Aa3,AkC]; omega),List.drop_eq_getElem_cons h1,List.flatMap_cons]
  simp only [Ah8,Agc,List.append_assoc]
theorem Asz (k : Nat) (hk : 100<k) (time kind A B C : Int) (l : List Int) (pins : List AaD) (body : ByteArray) (hl : l.length≤100) (hb : body.size≤5000) (h9 : pins.length≤100) (hp : (pins.flatMap Ah8).length≤2000000) : ∀ (m i n : Nat) (acc : List Int),i+m=5→m<n→acc.length+8*m≤5000 →
 Aao.L1 k time kind A B C l pins body n acc (i : Int)=some (acc++(([time,kind,A,B,C] : List Int).drop i).flatMap enc++enc l.length++l.flatMap enc++enc pins.length++pins.flatMap Ah8++Agc body)
 | 0,i,n+1,acc,h,_,ha=>by
  rw [Aao.L1,if_neg (by omega),ApP k (by omega) _ _ (by omega) (by omega) (by omega),AaJ,AgW k (by omega) _ _ (by simp only [List.length_append,Aa3,AeM]; omega),AaJ,show (0 : Int)=((0 : Nat) : Int) from rfl,
   Asy k (by omega) pins body hb h9 pins.length 0 k _ (by omega) (by omega) (by rw [List.drop_zero]; simp only [List.length_append,Aa3,AeM]; omega),List.drop_of_length_le (l:=([time,kind,A,B,C] : List Int)) (by simp; omega)]
  simp
 | m+1,i,n+1,acc,h,hn,ha=>by
  have h1 : i<([time,kind,A,B,C] : List Int).length:=by simp; omega
  rw [Aao.L1,if_pos (by omega),AaX (by omega),AcJ h1,AgW k (by omega) _ _ (by omega),AaJ,w64 (by omega) (by omega),show ((i : Int)+1)=((i+1 : Nat) : Int) by omega,
   Asz k hk time kind A B C l pins body hl hb h9 hp m (i+1) n _ (by omega) (by omega) (by rw [List.length_append,Aa3]; omega),List.drop_eq_getElem_cons h1,List.flatMap_cons]
  simp only [List.append_assoc]
theorem AjP (k : Nat) (hk : 100<k) (author num : Int) (prev : ByteArray) (time kind A B C : Int) (l : List Int) (pins : List AaD) (body : ByteArray) (sk : Int) (sd : ByteArray) (h : AfH prev l pins body) :
 Aao k author num prev time kind A B C l pins body sk sd=some (AeW author num prev time kind A B C l pins body):=by
 have h1:=h.p
 unfold Aao AeW
 rw [AgW k (by omega) _ _ (by simp),AaJ,AgW k (by omega) _ _ (by simp only [List.length_append,Aa3,List.length_nil]; omega),AaJ,AjL k (by omega) _ _ (by simp only [List.length_append,Aa3,List.length_nil]; omega) (by omega),AaJ,show (0 : Int)=((0 : Nat) : Int) from rfl,
  Asz k hk time kind A B C l pins body h.l h.b h.q h.d 5 0 k _ (by omega) (by omega) (by simp only [List.length_append,Aa3,List.length_nil,AkC]; omega)]
 simp only [Agc,List.nil_append,List.drop_zero,List.append_assoc]
theorem Asw (k : Nat) (hk : 8<k) (pins : List AaD) (body : ByteArray) (hb : body.size≤5000) (h9 : pins.length≤100) : ∀ (m i n : Nat) (acc : List Int),i+m=pins.length→m<n→acc.length+((pins.drop i).flatMap Ah8).length≤3000000 →
 AbF.L2 k pins body n acc (i : Int)=some (acc++(pins.drop i).flatMap Ah8++Agc body)
 | 0,i,n+1,acc,h,_,ha=>by
  rw [AbF.L2,if_neg (by omega),Afg k hk _ _ (by omega) (by omega),AaJ,List.drop_of_length_le (by omega)]
  simp [Agc]
 | m+1,i,n+1,acc,h,hn,ha=>by
  have h1 : i<pins.length:=by omega
  have h2:=Ahf pins[i]
  rw [List.drop_eq_getElem_cons h1,List.flatMap_cons,List.length_append] at ha
  rw [AbF.L2,if_pos (by omega),AcJ h1,AdF k hk _ _ (by omega),AaJ,AdF k hk _ _ (by rw [List.length_append,Aa3]; omega),AaJ,Afg k hk _ _ (by simp only [List.length_append,Aa3]; omega) (by omega),AaJ,w64 (by omega) (by omega),show ((i : Int)+1)=((i+1 : Nat) : Int) by omega,
   Asw k hk pins body hb h9 m (i+1) n _ (by omega) (by omega) (by simp only [List.length_append,Aa3,AkC]; omega),List.drop_eq_getElem_cons h1,List.flatMap_cons]
  simp only [Ah8,Agc,List.append_assoc]
theorem Asx (k : Nat) (hk : 100<k) (time kind A B C : Int) (l : List Int) (pins : List AaD) (body : ByteArray) (hl : l.length≤100) (hb : body.size≤5000) (h9 : pins.length≤100) (hp : (pins.flatMap Ah8).length≤2000000) : ∀ (m i n : Nat) (acc : List Int),i+m=5→m<n→acc.length+8*m≤5000 →
 AbF.L1 k time kind A B C l pins body n acc (i : Int)=some (acc++(([time,kind,A,B,C] : List Int).drop i).flatMap enc++enc l.length++l.flatMap enc++enc pins.length++pins.flatMap Ah8++Agc body)
 | 0,i,n+1,acc,h,_,ha=>by
  rw [AbF.L1,if_neg (by simp; omega),AlU k (by omega) _ _ (by omega) (by omega) (by omega),AaJ,AdF k (by omega) _ _ (by simp only [List.length_append,Aa3,AeM]; omega),AaJ,show (0 : Int)=((0 : Nat) : Int) from rfl,
   Asw k (by omega) pins body hb h9 pins.length 0 k _ (by omega) (by omega) (by rw [List.drop_zero]; simp only [List.length_append,Aa3,AeM]; omega),List.drop_of_length_le (l:=([time,kind,A,B,C] : List Int)) (by simp; omega)]
  simp
 | m+1,i,n+1,acc,h,hn,ha=>by
  have h1 : i<([time,kind,A,B,C] : List Int).length:=by simp; omega
  rw [AbF.L1,if_pos (by simp; omega),AcJ h1,AdF k (by omega) _ _ (by omega),AaJ,w64 (by omega) (by omega),show ((i : Int)+1)=((i+1 : Nat) : Int) by omega,
   Asx k hk time kind A B C l pins body hl hb h9 hp m (i+1) n _ (by omega) (by omega) (by rw [List.length_append,Aa3]; omega),List.drop_eq_getElem_cons h1,List.flatMap_cons]
  simp only [List.append_assoc]
theorem AjO (k : Nat) (hk : 100<k) (author num : Int) (prev : ByteArray) (time kind A B C : Int) (l : List Int) (pins : List AaD) (body : ByteArray) (sk : Int) (sd : ByteArray) (h : AfH prev l pins body) :
 AbF k author num prev time kind A B C l pins body sk sd=some (AeW author num prev time kind A B C l pins body):=by
 have h1:=h.p
 unfold AbF AeW
 rw [AdF k (by omega) _ _ (by simp),AaJ,AdF k (by omega) _ _ (by simp only [List.length_append,Aa3,List.length_nil]; omega),AaJ,Afg k (by omega) _ _ (by simp only [List.length_append,Aa3,List.length_nil]; omega) (by omega),AaJ,show (0 : Int)=((0 : Nat) : Int) from rfl,
  Asx k hk time kind A B C l pins body h.l h.b h.q h.d 5 0 k _ (by omega) (by omega) (by simp only [List.length_append,Aa3,List.length_nil,AkC]; omega)]
 simp only [Agc,List.nil_append,List.drop_zero,List.append_assoc]
theorem Ah1 (k : Nat) (hk : 3000000<k) (author num : Int) (prev : ByteArray) (time kind A B C : Int) (l : List Int) (pins : List AaD) (body : ByteArray) (sk : Int) (sd : ByteArray) (h : AfH prev l pins body) :
 Aby k author num prev time kind A B C l pins body sk sd=some (Ami author num prev time kind A B C l pins body):=by
 have:=Ae5 author num prev time kind A B C l pins body h
 unfold Aby Ami
 rw [AjP k (by omega) _ _ _ _ _ _ _ _ _ _ _ _ _ h,AaJ,AsY k _ (by omega) (by omega) (by omega),AaJ]
theorem Afe (k : Nat) (hk : 3000000<k) (author num : Int) (prev : ByteArray) (time kind A B C : Int) (l : List Int) (pins : List AaD) (body : ByteArray) (sk : Int) (sd : ByteArray) (h : AfH prev l pins body) :
 Acl k author num prev time kind A B C l pins body sk sd=some (Ami author num prev time kind A B C l pins body):=by
 have:=Ae5 author num prev time kind A B C l pins body h
 unfold Acl Ami
 rw [AjO k (by omega) _ _ _ _ _ _ _ _ _ _ _ _ _ h,AaJ,AsX k _ (by omega) (by omega) (by omega),AaJ]
theorem Ahz (k : Nat) (hk : 3000000<k) (author num : Int) (prev : ByteArray) (time kind A B C : Int) (l : List Int) (pins : List AaD) (body : ByteArray) (sk : Int) (sd : ByteArray) (h : AfH prev l pins body) :
 Abm k author num prev time kind A B C l pins body sk sd=some (AlP author num prev time kind A B C l pins body sk sd):=by
 unfold Abm AlP
 rw [Ah1 k hk _ _ _ _ _ _ _ _ _ _ _ _ _ h,AaJ,Ai7]
 by_cases e : sk=author <;> simp [e]
theorem AgV (k : Nat) (hk : 3000000<k) (author num : Int) (prev : ByteArray) (time kind A B C : Int) (l : List Int) (pins : List AaD) (body : ByteArray) (sk : Int) (sd : ByteArray) (h : AfH prev l pins body) :
 Aci k author num prev time kind A B C l pins body sk sd=some (AlP author num prev time kind A B C l pins body sk sd):=by
 unfold Aci AlP
 by_cases e : sk=author
 ·rw [if_pos e,Afe k hk _ _ _ _ _ _ _ _ _ _ _ _ _ h,AaJ]; simp [e]
 ·rw [if_neg e]; simp [e]
theorem ApK (k : Nat) (hk : 3000000<k) (author num : Int) (prev : ByteArray) (time kind A B C : Int) (l : List Int) (pins : List AaD) (body : ByteArray) (sk : Int) (sd : ByteArray) (h : AfH prev l pins body) :
 Acw k author num prev time kind A B C l pins body sk sd=some ⟨author,num,prev,time,kind,A,B,C,l,pins,body,author,Ami author num prev time kind A B C l pins body⟩:=by
 have h1:=h.l
 have h2:=h.q
 unfold Acw AcZ Abq
 rw [AaX (by omega),AaJ,AaX (by omega),AaJ,Ah1 k hk _ _ _ _ _ _ _ _ _ _ _ _ _ h,AaJ]
theorem ApJ (k : Nat) (hk : 3000000<k) (author num : Int) (prev : ByteArray) (time kind A B C : Int) (l : List Int) (pins : List AaD) (body : ByteArray) (sk : Int) (sd : ByteArray) (h : AfH prev l pins body) :
 Aes k author num prev time kind A B C l pins body sk sd=some ⟨author,num,prev,time,kind,A,B,C,l,pins,body,author,Ami author num prev time kind A B C l pins body⟩:=by
 have h1:=h.l
 have h2:=h.q
 unfold Aes Afh
 rw [AaX (by omega),AaX (by omega),AaJ,Afe k hk _ _ _ _ _ _ _ _ _ _ _ _ _ h,AaJ]
def Aly (author num : Int) (prev : ByteArray) (time kind A B C : Int) (l : List Int) (pins : List AaD) (body : ByteArray) (sk : Int) (sd : ByteArray) : List Int×Int :=
 if AnM author num prev time kind A B C l pins body≠0 then ([],AnM author num prev time kind A B C l pins body)
 else if (!AlP author num prev time kind A B C l pins body sk sd)=true then ([],6)
 else (AeW author num prev time kind A B C l pins body++enc sk++Agc sd,0)
theorem AnI (k : Nat) (hk : 3000000<k) (author num : Int) (prev : ByteArray) (time kind A B C : Int) (l : List Int) (pins : List AaD) (body : ByteArray) (sk : Int) (sd : ByteArray) (h : AfH prev l pins body) (hd : sd.size≤100) :
 AcP k author num prev time kind A B C l pins body sk sd=some (Aly author num prev time kind A B C l pins body sk sd):=by
 have h1:=h.l
 have h2:=h.q
 have h3:=Ae5 author num prev time kind A B C l pins body h
 unfold AcP Aly
 rw [Aks k _ _ _ _ _ _ _ _ _ _ _ _ _ (by omega) (by omega) (by omega),AaJ]
 split
 ·rfl
 rw [Ahz k hk _ _ _ _ _ _ _ _ _ _ _ _ _ h,AaJ]
 split
 ·rfl
 rw [AjP k (by omega) _ _ _ _ _ _ _ _ _ _ _ _ _ h,AaJ,AgW k (by omega) _ _ (by omega),AaJ,AjL k (by omega) _ _ (by simp only [List.length_append,Aa3]; omega) (by omega),AaJ]
 simp only [Agc,List.append_assoc]
theorem AgX (k : Nat) (hk : 3000000<k) (author num : Int) (prev : ByteArray) (time kind A B C : Int) (l : List Int) (pins : List AaD) (body : ByteArray) (sk : Int) (sd : ByteArray) (h : AfH prev l pins body) (hd : sd.size≤100) :
 Ack k author num prev time kind A B C l pins body sk sd=some (Aly author num prev time kind A B C l pins body sk sd):=by
 have h1:=h.l
 have h2:=h.q
 have h3:=Ae5 author num prev time kind A B C l pins body h
 unfold Ack Aly
 rw [AjN k _ _ _ _ _ _ _ _ _ _ _ _ _ (by omega) (by omega) (by omega),AaJ]
 split
 ·rfl
 rw [AgV k hk _ _ _ _ _ _ _ _ _ _ _ _ _ h,AaJ]
 split
 ·rfl
 rw [AjO k (by omega) _ _ _ _ _ _ _ _ _ _ _ _ _ h,AaJ,AdF k (by omega) _ _ (by omega),AaJ,Afg k (by omega) _ _ (by simp only [List.length_append,Aa3]; omega) (by omega),AaJ]
 simp only [Agc,List.append_assoc]
def Ara (x y : AaD) : Bool:=(x.Author==y.Author)&&((x.Height==y.Height)&&(Abo x.Digest y.Digest))
theorem Ase (k : Nat) (a b : List AaD) : ∀ (n : Nat) (i : Int),Aae.L1 k a b n i=AbC.L1 k a b n i
 | 0,_=>rfl
 | n+1,i=>by rw [Aae.L1,AbC.L1]; simp only [Ase k a b n]
theorem Asr (k : Nat) (a b : List Int) : ∀ (n : Nat) (i : Int),Aa2.L1 k a b n i=AbD.L1 k a b n i
 | 0,_=>rfl
 | n+1,i=>by rw [Aa2.L1,AbD.L1]; simp only [Asr k a b n]
theorem Akq (k : Nat) (a b : List Int) : Aa2 k a b=AbD k a b:=by unfold Aa2 AbD; rw [Asr]
theorem Akp (k : Nat) (a b : List AaD) : Aae k a b=AbC k a b:=by unfold Aae AbC; rw [Ase]
theorem AiN (k : Nat) (a b : List Int) (hl : a.length=b.length) (h9 : a.length≤100000) : ∀ (m i n : Nat),i+m=a.length→m<n→∃ r,AbD.L1 k a b n (i : Int)=some r∧(a=b→r=true)
 | 0,i,n+1,h,_=>by rw [AbD.L1,if_neg (by omega)]; exact ⟨_,rfl,fun _=>rfl⟩
 | m+1,i,n+1,h,hn=>by
  have h1 : i<a.length:=by omega
  have h2 : i<b.length:=by omega
  obtain ⟨r,e,hr⟩:=AiN k a b hl h9 m (i+1) n (by omega) (by omega)
  rw [AbD.L1,if_pos (by omega),AcJ h1,AcJ h2,AeS i (by omega),e]
  by_cases e : a[i]=b[i]
  ·rw [if_neg (by simp [e])]; exact ⟨r,rfl,hr⟩
  ·rw [if_pos e]; exact ⟨_,rfl,fun q=>by subst q; exact absurd rfl e⟩
theorem AiM (k : Nat) (a b : List AaD) (hl : a.length=b.length) (h9 : a.length≤100000) : ∀ (m i n : Nat),i+m=a.length→m<n→∃ r,AbC.L1 k a b n (i : Int)=some r∧(a=b→r=true)
 | 0,i,n+1,h,_=>by rw [AbC.L1,if_neg (by omega)]; exact ⟨_,rfl,fun _=>rfl⟩
 | m+1,i,n+1,h,hn=>by
  have h1 : i<a.length:=by omega
  have h2 : i<b.length:=by omega
  obtain ⟨r,e,hr⟩:=AiM k a b hl h9 m (i+1) n (by omega) (by omega)
  rw [AbC.L1,if_pos (by omega),AcJ h1,AcJ h2,AeS i (by omega),e,Ai7]
  by_cases e : (!(a[i].Author==b[i].Author&&(a[i].Height==b[i].Height&&Abo a[i].Digest b[i].Digest)))=true
  ·rw [if_pos e]
   refine ⟨_,rfl,fun q=>?_⟩
   subst q
   simp [AeA] at e
  ·rw [if_neg e]; exact ⟨r,rfl,hr⟩
theorem Ak2 (k : Nat) (a b : List Int) (h : a.length<k) (h9 : a.length≤100000) : ∃ r,AbD k a b=some r∧(a=b→r=true):=by
 unfold AbD
 by_cases e : a.length=b.length
 ·rw [if_neg (by omega)]; exact AiN k a b e h9 a.length 0 k (by omega) h
 ·rw [if_pos (by omega)]; exact ⟨_,rfl,fun q=>by subst q; exact absurd rfl e⟩
theorem Ak1 (k : Nat) (a b : List AaD) (h : a.length<k) (h9 : a.length≤100000) : ∃ r,AbC k a b=some r∧(a=b→r=true):=by
 unfold AbC
 by_cases e : a.length=b.length
 ·rw [if_neg (by omega)]; exact AiM k a b e h9 a.length 0 k (by omega) h
 ·rw [if_pos (by omega)]; exact ⟨_,rfl,fun q=>by subst q; exact absurd rfl e⟩
theorem AnF (k : Nat) (a1 a2 : Int) (a3 : ByteArray) (a4 a5 a6 a7 a8 : Int) (a9 : List Int) (a10 : List AaD) (a11 : ByteArray) (a12 : Int) (a13 : ByteArray) (b1 b2 : Int) (b3 : ByteArray) (b4 b5 b6 b7 b8 : Int) (b9 : List Int) (b10 : List AaD) (b11 : ByteArray) (b12 : Int) (b13 : ByteArray) :
 AcF k a1 a2 a3 a4 a5 a6 a7 a8 a9 a10 a11 a12 a13 b1 b2 b3 b4 b5 b6 b7 b8 b9 b10 b11 b12 b13=Acf k a1 a2 a3 a4 a5 a6 a7 a8 a9 a10 a11 a12 a13 b1 b2 b3 b4 b5 b6 b7 b8 b9 b10 b11 b12 b13:=by
 unfold AcF Acf
 rw [Akq,Akp]
theorem AoJ {c : Prop} [Decidable c] {x y : Option Bool} (hx : ∃ r,x=some r) (hy : ∃ r,y=some r) : ∃ r,(if c then x else y)=some r:=by split <;> assumption
theorem AnE (k : Nat) (a1 a2 : Int) (a3 : ByteArray) (a4 a5 a6 a7 a8 : Int) (a9 : List Int) (a10 : List AaD) (a11 : ByteArray) (a12 : Int) (a13 : ByteArray) (b1 b2 : Int) (b3 : ByteArray) (b4 b5 b6 b7 b8 : Int) (b9 : List Int) (b10 : List AaD) (b11 : ByteArray) (b12 : Int) (b13 : ByteArray)
 (h9 : a9.length<k) (h9' : a9.length≤100000) (h10 : a10.length<k) (h10' : a10.length≤100000) :
 ∃ r,Acf k a1 a2 a3 a4 a5 a6 a7 a8 a9 a10 a11 a12 a13 b1 b2 b3 b4 b5 b6 b7 b8 b9 b10 b11 b12 b13=some r:=by
 obtain ⟨r,e,_⟩:=Ak2 k a9 b9 h9 h9'
 obtain ⟨s,f,_⟩:=Ak1 k a10 b10 h10 h10'
 unfold Acf
 rw [e,f]
 rw [AaJ,AaJ]
 iterate 8 refine AoJ ?_ ⟨false,rfl⟩
 iterate 3 refine AoJ ?_ ⟨false,rfl⟩
 exact ⟨_,rfl⟩
theorem Ah0 (k : Nat) (a1 a2 : Int) (a3 : ByteArray) (a4 a5 a6 a7 a8 : Int) (a9 : List Int) (a10 : List AaD) (a11 : ByteArray) (a12 : Int) (a13 : ByteArray)
 (h9 : a9.length<k) (h9' : a9.length≤100000) (h10 : a10.length<k) (h10' : a10.length≤100000) :
 Acf k a1 a2 a3 a4 a5 a6 a7 a8 a9 a10 a11 a12 a13 a1 a2 a3 a4 a5 a6 a7 a8 a9 a10 a11 a12 a13=some true:=by
 obtain ⟨r,e,hr⟩:=Ak2 k a9 a9 h9 h9'
 obtain ⟨s,f,hs⟩:=Ak1 k a10 a10 h10 h10'
 unfold Acf
 rw [e,f,hr rfl,hs rfl]
 simp [AeA]
theorem Ago (k : Nat) (hk : 3000000<k) (a1 a2 : Int) (a3 : ByteArray) (a4 a5 a6 a7 a8 : Int) (a9 : List Int) (a10 : List AaD) (a11 : ByteArray) (a12 : Int) (a13 : ByteArray) (b1 b2 : Int) (b3 : ByteArray) (b4 b5 b6 b7 b8 : Int) (b9 : List Int) (b10 : List AaD) (b11 : ByteArray) (b12 : Int) (b13 : ByteArray)
 (h : AfH a3 a9 a10 a11) (hd : a13.size≤100) :
 AdK k a1 a2 a3 a4 a5 a6 a7 a8 a9 a10 a11 a12 a13 b1 b2 b3 b4 b5 b6 b7 b8 b9 b10 b11 b12 b13=some true:=by
 have h1:=h.l
 have h2:=h.q
 obtain ⟨r,e⟩:=AnE k a1 a2 a3 a4 a5 a6 a7 a8 a9 a10 a11 a12 a13 b1 b2 b3 b4 b5 b6 b7 b8 b9 b10 b11 b12 b13 (by omega) (by omega) (by omega) (by omega)
 unfold AdK
 rw [AnI k hk _ _ _ _ _ _ _ _ _ _ _ _ _ h hd,AgX k hk _ _ _ _ _ _ _ _ _ _ _ _ _ h hd]
 generalize Aly a1 a2 a3 a4 a5 a6 a7 a8 a9 a10 a11 a12 a13=E
 obtain ⟨E1,E2⟩:=E
 rw [Aaq,Aaq,Aks k _ _ _ _ _ _ _ _ _ _ _ _ _ (by omega) (by omega) (by omega),AjN k _ _ _ _ _ _ _ _ _ _ _ _ _ (by omega) (by omega) (by omega),AaJ,AaJ,if_pos rfl,
  AjP k (by omega) _ _ _ _ _ _ _ _ _ _ _ _ _ h,AjO k (by omega) _ _ _ _ _ _ _ _ _ _ _ _ _ h,AaJ,AaJ,if_pos (AeA _),Ah1 k hk _ _ _ _ _ _ _ _ _ _ _ _ _ h,Afe k hk _ _ _ _ _ _ _ _ _ _ _ _ _ h,AaJ,AaJ,if_pos (AeA _),
  Ahz k hk _ _ _ _ _ _ _ _ _ _ _ _ _ h,AgV k hk _ _ _ _ _ _ _ _ _ _ _ _ _ h,AaJ,AaJ,if_pos (by simp),ApK k hk _ _ _ _ _ _ _ _ _ _ _ _ _ h,ApJ k hk _ _ _ _ _ _ _ _ _ _ _ _ _ h,AaJ,AaJ,
  Ah0 k _ _ _ _ _ _ _ _ _ _ _ _ _ (by show a9.length<k; omega) (by show a9.length≤_; omega) (by show a10.length<k; omega) (by show a10.length≤_; omega),AaJ,if_pos rfl,if_pos rfl,if_pos (AeA _),AnF,e,AaJ,AaJ,if_pos (by simp),AnF,Ah0 k _ _ _ _ _ _ _ _ _ _ _ _ _ (by omega) (by omega) (by omega) (by omega),AaJ]
end Go.TF
set_option linter.unusedVariables false
set_option linter.unusedSimpArgs false
namespace Go.TF
open Go Go.Abs
def Byt (l : List Int) : Prop:=∀ y ∈ l,0≤y∧y<256
theorem Byt.drop {l : List Int} (h : Byt l) (n : Nat) : Byt (l.drop n):=fun y hy=>h y (List.mem_of_mem_drop hy)
theorem Byt.take {l : List Int} (h : Byt l) (n : Nat) : Byt (l.take n):=fun y hy=>h y (List.mem_of_mem_take hy)
theorem Amy : ∀ (l : List Int),Byt l→bI (ofI l)=l:=by
 intro l h
 unfold bI ofI
 simp only [List.map_map]
 refine (List.map_congr_left (g:=id) fun y hy=>?_).trans (List.map_id _)
 have:=h y hy
 show (((UInt8.ofNat y.toNat).toNat : Nat) : Int)=y
 rw [UInt8.toNat_ofNat']
 omega
theorem AgK (l : List Int) : (ofI l).size=l.length:=by simp [ofI,ByteArray.size]
def hz (l : List Int) (a : Int) : Int:=l.foldl (fun a b=>a*256+b) a
theorem AoL : ∀ (t : List Int) (c : Int),Byt t→hz t c / 2 ^ (8*t.length)=c∧(0≤c→0≤hz t c)
 | [],c,_=>by simp [hz]
 | b::t,c,h=>by
  have hb:=h b (by simp)
  obtain ⟨h1,h2⟩:=AoL t (c*256+b) (fun y hy=>h y (by simp [hy]))
  have e : hz (b::t) c=hz t (c*256+b):=rfl
  refine ⟨?_,fun hc=>by rw [e]; exact h2 (by omega)⟩
  rw [e,List.length_cons,show 8*(t.length+1)=8*t.length+8 by omega,Int.pow_add,← Int.ediv_ediv_of_nonneg (Int.pow_nonneg (by omega)),h1]
  omega
theorem Amh : ∀ (t : List Int) (c : Int),Byt t→AiZ (hz t c) t.length=t
 | [],c,_=>rfl
 | b::t,c,h=>by
  have hb:=h b (by simp)
  have ht : Byt t:=fun y hy=>h y (by simp [hy])
  have e : hz (b::t) c=hz t (c*256+b):=rfl
  rw [List.length_cons,AiZ,e,(AoL t _ ht).1,Amh t _ ht]
  congr 1
  omega
theorem AoN : ∀ (t : List Int) (a : Int) (m : Nat),Byt t→t.length=m→m≤8→0≤a→a<2 ^ (64-8*m)→t.foldl Fb a=hz t a
 | [],a,m,_,_,_,_,_=>rfl
 | b::t,a,m,h,hl,hm,h0,h1=>by
  have hb:=h b (by simp)
  have ht : Byt t:=fun y hy=>h y (by simp [hy])
  obtain ⟨q,rfl⟩ : ∃ q,m=q+1:=⟨t.length,by simp at hl; omega⟩
  have hq : t.length=q:=by simp at hl; omega
  have e : hz (b::t) a=hz t (a*256+b):=rfl
  have hc : a*256+b<2 ^ (64-8*q)∧a*256<18446744073709551616:=by
   have : q=0∨q=1∨q=2∨q=3∨q=4∨q=5∨q=6∨q=7:=by omega
   rcases this with rfl | rfl | rfl | rfl | rfl | rfl | rfl | rfl <;> simp at h1 ⊢ <;> omega
  rw [List.foldl_cons,Aqz a b hb.1 hb.2,e,Int.emod_eq_of_lt (by omega) hc.2]
  exact AoN t (a*256+b) q ht hq (by omega) (by omega) hc.1
theorem AjE (v : Int) : ∀ j,j≤8→AiZ (v % 18446744073709551616) j=AiZ v j
 | 0,_=>rfl
 | j+1,h=>by rw [AiZ,AiZ,Aml v j (by omega),AjE v j (by omega)]
theorem AnO (v : Int) : IntKind.wrap .i64 v % 18446744073709551616=v % 18446744073709551616:=by rw [Aim]; split <;> omega
theorem AlI (l : List Int) (h : Byt l) (hl : l.length=8) : enc (Alq l)=l:=by
 unfold enc Alq
 rw [AoN l 0 8 h hl (by omega) (by omega) (by simp),← AjE _ 8 (by omega),AnO,AjE _ 8 (by omega)]
 have:=Amh l 0 h
 rw [hl] at this
 exact this
theorem Aio {l x : List Int} {a : Int} (h : Byt l) (e : Aeo l=(a,x,true)) : l=enc a++x∧Alq (enc a)=a∧Byt x:=by
 unfold Aeo at e
 split at e
 ·simp at e
 ·simp only [Prod.mk.injEq,and_true] at e
  obtain ⟨rfl,rfl⟩:=e
  have h8:=AlI (l.take 8) (h.take 8) (by simp; omega)
  rw [h8]
  exact ⟨(List.take_append_drop 8 l).symm,rfl,h.drop 8⟩
theorem AnR {l x : List Int} {s : ByteArray} {m : Int} (h : Byt l) (e : Ag9 l m=(s,x,true)) : l=Agc s++x∧(s.size : Int)≤m∧Byt x:=by
 unfold Ag9 at e
 rcases hr : Aeo l with ⟨a,y,b⟩
 rw [hr] at e
 simp only at e
 cases b
 ·simp at e
 rw [if_neg (by simp)] at e
 split at e; · simp at e
 split at e; · simp at e
 split at e; · simp at e
 obtain ⟨h1,h2,h3⟩:=Aio h hr
 simp only [Prod.mk.injEq,and_true] at e
 obtain ⟨rfl,rfl⟩:=e
 have hs : (ofI (y.take a.toNat)).size=a.toNat:=by rw [AgK,List.length_take]; omega
 refine ⟨?_,by rw [hs]; omega,h3.drop _⟩
 rw [Agc,hs,Amy _ (h3.take _),show ((a.toNat : Nat) : Int)=a by omega,List.append_assoc,List.take_append_drop]
 exact h1
theorem Amj : ∀ (n : Nat) (l : List Int),Byt l→8*n≤l.length→(Alo n l).flatMap enc=l.take (8*n)
 | 0,l,_,_=>by simp [Alo]
 | n+1,l,h,hl=>by
  rw [Alo,List.flatMap_cons,AlI _ (h.take 8) (by simp; omega),Amj n _ (h.drop 8) (by simp; omega),show 8*(n+1)=8+8*n by omega,List.take_add]
theorem AnS {l x L : List Int} {m : Int} (h : Byt l) (hl : l.length≤5000) (e : Ah5 l m=(L,x,true)) : l=enc L.length++(L.flatMap enc++x)∧(L.length : Int)≤m∧Byt x:=by
 unfold Ah5 at e
 have hl2:=Ads l
 rcases hr : Aeo l with ⟨a,y,b⟩
 rw [hr] at e hl2
 simp only at e hl2
 cases b
 ·simp at e
 rw [if_neg (by simp)] at e
 split at e; · simp at e
 split at e; · simp at e
 rw [AoY _ (by omega)] at e
 split at e; · simp at e
 obtain ⟨h1,h2,h3⟩:=Aio h hr
 simp only [Prod.mk.injEq,and_true] at e
 obtain ⟨rfl,rfl⟩:=e
 rw [AlJ]
 refine ⟨?_,by omega,h3.drop _⟩
 rw [Amj _ _ h3 (by omega),List.take_append_drop,show ((a.toNat : Nat) : Int)=a by omega]
 exact h1
theorem AjY (l : List Int) (m : Int) : (Ag9 l m).2.1.length≤l.length:=by
 unfold Ag9
 have:=Ads l
 dsimp only
 repeat' split
 all_goals simp
 omega
theorem AiL (l : List Int) (m : Int) : (Ah5 l m).2.1.length≤l.length:=by
 unfold Ah5
 have:=Ads l
 dsimp only
 repeat' split
 all_goals simp
 omega
end Go.TF
