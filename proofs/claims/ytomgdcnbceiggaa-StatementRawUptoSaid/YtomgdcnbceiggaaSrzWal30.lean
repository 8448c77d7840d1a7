import Derived.Test.YtomgdcnbceiggaaSrzLay29
import Derived.Test.YtomgdcnbceiggaaSrzLay22
import Derived.Test.YtomgdcnbceiggaaProg
import Derived.KernelRfl
set_option linter.unusedVariables false
set_option maxRecDepth 100000
namespace Go.TF
open Go Go.Abs
abbrev Iz (n : Int) : AV := .int .i64 n
abbrev Lz (l : List Int) : AV := .lst false false (l.map (.int .i64))
abbrev Lb (l : List Int) : AV := .lst false false (l.map (.int .u8))
abbrev Lw (l : List Int) : AV := .lst false false (l.map (.int .u32))
structure AaA where
  Author : Int
  Height : Int
  Digest : ByteArray
@[simp] def AaA.av (x : AaA) : AV:=AV.agg [AV.int .i64 x.Author,AV.int .i64 x.Height,AV.str x.Digest]
@[simp] theorem AaA.okEls (l : List AaA) : okEls 3 (l.map AaA.av)↔True:=iff_true_intro (Ad0.2 fun x hx=>by
  simp only [List.mem_map] at hx
  obtain ⟨b,_,rfl⟩:=hx
  simp)
@[simp] theorem AaA.gdF (S : Nat→Prop) (l : List AaA) : gdL S (AaW (l.map AaA.av))↔True:=iff_true_intro (Akd (by simp) l)
@[simp] theorem AaA.renF (σ : Nat→Nat) (l : List AaA) : AfW σ (AaW (l.map AaA.av))=AaW (l.map AaA.av):=Aix (by simp) l
@[simp] theorem AaA.lenF (l : List AaA) : (AaW (l.map AaA.av)).length=l.length*3:=Ago (F:=AaA.av) (fun _=>rfl) l
@[simp↓] theorem AaA.oneF (l : List AaA) : (AaW (l.map AaA.av)).all AV.one=true:=AkW (by simp) l
@[simp] theorem AaA.ids (S : Nat→Prop) (l : List AaA) : Abu S (l.map AaA.av)↔True:=iff_true_intro (Ahs (by simp) l)
structure AaI where
  Author : Int
  Number : Int
  Prev : ByteArray
  Time : Int
  Kind : Int
  A : Int
  B : Int
  C : Int
  Lst : (List Int)
  Pins : (List AaA)
  Body : ByteArray
  Seal_Key : Int
  Seal_Digest : ByteArray
@[simp] def AaI.av (x : AaI) : AV:=AV.agg [AV.int .i64 x.Author,AV.int .i64 x.Number,AV.str x.Prev,AV.int .i64 x.Time,AV.int .i64 x.Kind,AV.int .i64 x.A,AV.int .i64 x.B,AV.int .i64 x.C,sl (AV.int .i64) x.Lst,sl AaA.av x.Pins,AV.str x.Body,AV.int .i64 x.Seal_Key,AV.str x.Seal_Digest]
@[simp] theorem AaI.okEls (l : List AaI) : okEls 13 (l.map AaI.av)↔True:=iff_true_intro (Ad0.2 fun x hx=>by
  simp only [List.mem_map] at hx
  obtain ⟨b,_,rfl⟩:=hx
  simp)
@[simp] theorem AaI.gdF (S : Nat→Prop) (l : List AaI) : gdL S (AaW (l.map AaI.av))↔True:=iff_true_intro (Akd (by simp) l)
@[simp] theorem AaI.renF (σ : Nat→Nat) (l : List AaI) : AfW σ (AaW (l.map AaI.av))=AaW (l.map AaI.av):=Aix (by simp) l
@[simp] theorem AaI.lenF (l : List AaI) : (AaW (l.map AaI.av)).length=l.length*13:=Ago (F:=AaI.av) (fun _=>rfl) l
@[simp↓] theorem AaI.oneF (l : List AaI) : (AaW (l.map AaI.av)).all AV.one=true:=AkW (by simp) l
@[simp] theorem AaI.ids (S : Nat→Prop) (l : List AaI) : Abu S (l.map AaI.av)↔True:=iff_true_intro (Ahs (by simp) l)
def AdM (k : Nat) (v0 : Int) (v1 : Int) (v2 : ByteArray) (v3 : Int) (v4 : Int) (v5 : Int) (v6 : Int) (v7 : Int) (v8 : (List Int)) (v9 : (List AaA)) (v10 : ByteArray) (v11 : Int) (v12 : ByteArray) : Option Bool :=
  if (v8.length : Int)≤100 then
    if (v9.length : Int)≤100 then
      if (v10.size : Int)≤5000 then
        if (v2.size : Int)≤100 then
          some (decide ((v12.size : Int)≤100))
        else
          some false
      else
        some false
    else
      some false
  else
    some false
def AcJ (k : Nat) (v0 : (List Int)) : Option (List Int) :=
  chk (v0.length*8≤140737488355328) <| some v0
def Aba (k : Nat) (v0 : (List AaA)) : Option (List AaA) :=
  chk (v0.length*32≤140737488355328) <| some v0
def AbW (k : Nat) (v0 : (List Int)) : Option (List Int) :=
  chk (v0.length*1≤140737488355328) <| some v0
def AcS.L1 (k : Nat) (v1 : Int) : Nat→Int→(List Int)→Option (List Int)
  | 0,_,_=>none
  | n+1,v3,v4 =>
    if 0≤v3 then
      chk ((0 : Int)≤IntKind.wrap .u64 v3) <|
      chk ((v4.length+([IntKind.wrap .u8 (Int.fdiv (IntKind.wrap .u64 v1) (2 ^ (min ((IntKind.wrap .u64 v3).toNat) 64)))] : List Int).length)*1≤140737488355328) <|
      AcS.L1 k v1 n (IntKind.wrap .i64 (v3-8)) (v4++([IntKind.wrap .u8 (Int.fdiv (IntKind.wrap .u64 v1) (2 ^ (min ((IntKind.wrap .u64 v3).toNat) 64)))] : List Int))
    else
      some v4
def AcS (k : Nat) (v0 : (List Int)) (v1 : Int) : Option (List Int) :=
  AcS.L1 k v1 k 56 v0
def Acq (k : Nat) (v0 : (List Int)) (v1 : Int) : Option (List Int) :=
  AbD (AbW k v0) fun v3 =>
  AbD (AcS k v3 v1) fun v4 =>
  some v4
def AdU (k : Nat) (v0 : (List Int)) (v1 : ByteArray) : Option (List Int) :=
  AbD (Acq k v0 (v1.size : Int)) fun v3 =>
  chk ((v3.length+(bI v1).length)*1≤140737488355328) <|
  some (v3++(bI v1))
def AcC.L1 (k : Nat) (v1 : (List Int)) : Nat→Int→(List Int)→Option (List Int)
  | 0,_,_=>none
  | n+1,v4,v5 =>
    if v4<(v1.length : Int) then
      idx v1 v4 fun v6 =>
      AbD (AcS k v5 v6) fun v7 =>
      AcC.L1 k v1 n (IntKind.wrap .i64 (v4+1)) v7
    else
      some v5
def AcC (k : Nat) (v0 : (List Int)) (v1 : (List Int)) : Option (List Int) :=
  AbD (Acq k v0 (v1.length : Int)) fun v3 =>
  AcC.L1 k v1 k 0 v3
def Aak.L2 (k : Nat) (v9 : (List AaA)) (v10 : ByteArray) : Nat→(List Int)→Int→Option (List Int)
  | 0,_,_=>none
  | n+1,v23,v24 =>
    if v24<(v9.length : Int) then
      idx v9 v24 fun v25 =>
      AbD (Acq k v23 v25.Author) fun v26 =>
      AbD (Acq k v26 v25.Height) fun v27 =>
      AbD (AdU k v27 v25.Digest) fun v28 =>
      Aak.L2 k v9 v10 n v28 (IntKind.wrap .i64 (v24+1))
    else
      AbD (AdU k v23 v10) fun v29 =>
      some v29
def Aak.L1 (k : Nat) (v3 : Int) (v4 : Int) (v5 : Int) (v6 : Int) (v7 : Int) (v8 : (List Int)) (v9 : (List AaA)) (v10 : ByteArray) : Nat→(List Int)→Int→Option (List Int)
  | 0,_,_=>none
  | n+1,v17,v18 =>
    if v18<5 then
      chk (v18<5) <|
      idx ([v3,v4,v5,v6,v7] : List Int) v18 fun v19 =>
      AbD (Acq k v17 v19) fun v20 =>
      Aak.L1 k v3 v4 v5 v6 v7 v8 v9 v10 n v20 (IntKind.wrap .i64 (v18+1))
    else
      AbD (AcC k v17 v8) fun v21 =>
      AbD (Acq k v21 (v9.length : Int)) fun v22 =>
      Aak.L2 k v9 v10 k v22 0
def Aak (k : Nat) (v0 : Int) (v1 : Int) (v2 : ByteArray) (v3 : Int) (v4 : Int) (v5 : Int) (v6 : Int) (v7 : Int) (v8 : (List Int)) (v9 : (List AaA)) (v10 : ByteArray) (v11 : Int) (v12 : ByteArray) : Option (List Int) :=
  AbD (Acq k ([] : List Int) v0) fun v14 =>
  AbD (Acq k v14 v1) fun v15 =>
  AbD (AdU k v15 v2) fun v16 =>
  Aak.L1 k v3 v4 v5 v6 v7 v8 v9 v10 k v16 0
def Ado (k : Nat) : Option (List Int) :=
  chk ((List.replicate 64 0).length=64∧([1116352408,1899447441,3049323471,3921009573,961987163,1508970993,2453635748,2870763221,3624381080,310598401,607225278,1426881987,1925078388,2162078206,2614888103,3248222580,3835390401,4022224774,264347078,604807628,770255983,1249150122,1555081692,1996064986,2554220882,2821834349,2952996808,3210313671,3336571891,3584528711,113926993,338241895,666307205,773529912,1294757372,1396182291,1695183700,1986661051,2177026350,2456956037,2730485921,2820302411,3259730800,3345764771,3516065817,3600352804,4094571909,275423344,430227734,506948616,659060556,883997877,958139571,1322822218,1537002063,1747873779,1955562222,2024104815,2227730452,2361852424,2428436474,2756734187,3204031479,3329325298] : List Int).length=64) <|
  chk (([1116352408,1899447441,3049323471,3921009573,961987163,1508970993,2453635748,2870763221,3624381080,310598401,607225278,1426881987,1925078388,2162078206,2614888103,3248222580,3835390401,4022224774,264347078,604807628,770255983,1249150122,1555081692,1996064986,2554220882,2821834349,2952996808,3210313671,3336571891,3584528711,113926993,338241895,666307205,773529912,1294757372,1396182291,1695183700,1986661051,2177026350,2456956037,2730485921,2820302411,3259730800,3345764771,3516065817,3600352804,4094571909,275423344,430227734,506948616,659060556,883997877,958139571,1322822218,1537002063,1747873779,1955562222,2024104815,2227730452,2361852424,2428436474,2756734187,3204031479,3329325298] : List Int).length=64) <|
  some ([1116352408,1899447441,3049323471,3921009573,961987163,1508970993,2453635748,2870763221,3624381080,310598401,607225278,1426881987,1925078388,2162078206,2614888103,3248222580,3835390401,4022224774,264347078,604807628,770255983,1249150122,1555081692,1996064986,2554220882,2821834349,2952996808,3210313671,3336571891,3584528711,113926993,338241895,666307205,773529912,1294757372,1396182291,1695183700,1986661051,2177026350,2456956037,2730485921,2820302411,3259730800,3345764771,3516065817,3600352804,4094571909,275423344,430227734,506948616,659060556,883997877,958139571,1322822218,1537002063,1747873779,1955562222,2024104815,2227730452,2361852424,2428436474,2756734187,3204031479,3329325298] : List Int)
def Aao (k : Nat) (v0 : Int) (v1 : Int) : Option Int :=
  chk ((0 : Int)≤AaG .and .u64 (IntKind.wrap .u64 v1) 31) <|
  chk ((0 : Int)≤IntKind.wrap .u64 (32-AaG .and .u64 (IntKind.wrap .u64 v1) 31)) <|
  some (AaG .or .u32 (IntKind.wrap .u32 (v0*2 ^ (min ((AaG .and .u64 (IntKind.wrap .u64 v1) 31).toNat) 32))) (Int.fdiv v0 (2 ^ (min ((IntKind.wrap .u64 (32-AaG .and .u64 (IntKind.wrap .u64 v1) 31)).toNat) 32))))
def AaN (k : Nat) (v0 : Int) (v1 : Int) : Option Int :=
  AbD (Aao k v0 (IntKind.wrap .i64 (-v1))) fun v3 =>
  some v3
def AaL.L4 (k : Nat) (v21 : (List Int)) : Nat→Int→(List Int)→Option (List Int)
  | 0,_,_=>none
  | n+1,v38,v39 =>
    if v38<8 then
      chk ((0 : Int)≤v38∧v38<8∧(v38).toNat<v39.length) <|
      idx v39 v38 fun v40 =>
      chk ((0 : Int)≤v38∧v38<8∧(v38).toNat<v21.length) <|
      idx v21 v38 fun v41 =>
      chk ((0 : Int)≤v38∧v38<8∧(v38).toNat<v39.length) <|
      AaL.L4 k v21 n (IntKind.wrap .i64 (v38+1)) (v39.set (v38).toNat (IntKind.wrap .u32 (v40+v41)))
    else
      some v39
def AaL.L3 (k : Nat) (v0 : (List Int)) (v2 : (List Int)) (v11 : (List Int)) : Nat→Int→(List Int)→Option (List Int)
  | 0,_,_=>none
  | n+1,v20,v21 =>
    if v20<64 then
      chk ((0 : Int)≤0∧0<8∧(0 : Int).toNat<v21.length) <|
      idx v21 (0 : Int) fun v22 =>
      chk ((0 : Int)≤4∧4<8∧(4 : Int).toNat<v21.length) <|
      idx v21 (4 : Int) fun v23 =>
      chk ((0 : Int)≤7∧7<8∧(7 : Int).toNat<v21.length) <|
      idx v21 (7 : Int) fun v24 =>
      AbD (AaN k v23 6) fun v25 =>
      AbD (AaN k v23 11) fun v26 =>
      AbD (AaN k v23 25) fun v27 =>
      chk ((0 : Int)≤5∧5<8∧(5 : Int).toNat<v21.length) <|
      idx v21 (5 : Int) fun v28 =>
      chk ((0 : Int)≤6∧6<8∧(6 : Int).toNat<v21.length) <|
      idx v21 (6 : Int) fun v29 =>
      chk ((0 : Int)≤v20∧v20<64∧(v20).toNat<v2.length) <|
      idx v2 v20 fun v30 =>
      chk ((0 : Int)≤v20∧v20<64∧(v20).toNat<v11.length) <|
      idx v11 v20 fun v31 =>
      AbD (AaN k v22 2) fun v32 =>
      AbD (AaN k v22 13) fun v33 =>
      AbD (AaN k v22 22) fun v34 =>
      chk ((0 : Int)≤1∧1<8∧(1 : Int).toNat<v21.length) <|
      idx v21 (1 : Int) fun v35 =>
      chk ((0 : Int)≤2∧2<8∧(2 : Int).toNat<v21.length) <|
      idx v21 (2 : Int) fun v36 =>
      chk ((0 : Int)≤1∧1<8∧(1 : Int).toNat<v21.length) <|
      chk ((0 : Int)≤2∧2<8∧(2 : Int).toNat<v21.length) <|
      chk ((0 : Int)≤0∧0<8∧(0 : Int).toNat<v21.length) <|
      chk ((0 : Int)≤1∧1<8∧(1 : Int).toNat<v21.length) <|
      chk ((0 : Int)≤2∧2<8∧(2 : Int).toNat<v21.length) <|
      chk ((0 : Int)≤3∧3<8∧(3 : Int).toNat<v21.length) <|
      idx v21 (3 : Int) fun v37 =>
      chk ((0 : Int)≤4∧4<8∧(4 : Int).toNat<v21.length) <|
      chk ((0 : Int)≤5∧5<8∧(5 : Int).toNat<v21.length) <|
      chk ((0 : Int)≤6∧6<8∧(6 : Int).toNat<v21.length) <|
      chk (v21.length=8∧([IntKind.wrap .u32 (IntKind.wrap .u32 (IntKind.wrap .u32 (IntKind.wrap .u32 (IntKind.wrap .u32 (v24+AaG .xor .u32 (AaG .xor .u32 v25 v26) v27)+AaG .xor .u32 (AaG .and .u32 v23 v28) (AaG .and .u32 (AaG .xor .u32 (IntKind.max .u32) v23) v29))+v30)+v31)+IntKind.wrap .u32 (AaG .xor .u32 (AaG .xor .u32 v32 v33) v34+AaG .xor .u32 (AaG .xor .u32 (AaG .and .u32 v22 v35) (AaG .and .u32 v22 v36)) (AaG .and .u32 v35 v36))),v22,v35,v36,IntKind.wrap .u32 (v37+IntKind.wrap .u32 (IntKind.wrap .u32 (IntKind.wrap .u32 (IntKind.wrap .u32 (v24+AaG .xor .u32 (AaG .xor .u32 v25 v26) v27)+AaG .xor .u32 (AaG .and .u32 v23 v28) (AaG .and .u32 (AaG .xor .u32 (IntKind.max .u32) v23) v29))+v30)+v31)),v23,v28,v29] : List Int).length=8) <|
      AaL.L3 k v0 v2 v11 n (IntKind.wrap .i64 (v20+1)) ([IntKind.wrap .u32 (IntKind.wrap .u32 (IntKind.wrap .u32 (IntKind.wrap .u32 (IntKind.wrap .u32 (v24+AaG .xor .u32 (AaG .xor .u32 v25 v26) v27)+AaG .xor .u32 (AaG .and .u32 v23 v28) (AaG .and .u32 (AaG .xor .u32 (IntKind.max .u32) v23) v29))+v30)+v31)+IntKind.wrap .u32 (AaG .xor .u32 (AaG .xor .u32 v32 v33) v34+AaG .xor .u32 (AaG .xor .u32 (AaG .and .u32 v22 v35) (AaG .and .u32 v22 v36)) (AaG .and .u32 v35 v36))),v22,v35,v36,IntKind.wrap .u32 (v37+IntKind.wrap .u32 (IntKind.wrap .u32 (IntKind.wrap .u32 (IntKind.wrap .u32 (v24+AaG .xor .u32 (AaG .xor .u32 v25 v26) v27)+AaG .xor .u32 (AaG .and .u32 v23 v28) (AaG .and .u32 (AaG .xor .u32 (IntKind.max .u32) v23) v29))+v30)+v31)),v23,v28,v29] : List Int)
    else
      AaL.L4 k v21 k 0 v0
def AaL.L2 (k : Nat) (v0 : (List Int)) (v2 : (List Int)) : Nat→Int→(List Int)→Option (List Int)
  | 0,_,_=>none
  | n+1,v10,v11 =>
    if v10<64 then
      chk ((0 : Int)≤(IntKind.wrap .i64 (v10-15))∧(IntKind.wrap .i64 (v10-15))<64∧(IntKind.wrap .i64 (v10-15)).toNat<v11.length) <|
      idx v11 (IntKind.wrap .i64 (v10-15)) fun v12 =>
      chk ((0 : Int)≤(IntKind.wrap .i64 (v10-2))∧(IntKind.wrap .i64 (v10-2))<64∧(IntKind.wrap .i64 (v10-2)).toNat<v11.length) <|
      idx v11 (IntKind.wrap .i64 (v10-2)) fun v13 =>
      chk ((0 : Int)≤(IntKind.wrap .i64 (v10-16))∧(IntKind.wrap .i64 (v10-16))<64∧(IntKind.wrap .i64 (v10-16)).toNat<v11.length) <|
      idx v11 (IntKind.wrap .i64 (v10-16)) fun v14 =>
      AbD (AaN k v12 7) fun v15 =>
      AbD (AaN k v12 18) fun v16 =>
      chk ((0 : Int)≤(IntKind.wrap .i64 (v10-7))∧(IntKind.wrap .i64 (v10-7))<64∧(IntKind.wrap .i64 (v10-7)).toNat<v11.length) <|
      idx v11 (IntKind.wrap .i64 (v10-7)) fun v17 =>
      AbD (AaN k v13 17) fun v18 =>
      AbD (AaN k v13 19) fun v19 =>
      chk ((0 : Int)≤v10∧v10<64∧(v10).toNat<v11.length) <|
      AaL.L2 k v0 v2 n (IntKind.wrap .i64 (v10+1)) (v11.set (v10).toNat (IntKind.wrap .u32 (IntKind.wrap .u32 (IntKind.wrap .u32 (v14+AaG .xor .u32 (AaG .xor .u32 v15 v16) (Int.fdiv v12 (2 ^ (3))))+v17)+AaG .xor .u32 (AaG .xor .u32 v18 v19) (Int.fdiv v13 (2 ^ (10))))))
    else
      chk (v0.length=8) <|
      chk ((List.replicate 8 0).length=8∧v0.length=8) <|
      AaL.L3 k v0 v2 v11 k 0 v0
def AaL.L1 (k : Nat) (v0 : (List Int)) (v1 : (List Int)) (v2 : (List Int)) : Nat→Int→(List Int)→Option (List Int)
  | 0,_,_=>none
  | n+1,v4,v5 =>
    if v4<16 then
      idx v1 (IntKind.wrap .i64 (4*v4)) fun v6 =>
      idx v1 (IntKind.wrap .i64 (IntKind.wrap .i64 (4*v4)+1)) fun v7 =>
      idx v1 (IntKind.wrap .i64 (IntKind.wrap .i64 (4*v4)+2)) fun v8 =>
      idx v1 (IntKind.wrap .i64 (IntKind.wrap .i64 (4*v4)+3)) fun v9 =>
      chk ((0 : Int)≤v4∧v4<64∧(v4).toNat<v5.length) <|
      AaL.L1 k v0 v1 v2 n (IntKind.wrap .i64 (v4+1)) (v5.set (v4).toNat (AaG .or .u32 (AaG .or .u32 (AaG .or .u32 (IntKind.wrap .u32 ((IntKind.wrap .u32 v6)*2 ^ (24))) (IntKind.wrap .u32 ((IntKind.wrap .u32 v7)*2 ^ (16)))) (IntKind.wrap .u32 ((IntKind.wrap .u32 v8)*2 ^ (8)))) (IntKind.wrap .u32 v9)))
    else
      AaL.L2 k v0 v2 k 16 v5
def AaL (k : Nat) (v0 : (List Int)) (v1 : (List Int)) (v2 : (List Int)) : Option (List Int) :=
  AaL.L1 k v0 v1 v2 k 0 (List.replicate 64 0)
def Aal.L4 (k : Nat) (v7 : (List Int)) : Nat→Int→(List Int)→Option ByteArray
  | 0,_,_=>none
  | n+1,v9,v10 =>
    if v9<8 then
      chk (v9<8) <|
      idx v7 v9 fun v11 =>
      chk ((v10.length+([IntKind.wrap .u8 (Int.fdiv v11 (2 ^ (24))),IntKind.wrap .u8 (Int.fdiv v11 (2 ^ (16))),IntKind.wrap .u8 (Int.fdiv v11 (2 ^ (8))),IntKind.wrap .u8 v11] : List Int).length)*1≤140737488355328) <|
      Aal.L4 k v7 n (IntKind.wrap .i64 (v9+1)) (v10++([IntKind.wrap .u8 (Int.fdiv v11 (2 ^ (24))),IntKind.wrap .u8 (Int.fdiv v11 (2 ^ (16))),IntKind.wrap .u8 (Int.fdiv v11 (2 ^ (8))),IntKind.wrap .u8 v11] : List Int))
    else
      some (ofI v10)
def Aal.L3 (k : Nat) (v5 : (List Int)) : Nat→(List Int)→(List Int)→Option ByteArray
  | 0,_,_=>none
  | n+1,v6,v7 =>
    if 0<(v6.length : Int) then
      chk ((64 : Int)≤(v6.length : Int)) <|
      AbD (AaL k v7 (v6.take (64 : Int).toNat) v5) fun v8 =>
      chk ((64 : Int)≤(v6.length : Int)) <|
      Aal.L3 k v5 n (v6.drop (64 : Int).toNat) v8
    else
      chk (v7.length=8) <|
      Aal.L4 k v7 k 0 ([] : List Int)
def Aal.L2 (k : Nat) (v0 : (List Int)) : Nat→Int→(List Int)→Option ByteArray
  | 0,_,_=>none
  | n+1,v3,v4 =>
    if 0≤v3 then
      chk ((0 : Int)≤IntKind.wrap .u64 v3) <|
      chk ((v4.length+([IntKind.wrap .u8 (Int.fdiv (IntKind.wrap .u64 (IntKind.wrap .u64 (v0.length : Int)*8)) (2 ^ (min ((IntKind.wrap .u64 v3).toNat) 64)))] : List Int).length)*1≤140737488355328) <|
      Aal.L2 k v0 n (IntKind.wrap .i64 (v3-8)) (v4++([IntKind.wrap .u8 (Int.fdiv (IntKind.wrap .u64 (IntKind.wrap .u64 (v0.length : Int)*8)) (2 ^ (min ((IntKind.wrap .u64 v3).toNat) 64)))] : List Int))
    else
      AbD (Ado k) fun v5 =>
      chk ((List.replicate 8 0).length=8∧([1779033703,3144134277,1013904242,2773480762,1359893119,2600822924,528734635,1541459225] : List Int).length=8) <|
      chk ((List.replicate 64 0).length=64∧v5.length=64) <|
      Aal.L3 k v5 k v4 ([1779033703,3144134277,1013904242,2773480762,1359893119,2600822924,528734635,1541459225] : List Int)
def Aal.L1 (k : Nat) (v0 : (List Int)) : Nat→(List Int)→Option ByteArray
  | 0,_=>none
  | n+1,v2 =>
    if (Int.tmod (v2.length : Int) 64)≠56 then
      chk ((v2.length+([0] : List Int).length)*1≤140737488355328) <|
      Aal.L1 k v0 n (v2++([0] : List Int))
    else
      Aal.L2 k v0 k 56 v2
def Aal (k : Nat) (v0 : (List Int)) : Option ByteArray :=
  chk (v0.length*1≤140737488355328) <|
  chk ((v0.length+([128] : List Int).length)*1≤140737488355328) <|
  Aal.L1 k v0 k (v0++([128] : List Int))
def Abh (k : Nat) (v0 : Int) (v1 : Int) (v2 : ByteArray) (v3 : Int) (v4 : Int) (v5 : Int) (v6 : Int) (v7 : Int) (v8 : (List Int)) (v9 : (List AaA)) (v10 : ByteArray) (v11 : Int) (v12 : ByteArray) : Option ByteArray :=
  AbD (Aak k v0 v1 v2 v3 v4 v5 v6 v7 v8 v9 v10 v11 v12) fun v14 =>
  AbD (Aal k v14) fun v15 =>
  some v15
def AcZ (k : Nat) (v0 : Int) (v1 : Int) (v2 : ByteArray) (v3 : Int) (v4 : Int) (v5 : Int) (v6 : Int) (v7 : Int) (v8 : (List Int)) (v9 : (List AaA)) (v10 : ByteArray) (v11 : Int) (v12 : ByteArray) : Option AaI :=
  AbD (AcJ k v8) fun v14 =>
  AbD (Aba k v9) fun v15 =>
  AbD (Abh k v0 v1 v2 v3 v4 v5 v6 v7 v14 v15 v10 v11 v12) fun v16 =>
  some (AaI.mk v0 v1 v2 v3 v4 v5 v6 v7 v14 v15 v10 v0 v16)
def Abd (k : Nat) (v0 : Int) (v1 : Int) (v2 : Int) : Option Bool :=
  if v1≤v0 then
    some (decide (v0≤v2))
  else
    some false
def AbN (k : Nat) (v0 : Int) : Option Bool :=
  AbD (Abd k v0 0 1099511627776) fun v2 =>
  some v2
def AcM (k : Nat) (v0 : Int) (v1 : Int) (v2 : ByteArray) (v3 : Int) (v4 : Int) (v5 : Int) (v6 : Int) (v7 : Int) (v8 : (List Int)) (v9 : (List AaA)) (v10 : ByteArray) (v11 : Int) (v12 : ByteArray) : Option Bool :=
  if v4=1 then
    AbD (Abd k v5 0 63) fun v14 =>
    if v14=true then
      if v5≠v0 then
        AbD (Abd k v6 1 3) fun v15 =>
        if v15=true then
          AbD (Abd k v7 v3 2147483648) fun v16 =>
          some v16
        else
          some false
      else
        some false
    else
      some false
  else
    if v4=2 then
      AbD (Abd k v5 0 199) fun v17 =>
      if v17=true then
        if v6=0 then
          some (v7==0)
        else
          some false
      else
        some false
    else
      if v4=3 then
        if v5=0 then
          if v6=0 then
            some (v7==0)
          else
            some false
        else
          some false
      else
        some true
def Acs (k : Nat) (v0 : Int) : Option Bool :=
  AbD (AbN k v0) fun v2 =>
  some (!v2)
def AaU.L1 (k : Nat) (v0 : (List Int)) : Nat→Int→Option Int
  | 0,_=>none
  | n+1,v2 =>
    if v2<(v0.length : Int) then
      idx v0 v2 fun v3 =>
      AbD (Acs k v3) fun v4 =>
      if v4=true then
        some v2
      else
        AaU.L1 k v0 n (IntKind.wrap .i64 (v2+1))
    else
      some (-1)
def AaU (k : Nat) (v0 : (List Int)) : Option Int :=
  AaU.L1 k v0 k 0
def Aaz (k : Nat) (v0 : (List Int)) : Option Bool :=
  AbD (AaU k v0) fun v2 =>
  some (decide (0≤v2))
def AaP.J2 (k : Nat) (v2 : Int) (kb1 : Int→Option Bool) (v4 : Bool) : Option Bool :=
  if v4=true then
    some false
  else
    kb1 (IntKind.wrap .i64 (v2+1))
def AaP.L1 (k : Nat) (v0 : (List AaA)) : Nat→Int→Option Bool
  | 0,_=>none
  | n+1,v2 =>
    if v2<(v0.length : Int) then
      idx v0 v2 fun v3 =>
      AbD (Abd k v3.Author 0 63) fun v5 =>
      if (!v5)=true then
        AaP.J2 k v2 (fun v2_=>AaP.L1 k v0 n v2_) true
      else
        if 0<v2 then
          idx v0 (IntKind.wrap .i64 (v2-1)) fun v6 =>
          if v3.Author≤v6.Author then
            AaP.J2 k v2 (fun v2_=>AaP.L1 k v0 n v2_) true
          else
            AbD (Abd k v3.Height 1 200) fun v7 =>
            if (!v7)=true then
              AaP.J2 k v2 (fun v2_=>AaP.L1 k v0 n v2_) true
            else
              AaP.J2 k v2 (fun v2_=>AaP.L1 k v0 n v2_) ((v3.Digest.size : Int) !=32)
        else
          AbD (Abd k v3.Height 1 200) fun v8 =>
          if (!v8)=true then
            AaP.J2 k v2 (fun v2_=>AaP.L1 k v0 n v2_) true
          else
            AaP.J2 k v2 (fun v2_=>AaP.L1 k v0 n v2_) ((v3.Digest.size : Int) !=32)
    else
      some true
def AaP (k : Nat) (v0 : (List AaA)) : Option Bool :=
  AaP.L1 k v0 k 0
def AaM.J1 (k : Nat) : Option Int :=
  some 0
def AaM.J2 (k : Nat) (v24 : Bool) : Option Int :=
  if v24=true then
    some 1
  else
    AaM.J1 k
def AaM.J3 (k : Nat) (v35 : Bool) : Option Int :=
  if v35=true then
    some 1
  else
    AaM.J1 k
def AaM (k : Nat) (v0 : Int) (v1 : Int) (v2 : ByteArray) (v3 : Int) (v4 : Int) (v5 : Int) (v6 : Int) (v7 : Int) (v8 : (List Int)) (v9 : (List AaA)) (v10 : ByteArray) (v11 : Int) (v12 : ByteArray) : Option Int :=
  AbD (Abd k v0 0 63) fun v14 =>
  if (!v14)=true then
    some 4
  else
    AbD (Abd k v4 1 3) fun v15 =>
    if (!v15)=true then
      AbD (Abd k v4 10 31) fun v16 =>
      if (!v16)=true then
        some 5
      else
        AbD (Abd k v3 0 2147483648) fun v17 =>
        if (!v17)=true then
          some 9
        else
          AbD (Abd k v1 0 199) fun v18 =>
          if (!v18)=true then
            some 2
          else
            AbD (AbN k v5) fun v19 =>
            if (!v19)=true then
              some 2
            else
              AbD (AbN k v6) fun v20 =>
              if (!v20)=true then
                some 2
              else
                AbD (AbN k v7) fun v21 =>
                if (!v21)=true then
                  some 2
                else
                  AbD (AcM k v0 v1 v2 v3 v4 v5 v6 v7 v8 v9 v10 v11 v12) fun v22 =>
                  if (!v22)=true then
                    some 2
                  else
                    AbD (Aaz k v8) fun v23 =>
                    if v23=true then
                      some 2
                    else
                      if 64<(v8.length : Int) then
                        some 3
                      else
                        if 64<(v9.length : Int) then
                          some 3
                        else
                          if 4096<(v10.size : Int) then
                            some 3
                          else
                            if v1=0 then
                              if (!AbZ v2 (ByteArray.mk #[]))=true then
                                AaM.J2 k true
                              else
                                if 0<v1 then
                                  none
                                else
                                  AbD (AaP k v9) fun v25 =>
                                  if (!v25)=true then
                                    AaM.J2 k true
                                  else
                                    if v4≤3 then
                                      AaM.J2 k (decide (0<IntKind.wrap .i64 (IntKind.wrap .i64 ((v8.length : Int)+(v9.length : Int))+(v10.size : Int))))
                                    else
                                      AaM.J2 k false
                            else
                              if 0<v1 then
                                if (v2.size : Int)≠32 then
                                  AaM.J2 k true
                                else
                                  AbD (AaP k v9) fun v26 =>
                                  if (!v26)=true then
                                    AaM.J2 k true
                                  else
                                    if v4≤3 then
                                      AaM.J2 k (decide (0<IntKind.wrap .i64 (IntKind.wrap .i64 ((v8.length : Int)+(v9.length : Int))+(v10.size : Int))))
                                    else
                                      AaM.J2 k false
                              else
                                AbD (AaP k v9) fun v27 =>
                                if (!v27)=true then
                                  AaM.J2 k true
                                else
                                  if v4≤3 then
                                    AaM.J2 k (decide (0<IntKind.wrap .i64 (IntKind.wrap .i64 ((v8.length : Int)+(v9.length : Int))+(v10.size : Int))))
                                  else
                                    AaM.J2 k false
    else
      AbD (Abd k v3 0 2147483648) fun v28 =>
      if (!v28)=true then
        some 9
      else
        AbD (Abd k v1 0 199) fun v29 =>
        if (!v29)=true then
          some 2
        else
          AbD (AbN k v5) fun v30 =>
          if (!v30)=true then
            some 2
          else
            AbD (AbN k v6) fun v31 =>
            if (!v31)=true then
              some 2
            else
              AbD (AbN k v7) fun v32 =>
              if (!v32)=true then
                some 2
              else
                AbD (AcM k v0 v1 v2 v3 v4 v5 v6 v7 v8 v9 v10 v11 v12) fun v33 =>
                if (!v33)=true then
                  some 2
                else
                  AbD (Aaz k v8) fun v34 =>
                  if v34=true then
                    some 2
                  else
                    if 64<(v8.length : Int) then
                      some 3
                    else
                      if 64<(v9.length : Int) then
                        some 3
                      else
                        if 4096<(v10.size : Int) then
                          some 3
                        else
                          if v1=0 then
                            if (!AbZ v2 (ByteArray.mk #[]))=true then
                              AaM.J3 k true
                            else
                              if 0<v1 then
                                none
                              else
                                AbD (AaP k v9) fun v36 =>
                                if (!v36)=true then
                                  AaM.J3 k true
                                else
                                  if v4≤3 then
                                    AaM.J3 k (decide (0<IntKind.wrap .i64 (IntKind.wrap .i64 ((v8.length : Int)+(v9.length : Int))+(v10.size : Int))))
                                  else
                                    AaM.J3 k false
                          else
                            if 0<v1 then
                              if (v2.size : Int)≠32 then
                                AaM.J3 k true
                              else
                                AbD (AaP k v9) fun v37 =>
                                if (!v37)=true then
                                  AaM.J3 k true
                                else
                                  if v4≤3 then
                                    AaM.J3 k (decide (0<IntKind.wrap .i64 (IntKind.wrap .i64 ((v8.length : Int)+(v9.length : Int))+(v10.size : Int))))
                                  else
                                    AaM.J3 k false
                            else
                              AbD (AaP k v9) fun v38 =>
                              if (!v38)=true then
                                AaM.J3 k true
                              else
                                if v4≤3 then
                                  AaM.J3 k (decide (0<IntKind.wrap .i64 (IntKind.wrap .i64 ((v8.length : Int)+(v9.length : Int))+(v10.size : Int))))
                                else
                                  AaM.J3 k false
def AbY (k : Nat) (v0 : Int) (v1 : Int) (v2 : ByteArray) (v3 : Int) (v4 : Int) (v5 : Int) (v6 : Int) (v7 : Int) (v8 : (List Int)) (v9 : (List AaA)) (v10 : ByteArray) (v11 : Int) (v12 : ByteArray) : Option Bool :=
  AbD (Abh k v0 v1 v2 v3 v4 v5 v6 v7 v8 v9 v10 v11 v12) fun v14 =>
  AnY (((v11==v0)&&(AbZ v12 v14))) fun v15 =>
  some v15
def AcA (k : Nat) (v0 : Int) (v1 : Int) (v2 : ByteArray) (v3 : Int) (v4 : Int) (v5 : Int) (v6 : Int) (v7 : Int) (v8 : (List Int)) (v9 : (List AaA)) (v10 : ByteArray) (v11 : Int) (v12 : ByteArray) : Option ((List Int)×Int) :=
  AbD (AaM k v0 v1 v2 v3 v4 v5 v6 v7 v8 v9 v10 v11 v12) fun v15 =>
  if v15≠0 then
    some (([] : List Int),v15)
  else
    AbD (AbY k v0 v1 v2 v3 v4 v5 v6 v7 v8 v9 v10 v11 v12) fun v16 =>
    if (!v16)=true then
      some (([] : List Int),6)
    else
      AbD (Aak k v0 v1 v2 v3 v4 v5 v6 v7 v8 v9 v10 v11 v12) fun v17 =>
      AbD (Acq k v17 v11) fun v18 =>
      AbD (AdU k v18 v12) fun v19 =>
      some (v19,0)
def AbH.L1 (k : Nat) (v0 : (List Int)) : Nat→Int→Int→Option (Int×(List Int)×Bool)
  | 0,_,_=>none
  | n+1,v4,v5 =>
    if v5<((v0.take (8 : Int).toNat).length : Int) then
      idx (v0.take (8 : Int).toNat) v5 fun v6 =>
      AbH.L1 k v0 n (AaG .or .u64 (IntKind.wrap .u64 (v4*2 ^ (8))) (IntKind.wrap .u64 v6)) (IntKind.wrap .i64 (v5+1))
    else
      chk ((8 : Int)≤(v0.length : Int)) <|
      AbD (AbW k (v0.drop (8 : Int).toNat)) fun v7 =>
      some (IntKind.wrap .i64 v4,v7,true)
def AbH (k : Nat) (v0 : (List Int)) : Option (Int×(List Int)×Bool) :=
  if (v0.length : Int)<8 then
    some (0,([] : List Int),false)
  else
    chk ((8 : Int)≤(v0.length : Int)) <|
    AbH.L1 k v0 k 0 0
def AbS (k : Nat) (v0 : Bool) : Option Unit :=
  if (!v0)=true then
    none
  else
    some ()
def AaO (k : Nat) (v0 : (List Int)) : Option (Int×(List Int)) :=
  Aer (AbH k v0) fun v3 v4 v5 =>
  AbD (AbS k v5) fun _ =>
  some (v3,v4)
def Acp (k : Nat) (v0 : (List Int)) (v1 : Int) : Option (ByteArray×(List Int)×Bool) :=
  Aer (AbH k v0) fun v5 v6 v7 =>
  if (!v7)=true then
    some ((ByteArray.mk #[]),([] : List Int),false)
  else
    if v5<0 then
      some ((ByteArray.mk #[]),([] : List Int),false)
    else
      if v1<v5 then
        some ((ByteArray.mk #[]),([] : List Int),false)
      else
        if (v6.length : Int)<v5 then
          some ((ByteArray.mk #[]),([] : List Int),false)
        else
          chk ((0 : Int)≤v5∧(v5 : Int)≤(v6.length : Int)) <|
          chk ((0 : Int)≤v5∧(v5 : Int)≤(v6.length : Int)) <|
          some (ofI (v6.take (v5).toNat),v6.drop (v5).toNat,true)
def Aai (k : Nat) (v0 : (List Int)) (v1 : Int) : Option (ByteArray×(List Int)) :=
  Aer (Acp k v0 v1) fun v4 v5 v6 =>
  AbD (AbS k v6) fun _ =>
  some (v4,v5)
def AbJ.L1 (k : Nat) (v5 : Int) : Nat→Int→(List Int)→(List Int)→Option ((List Int)×(List Int)×Bool)
  | 0,_,_,_=>none
  | n+1,v8,v9,v10 =>
    if v8<v5 then
      Aer (AbH k v9) fun v11 v12 v13 =>
      chk ((v10.length+([v11] : List Int).length)*8≤140737488355328) <|
      AbJ.L1 k v5 n (IntKind.wrap .i64 (v8+1)) v12 (v10++([v11] : List Int))
    else
      some (v10,v9,true)
def AbJ (k : Nat) (v0 : (List Int)) (v1 : Int) : Option ((List Int)×(List Int)×Bool) :=
  Aer (AbH k v0) fun v5 v6 v7 =>
  if (!v7)=true then
    some (([] : List Int),([] : List Int),false)
  else
    if v5<0 then
      some (([] : List Int),([] : List Int),false)
    else
      if v1<v5 then
        some (([] : List Int),([] : List Int),false)
      else
        if IntKind.wrap .i64 (Int.tdiv (v6.length : Int) 8)<v5 then
          some (([] : List Int),([] : List Int),false)
        else
          AbJ.L1 k v5 k 0 v6 ([] : List Int)
def AbO (k : Nat) (v0 : (List Int)) (v1 : Int) : Option ((List Int)×(List Int)) :=
  Aer (AbJ k v0 v1) fun v4 v5 v6 =>
  AbD (AbS k v6) fun _ =>
  some (v4,v5)
def Aaj.L1 (k : Nat) (v3 : Int) (v5 : Int) (v7 : ByteArray) (v9 : Int) (v11 : Int) (v13 : Int) (v15 : Int) (v17 : Int) (v19 : (List Int)) (v21 : Int) : Nat→Int→(List Int)→(List AaA)→Option (AaI×(List Int))
  | 0,_,_,_=>none
  | n+1,v24,v25,v26 =>
    if v24<v21 then
      AfT (AaO k v25) fun v27 v28 =>
      AfT (AaO k v28) fun v29 v30 =>
      AfT (Aai k v30 32) fun v31 v32 =>
      chk ((v26.length+([(AaA.mk v27 v29 v31)] : List AaA).length)*32≤140737488355328) <|
      Aaj.L1 k v3 v5 v7 v9 v11 v13 v15 v17 v19 v21 n (IntKind.wrap .i64 (v24+1)) v32 (v26++([(AaA.mk v27 v29 v31)] : List AaA))
    else
      AfT (Aai k v25 4096) fun v33 v34 =>
      AfT (AaO k v34) fun v35 v36 =>
      AfT (Aai k v36 32) fun v37 v38 =>
      some ((AaI.mk v3 v5 v7 v9 v11 v13 v15 v17 v19 v26 v33 v35 v37),v38)
def Aaj (k : Nat) (v0 : (List Int)) : Option (AaI×(List Int)) :=
  AfT (AaO k v0) fun v3 v4 =>
  AfT (AaO k v4) fun v5 v6 =>
  AfT (Aai k v6 32) fun v7 v8 =>
  AfT (AaO k v8) fun v9 v10 =>
  AfT (AaO k v10) fun v11 v12 =>
  AfT (AaO k v12) fun v13 v14 =>
  AfT (AaO k v14) fun v15 v16 =>
  AfT (AaO k v16) fun v17 v18 =>
  AfT (AbO k v18 64) fun v19 v20 =>
  AfT (AaO k v20) fun v21 v22 =>
  AbD (Abd k v21 0 64) fun v23 =>
  AbD (AbS k v23) fun _ =>
  Aaj.L1 k v3 v5 v7 v9 v11 v13 v15 v17 v19 v21 k 0 v22 ([] : List AaA)
def Aby (k : Nat) (v0 : Bool) : Option Unit:=if v0=false then some () else none
def Aac (k : Nat) (v0 : (List Int)) : Option Unit :=
  Aer (AbH k v0) fun v1 v2 v3 =>
  pn1 (AbS k v3) (Aby k v3) fun _ =>
  none
def Aa0 (k : Nat) (v0 : (List Int)) (v1 : Int) : Option Unit :=
  Aer (Acp k v0 v1) fun v2 v3 v4 =>
  pn1 (AbS k v4) (Aby k v4) fun _ =>
  none
def Abc (k : Nat) (v0 : (List Int)) (v1 : Int) : Option Unit :=
  Aer (AbJ k v0 v1) fun v2 v3 v4 =>
  pn1 (AbS k v4) (Aby k v4) fun _ =>
  none
def AaZ.L1 (k : Nat) (v19 : Int) : Nat→Int→(List Int)→(List AaA)→Option Unit
  | 0,_,_,_=>none
  | n+1,v22,v23,v24 =>
    if v22<v19 then
      pn2 (AaO k v23) (Aac k v23) fun v25 v26 =>
      pn2 (AaO k v26) (Aac k v26) fun v27 v28 =>
      pn2 (Aai k v28 32) (Aa0 k v28 32) fun v29 v30 =>
      chk ((v24.length+([(AaA.mk v25 v27 v29)] : List AaA).length)*32≤140737488355328) <|
      AaZ.L1 k v19 n (IntKind.wrap .i64 (v22+1)) v30 (v24++([(AaA.mk v25 v27 v29)] : List AaA))
    else
      pn2 (Aai k v23 4096) (Aa0 k v23 4096) fun v31 v32 =>
      pn2 (AaO k v32) (Aac k v32) fun v33 v34 =>
      pn2 (Aai k v34 32) (Aa0 k v34 32) fun v35 v36 =>
      none
def AaZ (k : Nat) (v0 : (List Int)) : Option Unit :=
  pn2 (AaO k v0) (Aac k v0) fun v1 v2 =>
  pn2 (AaO k v2) (Aac k v2) fun v3 v4 =>
  pn2 (Aai k v4 32) (Aa0 k v4 32) fun v5 v6 =>
  pn2 (AaO k v6) (Aac k v6) fun v7 v8 =>
  pn2 (AaO k v8) (Aac k v8) fun v9 v10 =>
  pn2 (AaO k v10) (Aac k v10) fun v11 v12 =>
  pn2 (AaO k v12) (Aac k v12) fun v13 v14 =>
  pn2 (AaO k v14) (Aac k v14) fun v15 v16 =>
  pn2 (AbO k v16 64) (Abc k v16 64) fun v17 v18 =>
  pn2 (AaO k v18) (Aac k v18) fun v19 v20 =>
  AbD (Abd k v19 0 64) fun v21 =>
  pn1 (AbS k v21) (Aby k v21) fun _ =>
  AaZ.L1 k v19 k 0 v20 ([] : List AaA)
def AcW (k : Nat) (v0 : (List Int)) : Option (AaI×Int) :=
  match Aaj k v0 with
  | some (v,l) =>
    if l.length=0 then
      AbD (AaM k v.Author v.Number v.Prev v.Time v.Kind v.A v.B v.C v.Lst v.Pins v.Body v.Seal_Key v.Seal_Digest) fun c =>
      if c=0 then
        AbD (AbY k v.Author v.Number v.Prev v.Time v.Kind v.A v.B v.C v.Lst v.Pins v.Body v.Seal_Key v.Seal_Digest) fun b =>
        if b=true then some (v,0) else some ((AaI.mk 0 0 (ByteArray.mk #[]) 0 0 0 0 0 [] [] (ByteArray.mk #[]) 0 (ByteArray.mk #[])),1)
      else some ((AaI.mk 0 0 (ByteArray.mk #[]) 0 0 0 0 0 [] [] (ByteArray.mk #[]) 0 (ByteArray.mk #[])),1)
    else some ((AaI.mk 0 0 (ByteArray.mk #[]) 0 0 0 0 0 [] [] (ByteArray.mk #[]) 0 (ByteArray.mk #[])),1)
  | none=>match AaZ k v0 with
    | some _=>some ((AaI.mk 0 0 (ByteArray.mk #[]) 0 0 0 0 0 [] [] (ByteArray.mk #[]) 0 (ByteArray.mk #[])),1)
    | none=>none
def Aav.L1 (k : Nat) (v0 : (List Int)) (v1 : (List Int)) : Nat→Int→Option Bool
  | 0,_=>none
  | n+1,v3 =>
    if v3<(v0.length : Int) then
      idx v0 v3 fun v4 =>
      idx v1 v3 fun v5 =>
      if v4≠v5 then
        some false
      else
        Aav.L1 k v0 v1 n (IntKind.wrap .i64 (v3+1))
    else
      some true
def Aav (k : Nat) (v0 : (List Int)) (v1 : (List Int)) : Option Bool :=
  if (v0.length : Int)≠(v1.length : Int) then
    some false
  else
    Aav.L1 k v0 v1 k 0
def Aab.L1 (k : Nat) (v0 : (List AaA)) (v1 : (List AaA)) : Nat→Int→Option Bool
  | 0,_=>none
  | n+1,v3 =>
    if v3<(v0.length : Int) then
      idx v0 v3 fun v4 =>
      idx v1 v3 fun v5 =>
      AnY (((v4.Author==v5.Author)&&((v4.Height==v5.Height)&&(AbZ v4.Digest v5.Digest)))) fun v6 =>
      if (!v6)=true then
        some false
      else
        Aab.L1 k v0 v1 n (IntKind.wrap .i64 (v3+1))
    else
      some true
def Aab (k : Nat) (v0 : (List AaA)) (v1 : (List AaA)) : Option Bool :=
  if (v0.length : Int)≠(v1.length : Int) then
    some false
  else
    Aab.L1 k v0 v1 k 0
def Ab2 (k : Nat) (v0 : Int) (v1 : Int) (v2 : ByteArray) (v3 : Int) (v4 : Int) (v5 : Int) (v6 : Int) (v7 : Int) (v8 : (List Int)) (v9 : (List AaA)) (v10 : ByteArray) (v11 : Int) (v12 : ByteArray) (v13 : Int) (v14 : Int) (v15 : ByteArray) (v16 : Int) (v17 : Int) (v18 : Int) (v19 : Int) (v20 : Int) (v21 : (List Int)) (v22 : (List AaA)) (v23 : ByteArray) (v24 : Int) (v25 : ByteArray) : Option Bool :=
  if v0=v13 then
    if v1=v14 then
      if (AbZ v2 v15)=true then
        if v3=v16 then
          if v4=v17 then
            if v5=v18 then
              if v6=v19 then
                if v7=v20 then
                  AbD (Aav k v8 v21) fun v27 =>
                  if v27=true then
                    AbD (Aab k v9 v22) fun v28 =>
                    if v28=true then
                      if (AbZ v10 v23)=true then
                        AnY (((v11==v24)&&(AbZ v12 v25))) fun v29 =>
                        some v29
                      else
                        some false
                    else
                      some false
                  else
                    some false
                else
                  some false
              else
                some false
            else
              some false
          else
            some false
        else
          some false
      else
        some false
    else
      some false
  else
    some false
def Acl (k : Nat) : Option Bool :=
  AbD (AcZ k 2 0 (ByteArray.mk #[]) 7 1 5 1 100 ([] : List Int) ([] : List AaA) (ByteArray.mk #[]) 0 (ByteArray.mk #[])) fun v1 =>
  AfT (AcA k v1.Author v1.Number v1.Prev v1.Time v1.Kind v1.A v1.B v1.C v1.Lst v1.Pins v1.Body v1.Seal_Key v1.Seal_Digest) fun v2 v3 =>
  AfT (AcW k v2) fun v4 v5 =>
  if v3=0 then
    if v5=0 then
      AbD (Abh k v1.Author v1.Number v1.Prev v1.Time v1.Kind v1.A v1.B v1.C v1.Lst v1.Pins v1.Body v1.Seal_Key v1.Seal_Digest) fun v6 =>
      if (v6.size : Int)=32 then
        AbD (AbY k v1.Author v1.Number v1.Prev v1.Time v1.Kind v1.A v1.B v1.C v1.Lst v1.Pins v1.Body v1.Seal_Key v1.Seal_Digest) fun v7 =>
        if v7=true then
          AbD (AaM k v1.Author v1.Number v1.Prev v1.Time v1.Kind v1.A v1.B v1.C v1.Lst v1.Pins v1.Body v1.Seal_Key v1.Seal_Digest) fun v8 =>
          if v8=0 then
            if v4.A=5 then
              AbD (Ab2 k v4.Author v4.Number v4.Prev v4.Time v4.Kind v4.A v4.B v4.C v4.Lst v4.Pins v4.Body v4.Seal_Key v4.Seal_Digest v1.Author v1.Number v1.Prev v1.Time v1.Kind v1.A v1.B v1.C v1.Lst v1.Pins v1.Body v1.Seal_Key v1.Seal_Digest) fun v9 =>
              if v9=true then
                AbD (Ab2 k v4.Author v4.Number v4.Prev v4.Time v4.Kind v4.A v4.B v4.C v4.Lst v4.Pins v4.Body v4.Seal_Key v4.Seal_Digest 0 0 (ByteArray.mk #[]) 0 0 0 0 0 ([] : List Int) ([] : List AaA) (ByteArray.mk #[]) 0 (ByteArray.mk #[])) fun v10 =>
                some (!v10)
              else
                some false
            else
              some false
          else
            some false
        else
          some false
      else
        some false
    else
      some false
  else
    some false
def Adz (k : Nat) (v0 : Int) : Option Bool :=
  if 0≤v0 then
    some (decide (v0<64))
  else
    some false
def AdG (k : Nat) (v0 : Int) (v1 : Int) : Option Bool :=
  if 0≤v0 then
    some (decide (v0≤v1))
  else
    some false
def AbL.L1 (k : Nat) (v0 : Int) (v3 : Int) (v4 : Int) (v5 : Int) (v6 : Int) (v7 : Int) (v8 : (List Int)) : Nat→Int→Option Bool
  | 0,_=>none
  | n+1,v18 =>
    if v18<(v8.length : Int) then
      idx v8 v18 fun v19 =>
      AbD (AdG k v19 1099511627776) fun v20 =>
      if (!v20)=true then
        some false
      else
        AbL.L1 k v0 v3 v4 v5 v6 v7 v8 n (IntKind.wrap .i64 (v18+1))
    else
      if v4=1 then
        AbD (Adz k v5) fun v21 =>
        if v21=true then
          if v5≠v0 then
            if 1≤v6 then
              if v6≤3 then
                if v3≤v7 then
                  some (decide (v7≤2147483648))
                else
                  some false
              else
                some false
            else
              some false
          else
            some false
        else
          some false
      else
        if v4=2 then
          AbD (AdG k v5 199) fun v22 =>
          if v22=true then
            if v6=0 then
              some (v7==0)
            else
              some false
          else
            some false
        else
          if v4=3 then
            if v5=0 then
              if v6=0 then
                some (v7==0)
              else
                some false
            else
              some false
          else
            some true
def AbL (k : Nat) (v0 : Int) (v1 : Int) (v2 : ByteArray) (v3 : Int) (v4 : Int) (v5 : Int) (v6 : Int) (v7 : Int) (v8 : (List Int)) (v9 : (List AaA)) (v10 : ByteArray) (v11 : Int) (v12 : ByteArray) : Option Bool :=
  AbD (AdG k v1 199) fun v14 =>
  if (!v14)=true then
    some false
  else
    AbD (AdG k v5 1099511627776) fun v15 =>
    if (!v15)=true then
      some false
    else
      AbD (AdG k v6 1099511627776) fun v16 =>
      if (!v16)=true then
        some false
      else
        AbD (AdG k v7 1099511627776) fun v17 =>
        if (!v17)=true then
          some false
        else
          AbL.L1 k v0 v3 v4 v5 v6 v7 v8 k 0
def Aad.J2 (k : Nat) (v2 : Int) (kb1 : Int→Option Bool) (v4 : Bool) : Option Bool :=
  if v4=true then
    some false
  else
    kb1 (IntKind.wrap .i64 (v2+1))
def Aad.L1 (k : Nat) (v0 : (List AaA)) : Nat→Int→Option Bool
  | 0,_=>none
  | n+1,v2 =>
    if v2<(v0.length : Int) then
      idx v0 v2 fun v3 =>
      AbD (Adz k v3.Author) fun v5 =>
      if (!v5)=true then
        Aad.J2 k v2 (fun v2_=>Aad.L1 k v0 n v2_) true
      else
        if 0<v2 then
          idx v0 (IntKind.wrap .i64 (v2-1)) fun v6 =>
          if v3.Author≤v6.Author then
            Aad.J2 k v2 (fun v2_=>Aad.L1 k v0 n v2_) true
          else
            if v3.Height<1 then
              Aad.J2 k v2 (fun v2_=>Aad.L1 k v0 n v2_) true
            else
              if 200<v3.Height then
                Aad.J2 k v2 (fun v2_=>Aad.L1 k v0 n v2_) true
              else
                Aad.J2 k v2 (fun v2_=>Aad.L1 k v0 n v2_) ((v3.Digest.size : Int) !=32)
        else
          if v3.Height<1 then
            Aad.J2 k v2 (fun v2_=>Aad.L1 k v0 n v2_) true
          else
            if 200<v3.Height then
              Aad.J2 k v2 (fun v2_=>Aad.L1 k v0 n v2_) true
            else
              Aad.J2 k v2 (fun v2_=>Aad.L1 k v0 n v2_) ((v3.Digest.size : Int) !=32)
    else
      some true
def Aad (k : Nat) (v0 : (List AaA)) : Option Bool :=
  Aad.L1 k v0 k 0
def Aan.J1 (k : Nat) : Option Int :=
  some 0
def Aan.J3 (k : Nat) (v4 : Int) (v8 : (List Int)) (v9 : (List AaA)) (v10 : ByteArray) (v18 : Bool) : Option Int :=
  if v18=true then
    some 1
  else
    if v4≤3 then
      if 0<(v8.length : Int) then
        some 1
      else
        if 0<(v9.length : Int) then
          some 1
        else
          if (!AbZ v10 (ByteArray.mk #[]))=true then
            some 1
          else
            Aan.J1 k
    else
      Aan.J1 k
def Aan.J2 (k : Nat) (v0 : Int) (v1 : Int) (v2 : ByteArray) (v3 : Int) (v4 : Int) (v5 : Int) (v6 : Int) (v7 : Int) (v8 : (List Int)) (v9 : (List AaA)) (v10 : ByteArray) (v11 : Int) (v12 : ByteArray) (v15 : Bool) : Option Int :=
  if v15=true then
    some 5
  else
    AbD (AdG k v3 2147483648) fun v16 =>
    if (!v16)=true then
      some 9
    else
      AbD (AbL k v0 v1 v2 v3 v4 v5 v6 v7 v8 v9 v10 v11 v12) fun v17 =>
      if (!v17)=true then
        some 2
      else
        if 64<(v8.length : Int) then
          some 3
        else
          if 64<(v9.length : Int) then
            some 3
          else
            if 4096<(v10.size : Int) then
              some 3
            else
              if v1=0 then
                if (!AbZ v2 (ByteArray.mk #[]))=true then
                  Aan.J3 k v4 v8 v9 v10 true
                else
                  if 0<v1 then
                    none
                  else
                    AbD (Aad k v9) fun v19 =>
                    Aan.J3 k v4 v8 v9 v10 (!v19)
              else
                if 0<v1 then
                  if (v2.size : Int)≠32 then
                    Aan.J3 k v4 v8 v9 v10 true
                  else
                    AbD (Aad k v9) fun v20 =>
                    Aan.J3 k v4 v8 v9 v10 (!v20)
                else
                  AbD (Aad k v9) fun v21 =>
                  Aan.J3 k v4 v8 v9 v10 (!v21)
def Aan (k : Nat) (v0 : Int) (v1 : Int) (v2 : ByteArray) (v3 : Int) (v4 : Int) (v5 : Int) (v6 : Int) (v7 : Int) (v8 : (List Int)) (v9 : (List AaA)) (v10 : ByteArray) (v11 : Int) (v12 : ByteArray) : Option Int :=
  AbD (Adz k v0) fun v14 =>
  if (!v14)=true then
    some 4
  else
    if v4<1 then
      Aan.J2 k v0 v1 v2 v3 v4 v5 v6 v7 v8 v9 v10 v11 v12 true
    else
      if 3<v4 then
        if v4<10 then
          Aan.J2 k v0 v1 v2 v3 v4 v5 v6 v7 v8 v9 v10 v11 v12 true
        else
          Aan.J2 k v0 v1 v2 v3 v4 v5 v6 v7 v8 v9 v10 v11 v12 (decide (31<v4))
      else
        Aan.J2 k v0 v1 v2 v3 v4 v5 v6 v7 v8 v9 v10 v11 v12 (decide (31<v4))
def AbQ.L1 (k : Nat) (v1 : Int) : Nat→Int→(List Int)→Option (List Int)
  | 0,_,_=>none
  | n+1,v3,v4 =>
    if 0≤v3 then
      chk ((0 : Int)≤IntKind.wrap .u64 (IntKind.wrap .i64 (8*v3))) <|
      chk ((v4.length+([IntKind.wrap .u8 (Int.fdiv v1 (2 ^ (min ((IntKind.wrap .u64 (IntKind.wrap .i64 (8*v3))).toNat) 64)))] : List Int).length)*1≤140737488355328) <|
      AbQ.L1 k v1 n (IntKind.wrap .i64 (v3-1)) (v4++([IntKind.wrap .u8 (Int.fdiv v1 (2 ^ (min ((IntKind.wrap .u64 (IntKind.wrap .i64 (8*v3))).toNat) 64)))] : List Int))
    else
      some v4
def AbQ (k : Nat) (v0 : (List Int)) (v1 : Int) : Option (List Int) :=
  chk (v0.length*1≤140737488355328) <|
  AbQ.L1 k v1 k 7 v0
def Ac7 (k : Nat) (v0 : (List Int)) (v1 : ByteArray) : Option (List Int) :=
  AbD (AbQ k v0 (v1.size : Int)) fun v3 =>
  chk ((v3.length+(bI v1).length)*1≤140737488355328) <|
  some (v3++(bI v1))
def Abx.L1 (k : Nat) (v1 : (List Int)) : Nat→Int→(List Int)→Option (List Int)
  | 0,_,_=>none
  | n+1,v4,v5 =>
    if v4<(v1.length : Int) then
      idx v1 v4 fun v6 =>
      AbD (AbQ k v5 v6) fun v7 =>
      Abx.L1 k v1 n (IntKind.wrap .i64 (v4+1)) v7
    else
      some v5
def Abx (k : Nat) (v0 : (List Int)) (v1 : (List Int)) : Option (List Int) :=
  AbD (AbQ k v0 (v1.length : Int)) fun v3 =>
  Abx.L1 k v1 k 0 v3
def Aa5.L2 (k : Nat) (v9 : (List AaA)) (v10 : ByteArray) : Nat→(List Int)→Int→Option (List Int)
  | 0,_,_=>none
  | n+1,v23,v24 =>
    if v24<(v9.length : Int) then
      idx v9 v24 fun v25 =>
      AbD (AbQ k v23 v25.Author) fun v26 =>
      AbD (AbQ k v26 v25.Height) fun v27 =>
      AbD (Ac7 k v27 v25.Digest) fun v28 =>
      Aa5.L2 k v9 v10 n v28 (IntKind.wrap .i64 (v24+1))
    else
      AbD (Ac7 k v23 v10) fun v29 =>
      some v29
def Aa5.L1 (k : Nat) (v3 : Int) (v4 : Int) (v5 : Int) (v6 : Int) (v7 : Int) (v8 : (List Int)) (v9 : (List AaA)) (v10 : ByteArray) : Nat→(List Int)→Int→Option (List Int)
  | 0,_,_=>none
  | n+1,v17,v18 =>
    if v18<(([v3,v4,v5,v6,v7] : List Int).length : Int) then
      idx ([v3,v4,v5,v6,v7] : List Int) v18 fun v19 =>
      AbD (AbQ k v17 v19) fun v20 =>
      Aa5.L1 k v3 v4 v5 v6 v7 v8 v9 v10 n v20 (IntKind.wrap .i64 (v18+1))
    else
      AbD (Abx k v17 v8) fun v21 =>
      AbD (AbQ k v21 (v9.length : Int)) fun v22 =>
      Aa5.L2 k v9 v10 k v22 0
def Aa5 (k : Nat) (v0 : Int) (v1 : Int) (v2 : ByteArray) (v3 : Int) (v4 : Int) (v5 : Int) (v6 : Int) (v7 : Int) (v8 : (List Int)) (v9 : (List AaA)) (v10 : ByteArray) (v11 : Int) (v12 : ByteArray) : Option (List Int) :=
  AbD (AbQ k ([] : List Int) v0) fun v14 =>
  AbD (AbQ k v14 v1) fun v15 =>
  AbD (Ac7 k v15 v2) fun v16 =>
  Aa5.L1 k v3 v4 v5 v6 v7 v8 v9 v10 k v16 0
def Acj (k : Nat) : Option (List Int) :=
  some ([1116352408,1899447441,3049323471,3921009573,961987163,1508970993,2453635748,2870763221,3624381080,310598401,607225278,1426881987,1925078388,2162078206,2614888103,3248222580,3835390401,4022224774,264347078,604807628,770255983,1249150122,1555081692,1996064986,2554220882,2821834349,2952996808,3210313671,3336571891,3584528711,113926993,338241895,666307205,773529912,1294757372,1396182291,1695183700,1986661051,2177026350,2456956037,2730485921,2820302411,3259730800,3345764771,3516065817,3600352804,4094571909,275423344,430227734,506948616,659060556,883997877,958139571,1322822218,1537002063,1747873779,1955562222,2024104815,2227730452,2361852424,2428436474,2756734187,3204031479,3329325298] : List Int)
def Aax (k : Nat) (v0 : Int) (v1 : Int) : Option Int :=
  chk ((0 : Int)≤v1) <|
  chk ((0 : Int)≤IntKind.wrap .u64 (32-v1)) <|
  some (AaG .or .u32 (Int.fdiv v0 (2 ^ (min v1.toNat 32))) (IntKind.wrap .u32 (v0*2 ^ (min ((IntKind.wrap .u64 (32-v1)).toNat) 32))))
def Aaa.L4 (k : Nat) (v0 : (List Int)) : Nat→Int→(List Int)→Option (List Int)
  | 0,_,_=>none
  | n+1,v39,v40 =>
    if v39<8 then
      chk ((0 : Int)≤v39∧(v39).toNat<v40.length) <|
      idx v40 v39 fun v41 =>
      idx v0 v39 fun v42 =>
      chk ((0 : Int)≤v39∧(v39).toNat<v40.length) <|
      Aaa.L4 k v0 n (IntKind.wrap .i64 (v39+1)) (v40.set (v39).toNat (IntKind.wrap .u32 (v41+v42)))
    else
      some v40
def Aaa.L3 (k : Nat) (v0 : (List Int)) (v2 : (List Int)) (v12 : (List Int)) : Nat→Int→(List Int)→Option (List Int)
  | 0,_,_=>none
  | n+1,v21,v22 =>
    if v21<64 then
      idx v22 4 fun v23 =>
      AbD (Aax k v23 6) fun v24 =>
      AbD (Aax k v23 11) fun v25 =>
      AbD (Aax k v23 25) fun v26 =>
      idx v22 5 fun v27 =>
      idx v22 6 fun v28 =>
      idx v22 7 fun v29 =>
      idx v2 v21 fun v30 =>
      idx v12 v21 fun v31 =>
      idx v22 0 fun v32 =>
      AbD (Aax k v32 2) fun v33 =>
      AbD (Aax k v32 13) fun v34 =>
      AbD (Aax k v32 22) fun v35 =>
      idx v22 1 fun v36 =>
      idx v22 2 fun v37 =>
      idx v22 3 fun v38 =>
      Aaa.L3 k v0 v2 v12 n (IntKind.wrap .i64 (v21+1)) ([IntKind.wrap .u32 (IntKind.wrap .u32 (IntKind.wrap .u32 (IntKind.wrap .u32 (IntKind.wrap .u32 (IntKind.wrap .u32 (v29+AaG .xor .u32 (AaG .xor .u32 v24 v25) v26)+AaG .xor .u32 (AaG .and .u32 v23 v27) (AaG .and .u32 (AaG .xor .u32 (IntKind.max .u32) v23) v28))+v30)+v31)+AaG .xor .u32 (AaG .xor .u32 v33 v34) v35)+AaG .xor .u32 (AaG .xor .u32 (AaG .and .u32 v32 v36) (AaG .and .u32 v32 v37)) (AaG .and .u32 v36 v37)),v32,v36,v37,IntKind.wrap .u32 (v38+IntKind.wrap .u32 (IntKind.wrap .u32 (IntKind.wrap .u32 (IntKind.wrap .u32 (v29+AaG .xor .u32 (AaG .xor .u32 v24 v25) v26)+AaG .xor .u32 (AaG .and .u32 v23 v27) (AaG .and .u32 (AaG .xor .u32 (IntKind.max .u32) v23) v28))+v30)+v31)),v23,v27,v28] : List Int)
    else
      Aaa.L4 k v0 k 0 v22
def Aaa.L2 (k : Nat) (v0 : (List Int)) (v2 : (List Int)) : Nat→Int→(List Int)→Option (List Int)
  | 0,_,_=>none
  | n+1,v11,v12 =>
    if v11<64 then
      chk ((0 : Int)≤(IntKind.wrap .i64 (v11-15))∧(IntKind.wrap .i64 (v11-15)).toNat<v12.length) <|
      idx v12 (IntKind.wrap .i64 (v11-15)) fun v13 =>
      AbD (Aax k v13 7) fun v14 =>
      chk ((0 : Int)≤(IntKind.wrap .i64 (v11-15))∧(IntKind.wrap .i64 (v11-15)).toNat<v12.length) <|
      AbD (Aax k v13 18) fun v15 =>
      chk ((0 : Int)≤(IntKind.wrap .i64 (v11-15))∧(IntKind.wrap .i64 (v11-15)).toNat<v12.length) <|
      chk ((0 : Int)≤(IntKind.wrap .i64 (v11-2))∧(IntKind.wrap .i64 (v11-2)).toNat<v12.length) <|
      idx v12 (IntKind.wrap .i64 (v11-2)) fun v16 =>
      AbD (Aax k v16 17) fun v17 =>
      chk ((0 : Int)≤(IntKind.wrap .i64 (v11-2))∧(IntKind.wrap .i64 (v11-2)).toNat<v12.length) <|
      AbD (Aax k v16 19) fun v18 =>
      chk ((0 : Int)≤(IntKind.wrap .i64 (v11-2))∧(IntKind.wrap .i64 (v11-2)).toNat<v12.length) <|
      chk ((0 : Int)≤(IntKind.wrap .i64 (v11-16))∧(IntKind.wrap .i64 (v11-16)).toNat<v12.length) <|
      idx v12 (IntKind.wrap .i64 (v11-16)) fun v19 =>
      chk ((0 : Int)≤(IntKind.wrap .i64 (v11-7))∧(IntKind.wrap .i64 (v11-7)).toNat<v12.length) <|
      idx v12 (IntKind.wrap .i64 (v11-7)) fun v20 =>
      chk ((0 : Int)≤v11∧(v11).toNat<v12.length) <|
      Aaa.L2 k v0 v2 n (IntKind.wrap .i64 (v11+1)) (v12.set (v11).toNat (IntKind.wrap .u32 (IntKind.wrap .u32 (IntKind.wrap .u32 (v19+AaG .xor .u32 (AaG .xor .u32 v14 v15) (Int.fdiv v13 (2 ^ (3))))+v20)+AaG .xor .u32 (AaG .xor .u32 v17 v18) (Int.fdiv v16 (2 ^ (10))))))
    else
      chk (v0.length*4≤140737488355328) <|
      Aaa.L3 k v0 v2 v12 k 0 v0
def Aaa.L1 (k : Nat) (v0 : (List Int)) (v1 : (List Int)) (v2 : (List Int)) : Nat→Int→(List Int)→Option (List Int)
  | 0,_,_=>none
  | n+1,v5,v6 =>
    if v5<16 then
      idx v1 (IntKind.wrap .i64 (4*v5)) fun v7 =>
      idx v1 (IntKind.wrap .i64 (IntKind.wrap .i64 (4*v5)+1)) fun v8 =>
      idx v1 (IntKind.wrap .i64 (IntKind.wrap .i64 (4*v5)+2)) fun v9 =>
      idx v1 (IntKind.wrap .i64 (IntKind.wrap .i64 (4*v5)+3)) fun v10 =>
      chk ((0 : Int)≤v5∧(v5).toNat<v6.length) <|
      Aaa.L1 k v0 v1 v2 n (IntKind.wrap .i64 (v5+1)) (v6.set (v5).toNat (AaG .or .u32 (AaG .or .u32 (AaG .or .u32 (IntKind.wrap .u32 ((IntKind.wrap .u32 v7)*2 ^ (24))) (IntKind.wrap .u32 ((IntKind.wrap .u32 v8)*2 ^ (16)))) (IntKind.wrap .u32 ((IntKind.wrap .u32 v9)*2 ^ (8)))) (IntKind.wrap .u32 v10)))
    else
      Aaa.L2 k v0 v2 k 16 v6
def Aaa (k : Nat) (v0 : (List Int)) (v1 : (List Int)) (v2 : (List Int)) : Option (List Int) :=
  chk ((0 : Int)≤64∧16*64≤281474976710656) <|
  AnY (List.replicate 64 0) fun v4 =>
  Aaa.L1 k v0 v1 v2 k 0 v4
def Aat.L4 (k : Nat) (v6 : (List Int)) : Nat→Int→(List Int)→Option ByteArray
  | 0,_,_=>none
  | n+1,v9,v10 =>
    if v9<8 then
      idx v6 v9 fun v11 =>
      chk ((v10.length+([IntKind.wrap .u8 (Int.fdiv v11 (2 ^ (24))),IntKind.wrap .u8 (Int.fdiv v11 (2 ^ (16))),IntKind.wrap .u8 (Int.fdiv v11 (2 ^ (8))),IntKind.wrap .u8 v11] : List Int).length)*1≤140737488355328) <|
      Aat.L4 k v6 n (IntKind.wrap .i64 (v9+1)) (v10++([IntKind.wrap .u8 (Int.fdiv v11 (2 ^ (24))),IntKind.wrap .u8 (Int.fdiv v11 (2 ^ (16))),IntKind.wrap .u8 (Int.fdiv v11 (2 ^ (8))),IntKind.wrap .u8 v11] : List Int))
    else
      some (ofI v10)
def Aat.L3 (k : Nat) (v4 : (List Int)) (v5 : (List Int)) : Nat→(List Int)→Int→Option ByteArray
  | 0,_,_=>none
  | n+1,v6,v7 =>
    if v7<(v4.length : Int) then
      chk ((0 : Int)≤v7∧(v7 : Int)≤IntKind.wrap .i64 (v7+64)∧(IntKind.wrap .i64 (v7+64) : Int)≤(v4.length : Int)) <|
      AbD (Aaa k v6 ((v4.take (IntKind.wrap .i64 (v7+64)).toNat).drop (v7).toNat) v5) fun v8 =>
      Aat.L3 k v4 v5 n v8 (IntKind.wrap .i64 (v7+64))
    else
      Aat.L4 k v6 k 0 ([] : List Int)
def Aat.L2 (k : Nat) (v0 : (List Int)) : Nat→Int→(List Int)→Option ByteArray
  | 0,_,_=>none
  | n+1,v3,v4 =>
    if 0≤v3 then
      chk ((0 : Int)≤IntKind.wrap .u64 (IntKind.wrap .i64 (8*v3))) <|
      chk ((v4.length+([IntKind.wrap .u8 (Int.fdiv (IntKind.wrap .u64 (IntKind.wrap .u64 (v0.length : Int)*8)) (2 ^ (min ((IntKind.wrap .u64 (IntKind.wrap .i64 (8*v3))).toNat) 64)))] : List Int).length)*1≤140737488355328) <|
      Aat.L2 k v0 n (IntKind.wrap .i64 (v3-1)) (v4++([IntKind.wrap .u8 (Int.fdiv (IntKind.wrap .u64 (IntKind.wrap .u64 (v0.length : Int)*8)) (2 ^ (min ((IntKind.wrap .u64 (IntKind.wrap .i64 (8*v3))).toNat) 64)))] : List Int))
    else
      AbD (Acj k) fun v5 =>
      Aat.L3 k v4 v5 k ([1779033703,3144134277,1013904242,2773480762,1359893119,2600822924,528734635,1541459225] : List Int) 0
def Aat.L1 (k : Nat) (v0 : (List Int)) : Nat→(List Int)→Option ByteArray
  | 0,_=>none
  | n+1,v2 =>
    if (Int.tmod (v2.length : Int) 64)≠56 then
      chk ((v2.length+([0] : List Int).length)*1≤140737488355328) <|
      Aat.L1 k v0 n (v2++([0] : List Int))
    else
      Aat.L2 k v0 k 7 v2
def Aat (k : Nat) (v0 : (List Int)) : Option ByteArray :=
  chk (v0.length*1≤140737488355328) <|
  chk ((v0.length+([128] : List Int).length)*1≤140737488355328) <|
  Aat.L1 k v0 k (v0++([128] : List Int))
def Aci (k : Nat) (v0 : Int) (v1 : Int) (v2 : ByteArray) (v3 : Int) (v4 : Int) (v5 : Int) (v6 : Int) (v7 : Int) (v8 : (List Int)) (v9 : (List AaA)) (v10 : ByteArray) (v11 : Int) (v12 : ByteArray) : Option ByteArray :=
  AbD (Aa5 k v0 v1 v2 v3 v4 v5 v6 v7 v8 v9 v10 v11 v12) fun v14 =>
  AbD (Aat k v14) fun v15 =>
  some v15
def AcR (k : Nat) (v0 : Int) (v1 : Int) (v2 : ByteArray) (v3 : Int) (v4 : Int) (v5 : Int) (v6 : Int) (v7 : Int) (v8 : (List Int)) (v9 : (List AaA)) (v10 : ByteArray) (v11 : Int) (v12 : ByteArray) : Option Bool :=
  if v11=v0 then
    AbD (Aci k v0 v1 v2 v3 v4 v5 v6 v7 v8 v9 v10 v11 v12) fun v14 =>
    some (AbZ v12 v14)
  else
    some false
def Ach (k : Nat) (v0 : Int) (v1 : Int) (v2 : ByteArray) (v3 : Int) (v4 : Int) (v5 : Int) (v6 : Int) (v7 : Int) (v8 : (List Int)) (v9 : (List AaA)) (v10 : ByteArray) (v11 : Int) (v12 : ByteArray) : Option ((List Int)×Int) :=
  AbD (Aan k v0 v1 v2 v3 v4 v5 v6 v7 v8 v9 v10 v11 v12) fun v15 =>
  if v15≠0 then
    some (([] : List Int),v15)
  else
    AbD (AcR k v0 v1 v2 v3 v4 v5 v6 v7 v8 v9 v10 v11 v12) fun v16 =>
    if (!v16)=true then
      some (([] : List Int),6)
    else
      AbD (Aa5 k v0 v1 v2 v3 v4 v5 v6 v7 v8 v9 v10 v11 v12) fun v17 =>
      AbD (AbQ k v17 v11) fun v18 =>
      AbD (Ac7 k v18 v12) fun v19 =>
      some (v19,0)
def AfI (k : Nat) (v0 : Int) (v1 : Int) (v2 : ByteArray) (v3 : Int) (v4 : Int) (v5 : Int) (v6 : Int) (v7 : Int) (v8 : (List Int)) (v9 : (List AaA)) (v10 : ByteArray) (v11 : Int) (v12 : ByteArray) : Option AaI :=
  chk (v8.length*8≤140737488355328) <|
  chk (v9.length*32≤140737488355328) <|
  some (AaI.mk v0 v1 v2 v3 v4 v5 v6 v7 v8 v9 v10 v11 v12)
def Adv (k : Nat) (v0 : Int) (v1 : Int) (v2 : ByteArray) (v3 : Int) (v4 : Int) (v5 : Int) (v6 : Int) (v7 : Int) (v8 : (List Int)) (v9 : (List AaA)) (v10 : ByteArray) (v11 : Int) (v12 : ByteArray) : Option AaI :=
  AbD (AfI k v0 v1 v2 v3 v4 v5 v6 v7 v8 v9 v10 v11 v12) fun v14 =>
  AbD (Aci k v14.Author v14.Number v14.Prev v14.Time v14.Kind v14.A v14.B v14.C v14.Lst v14.Pins v14.Body v14.Seal_Key v14.Seal_Digest) fun v15 =>
  some (AaI.mk v14.Author v14.Number v14.Prev v14.Time v14.Kind v14.A v14.B v14.C v14.Lst v14.Pins v14.Body v14.Author v15)
def Aa3.L1 (k : Nat) (v0 : (List Int)) (v1 : (List Int)) : Nat→Int→Option Bool
  | 0,_=>none
  | n+1,v3 =>
    if v3<(v0.length : Int) then
      idx v0 v3 fun v4 =>
      idx v1 v3 fun v5 =>
      if v4≠v5 then
        some false
      else
        Aa3.L1 k v0 v1 n (IntKind.wrap .i64 (v3+1))
    else
      some true
def Aa3 (k : Nat) (v0 : (List Int)) (v1 : (List Int)) : Option Bool :=
  if (v0.length : Int)≠(v1.length : Int) then
    some false
  else
    Aa3.L1 k v0 v1 k 0
def Aa2.L1 (k : Nat) (v0 : (List AaA)) (v1 : (List AaA)) : Nat→Int→Option Bool
  | 0,_=>none
  | n+1,v3 =>
    if v3<(v0.length : Int) then
      idx v0 v3 fun v4 =>
      idx v1 v3 fun v5 =>
      AnY (((v4.Author==v5.Author)&&((v4.Height==v5.Height)&&(AbZ v4.Digest v5.Digest)))) fun v6 =>
      if (!v6)=true then
        some false
      else
        Aa2.L1 k v0 v1 n (IntKind.wrap .i64 (v3+1))
    else
      some true
def Aa2 (k : Nat) (v0 : (List AaA)) (v1 : (List AaA)) : Option Bool :=
  if (v0.length : Int)≠(v1.length : Int) then
    some false
  else
    Aa2.L1 k v0 v1 k 0
def AcN (k : Nat) (v0 : Int) (v1 : Int) (v2 : ByteArray) (v3 : Int) (v4 : Int) (v5 : Int) (v6 : Int) (v7 : Int) (v8 : (List Int)) (v9 : (List AaA)) (v10 : ByteArray) (v11 : Int) (v12 : ByteArray) (v13 : Int) (v14 : Int) (v15 : ByteArray) (v16 : Int) (v17 : Int) (v18 : Int) (v19 : Int) (v20 : Int) (v21 : (List Int)) (v22 : (List AaA)) (v23 : ByteArray) (v24 : Int) (v25 : ByteArray) : Option Bool :=
  if v0=v13 then
    if v1=v14 then
      if (AbZ v2 v15)=true then
        if v3=v16 then
          if v4=v17 then
            if v5=v18 then
              if v6=v19 then
                if v7=v20 then
                  AbD (Aa3 k v8 v21) fun v27 =>
                  if v27=true then
                    AbD (Aa2 k v9 v22) fun v28 =>
                    if v28=true then
                      if (AbZ v10 v23)=true then
                        AnY (((v11==v24)&&(AbZ v12 v25))) fun v29 =>
                        some v29
                      else
                        some false
                    else
                      some false
                  else
                    some false
                else
                  some false
              else
                some false
            else
              some false
          else
            some false
        else
          some false
      else
        some false
    else
      some false
  else
    some false
def AdN (k : Nat) (v0 : Int) (v1 : Int) (v2 : ByteArray) (v3 : Int) (v4 : Int) (v5 : Int) (v6 : Int) (v7 : Int) (v8 : (List Int)) (v9 : (List AaA)) (v10 : ByteArray) (v11 : Int) (v12 : ByteArray) (v13 : Int) (v14 : Int) (v15 : ByteArray) (v16 : Int) (v17 : Int) (v18 : Int) (v19 : Int) (v20 : Int) (v21 : (List Int)) (v22 : (List AaA)) (v23 : ByteArray) (v24 : Int) (v25 : ByteArray) : Option Bool :=
  AfT (AcA k v0 v1 v2 v3 v4 v5 v6 v7 v8 v9 v10 v11 v12) fun v27 v28 =>
  AfT (Ach k v0 v1 v2 v3 v4 v5 v6 v7 v8 v9 v10 v11 v12) fun v29 v30 =>
  AbD (AaM k v0 v1 v2 v3 v4 v5 v6 v7 v8 v9 v10 v11 v12) fun v31 =>
  AbD (Aan k v0 v1 v2 v3 v4 v5 v6 v7 v8 v9 v10 v11 v12) fun v32 =>
  if v31=v32 then
    AbD (Aak k v0 v1 v2 v3 v4 v5 v6 v7 v8 v9 v10 v11 v12) fun v33 =>
    AbD (Aa5 k v0 v1 v2 v3 v4 v5 v6 v7 v8 v9 v10 v11 v12) fun v34 =>
    if (AbZ (ofI v33) (ofI v34))=true then
      AbD (Abh k v0 v1 v2 v3 v4 v5 v6 v7 v8 v9 v10 v11 v12) fun v35 =>
      AbD (Aci k v0 v1 v2 v3 v4 v5 v6 v7 v8 v9 v10 v11 v12) fun v36 =>
      if (AbZ v35 v36)=true then
        AbD (AbY k v0 v1 v2 v3 v4 v5 v6 v7 v8 v9 v10 v11 v12) fun v37 =>
        AbD (AcR k v0 v1 v2 v3 v4 v5 v6 v7 v8 v9 v10 v11 v12) fun v38 =>
        if (v37==v38)=true then
          AbD (AcZ k v0 v1 v2 v3 v4 v5 v6 v7 v8 v9 v10 v11 v12) fun v39 =>
          AbD (Adv k v0 v1 v2 v3 v4 v5 v6 v7 v8 v9 v10 v11 v12) fun v40 =>
          AbD (AcN k v39.Author v39.Number v39.Prev v39.Time v39.Kind v39.A v39.B v39.C v39.Lst v39.Pins v39.Body v39.Seal_Key v39.Seal_Digest v40.Author v40.Number v40.Prev v40.Time v40.Kind v40.A v40.B v40.C v40.Lst v40.Pins v40.Body v40.Seal_Key v40.Seal_Digest) fun v41 =>
          if v41=true then
            if v28=v30 then
              if (AbZ (ofI v27) (ofI v29))=true then
                AbD (Ab2 k v0 v1 v2 v3 v4 v5 v6 v7 v8 v9 v10 v11 v12 v13 v14 v15 v16 v17 v18 v19 v20 v21 v22 v23 v24 v25) fun v42 =>
                AbD (AcN k v0 v1 v2 v3 v4 v5 v6 v7 v8 v9 v10 v11 v12 v13 v14 v15 v16 v17 v18 v19 v20 v21 v22 v23 v24 v25) fun v43 =>
                if (v42==v43)=true then
                  AbD (Ab2 k v0 v1 v2 v3 v4 v5 v6 v7 v8 v9 v10 v11 v12 v0 v1 v2 v3 v4 v5 v6 v7 v8 v9 v10 v11 v12) fun v44 =>
                  some v44
                else
                  some false
              else
                some false
            else
              some false
          else
            some false
        else
          some false
      else
        some false
    else
      some false
  else
    some false
def Adw (k : Nat) (v0 : (List Int)) : Option (List Int) :=
  chk (v0.length*1≤140737488355328) <|
  some v0
def AbG.L1 (k : Nat) (v0 : (List Int)) : Nat→Int→Int→Option (Int×(List Int)×Bool)
  | 0,_,_=>none
  | n+1,v4,v5 =>
    if v5<8 then
      idx v0 v5 fun v6 =>
      AbG.L1 k v0 n (AaG .or .u64 (IntKind.wrap .u64 (v4*2 ^ (8))) (IntKind.wrap .u64 v6)) (IntKind.wrap .i64 (v5+1))
    else
      chk ((8 : Int)≤(v0.length : Int)) <|
      AbD (Adw k (v0.drop (8 : Int).toNat)) fun v7 =>
      some (IntKind.wrap .i64 v4,v7,true)
def AbG (k : Nat) (v0 : (List Int)) : Option (Int×(List Int)×Bool) :=
  if (v0.length : Int)<8 then
    some (0,([] : List Int),false)
  else
    AbG.L1 k v0 k 0 0
def Aau (k : Nat) (v0 : (List Int)) (v1 : Bool) : Option (Int×(List Int)×Bool) :=
  Aer (AbG k v0) fun v5 v6 v7 =>
  if v1=true then
    some (v5,v6,v7)
  else
    some (v5,v6,false)
def Acz (k : Nat) (v0 : (List Int)) (v1 : Int) : Option (ByteArray×(List Int)×Bool) :=
  Aer (AbG k v0) fun v5 v6 v7 =>
  if (!v7)=true then
    some ((ByteArray.mk #[]),([] : List Int),false)
  else
    if v5<0 then
      some ((ByteArray.mk #[]),([] : List Int),false)
    else
      if v1<v5 then
        some ((ByteArray.mk #[]),([] : List Int),false)
      else
        if (v6.length : Int)<v5 then
          some ((ByteArray.mk #[]),([] : List Int),false)
        else
          chk ((0 : Int)≤v5∧(v5 : Int)≤(v6.length : Int)) <|
          chk ((0 : Int)≤v5∧(v5 : Int)≤(v6.length : Int)) <|
          AbD (Adw k (v6.drop (v5).toNat)) fun v8 =>
          some (ofI (v6.take (v5).toNat),v8,true)
def AbE (k : Nat) (v0 : (List Int)) (v1 : Bool) (v2 : Int) : Option (ByteArray×(List Int)×Bool) :=
  Aer (Acz k v0 v2) fun v6 v7 v8 =>
  if v1=true then
    some (v6,v7,v8)
  else
    some (v6,v7,false)
def AbB.L1 (k : Nat) (v5 : Int) : Nat→Int→(List Int)→(List Int)→Option ((List Int)×(List Int)×Bool)
  | 0,_,_,_=>none
  | n+1,v8,v9,v10 =>
    if v8<v5 then
      Aer (AbG k v9) fun v11 v12 v13 =>
      chk ((v10.length+([v11] : List Int).length)*8≤140737488355328) <|
      AbB.L1 k v5 n (IntKind.wrap .i64 (v8+1)) v12 (v10++([v11] : List Int))
    else
      some (v10,v9,true)
def AbB (k : Nat) (v0 : (List Int)) (v1 : Int) : Option ((List Int)×(List Int)×Bool) :=
  Aer (AbG k v0) fun v5 v6 v7 =>
  if (!v7)=true then
    some (([] : List Int),([] : List Int),false)
  else
    if v5<0 then
      some (([] : List Int),([] : List Int),false)
    else
      if v1<v5 then
        some (([] : List Int),([] : List Int),false)
      else
        if IntKind.wrap .i64 (Int.tdiv (v6.length : Int) 8)<v5 then
          some (([] : List Int),([] : List Int),false)
        else
          AbB.L1 k v5 k 0 v6 ([] : List Int)
def AaY.J2 (k : Nat) (v0 : (List Int)) (v3 : Int) (v6 : Int) (v9 : ByteArray) (v12 : Int) (v15 : Int) (v18 : Int) (v21 : Int) (v24 : Int) (v27 : (List Int)) (v31 : (List Int)) (v32 : Bool) (v33 : (List AaA)) : Option (AaI×Int) :=
  Aer (AbE k v31 v32 4096) fun v34 v35 v36 =>
  Aer (Aau k v35 v36) fun v37 v38 v39 =>
  Aer (AbE k v38 v39 32) fun v40 v41 v42 =>
  if (!v42)=true then
    some ((AaI.mk 0 0 (ByteArray.mk #[]) 0 0 0 0 0 ([] : List Int) ([] : List AaA) (ByteArray.mk #[]) 0 (ByteArray.mk #[])),1)
  else
    if 0<(v41.length : Int) then
      some ((AaI.mk 0 0 (ByteArray.mk #[]) 0 0 0 0 0 ([] : List Int) ([] : List AaA) (ByteArray.mk #[]) 0 (ByteArray.mk #[])),1)
    else
      AbD (Aan k v3 v6 v9 v12 v15 v18 v21 v24 v27 v33 v34 v37 v40) fun v43 =>
      if v43≠0 then
        some ((AaI.mk 0 0 (ByteArray.mk #[]) 0 0 0 0 0 ([] : List Int) ([] : List AaA) (ByteArray.mk #[]) 0 (ByteArray.mk #[])),1)
      else
        AbD (AcR k v3 v6 v9 v12 v15 v18 v21 v24 v27 v33 v34 v37 v40) fun v44 =>
        if (!v44)=true then
          some ((AaI.mk 0 0 (ByteArray.mk #[]) 0 0 0 0 0 ([] : List Int) ([] : List AaA) (ByteArray.mk #[]) 0 (ByteArray.mk #[])),1)
        else
          AfT (Ach k v3 v6 v9 v12 v15 v18 v21 v24 v27 v33 v34 v37 v40) fun v45 v46 =>
          if (!AbZ (ofI v45) (ofI v0))=true then
            some ((AaI.mk 0 0 (ByteArray.mk #[]) 0 0 0 0 0 ([] : List Int) ([] : List AaA) (ByteArray.mk #[]) 0 (ByteArray.mk #[])),1)
          else
            some ((AaI.mk v3 v6 v9 v12 v15 v18 v21 v24 v27 v33 v34 v37 v40),0)
def AaY.L3 (k : Nat) (v0 : (List Int)) (v3 : Int) (v6 : Int) (v9 : ByteArray) (v12 : Int) (v15 : Int) (v18 : Int) (v21 : Int) (v24 : Int) (v27 : (List Int)) : Nat→Int→(List Int)→Bool→(List AaA)→Option (AaI×Int)
  | 0,_,_,_,_=>none
  | n+1,v50,v51,v52,v53 =>
    if 0<v50 then
      if v52=true then
        if 64≤(v53.length : Int) then
          some ((AaI.mk 0 0 (ByteArray.mk #[]) 0 0 0 0 0 ([] : List Int) ([] : List AaA) (ByteArray.mk #[]) 0 (ByteArray.mk #[])),1)
        else
          Aer (Aau k v51 v52) fun v54 v55 v56 =>
          Aer (Aau k v55 v56) fun v57 v58 v59 =>
          Aer (AbE k v58 v59 32) fun v60 v61 v62 =>
          chk ((v53.length+([(AaA.mk v54 v57 v60)] : List AaA).length)*32≤140737488355328) <|
          AaY.L3 k v0 v3 v6 v9 v12 v15 v18 v21 v24 v27 n (IntKind.wrap .i64 (v50-1)) v61 v62 (v53++([(AaA.mk v54 v57 v60)] : List AaA))
      else
        AaY.J2 k v0 v3 v6 v9 v12 v15 v18 v21 v24 v27 v51 v52 v53
    else
      AaY.J2 k v0 v3 v6 v9 v12 v15 v18 v21 v24 v27 v51 v52 v53
def AaY.J1 (k : Nat) (v0 : (List Int)) (v3 : Int) (v6 : Int) (v9 : ByteArray) (v12 : Int) (v15 : Int) (v18 : Int) (v21 : Int) (v24 : Int) (v27 : (List Int)) (v28 : (List Int)) (v30 : Bool) : Option (AaI×Int) :=
  Aer (Aau k v28 v30) fun v47 v48 v49 =>
  AaY.L3 k v0 v3 v6 v9 v12 v15 v18 v21 v24 v27 k v47 v48 v49 ([] : List AaA)
def AaY (k : Nat) (v0 : (List Int)) : Option (AaI×Int) :=
  Aer (Aau k v0 true) fun v3 v4 v5 =>
  Aer (Aau k v4 v5) fun v6 v7 v8 =>
  Aer (AbE k v7 v8 32) fun v9 v10 v11 =>
  Aer (Aau k v10 v11) fun v12 v13 v14 =>
  Aer (Aau k v13 v14) fun v15 v16 v17 =>
  Aer (Aau k v16 v17) fun v18 v19 v20 =>
  Aer (Aau k v19 v20) fun v21 v22 v23 =>
  Aer (Aau k v22 v23) fun v24 v25 v26 =>
  Aer (AbB k v25 64) fun v27 v28 v29 =>
  if v26=true then
    AaY.J1 k v0 v3 v6 v9 v12 v15 v18 v21 v24 v27 v28 v29
  else
    AaY.J1 k v0 v3 v6 v9 v12 v15 v18 v21 v24 v27 v28 false
def AeW (k : Nat) (v0 : (List Int)) : Option Bool :=
  AfT (AcW k v0) fun v2 v3 =>
  AfT (AaY k v0) fun v4 v5 =>
  if v3=v5 then
    AbD (AcN k v2.Author v2.Number v2.Prev v2.Time v2.Kind v2.A v2.B v2.C v2.Lst v2.Pins v2.Body v2.Seal_Key v2.Seal_Digest v4.Author v4.Number v4.Prev v4.Time v4.Kind v4.A v4.B v4.C v4.Lst v4.Pins v4.Body v4.Seal_Key v4.Seal_Digest) fun v6 =>
    some v6
  else
    some false
def Ace (k : Nat) (v0 : Int) (v1 : Int) (v2 : ByteArray) (v3 : Int) (v4 : Int) (v5 : Int) (v6 : Int) (v7 : Int) (v8 : (List Int)) (v9 : (List AaA)) (v10 : ByteArray) (v11 : Int) (v12 : ByteArray) (v13 : Int) (v14 : Int) (v15 : ByteArray) (v16 : Int) (v17 : Int) (v18 : Int) (v19 : Int) (v20 : Int) (v21 : (List Int)) (v22 : (List AaA)) (v23 : ByteArray) (v24 : Int) (v25 : ByteArray) (v26 : (List Int)) : Option Bool :=
  AbD (AdM k v0 v1 v2 v3 v4 v5 v6 v7 v8 v9 v10 v11 v12) fun v28 =>
  if (!v28)=true then
    AbD (Acl k) fun v29 =>
    some v29
  else
    AbD (AdM k v13 v14 v15 v16 v17 v18 v19 v20 v21 v22 v23 v24 v25) fun v30 =>
    if (!v30)=true then
      AbD (Acl k) fun v31 =>
      some v31
    else
      if 500<(v26.length : Int) then
        AbD (Acl k) fun v32 =>
        some v32
      else
        AbD (Acl k) fun v33 =>
        if v33=true then
          AbD (AdN k v0 v1 v2 v3 v4 v5 v6 v7 v8 v9 v10 v11 v12 v13 v14 v15 v16 v17 v18 v19 v20 v21 v22 v23 v24 v25) fun v34 =>
          if v34=true then
            AbD (Adv k v0 v1 v2 v3 v4 v5 v6 v7 v8 v9 v10 v11 v12) fun v35 =>
            AbD (AdN k v35.Author v35.Number v35.Prev v35.Time v35.Kind v35.A v35.B v35.C v35.Lst v35.Pins v35.Body v35.Seal_Key v35.Seal_Digest v0 v1 v2 v3 v4 v5 v6 v7 v8 v9 v10 v11 v12) fun v36 =>
            if v36=true then
              AbD (AeW k v26) fun v37 =>
              some v37
            else
              some false
          else
            some false
        else
          some false
theorem GK {P : List (List Nat×List Nat)→Prop} {c : List (List Nat×List Nat)→Bool} {l : List (List Nat×List Nat)} (g : ∀ l,c l=true→P l) (h : c l=true:=by kernel_rfl) : P l:=g l h
abbrev Q0 (l : List AaA) : AV := .lst false false (List.map AaA.av l)
abbrev Gi (l : List Int) : Aaq := .grow (List.map (AV.int .i64) l)
abbrev Ci (l : List Int) : Aaq := .cells (List.map (AV.int .i64) l)
theorem A2 {p0 p1 : Prop} (a0 : p0) (a1 : p1) : p0∧p1:=⟨a0,a1⟩
theorem A3 {p0 p1 p2 : Prop} (a0 : p0) (a1 : p1) (a2 : p2) : p0∧p1∧p2:=⟨a0,a1,a2⟩
theorem A4 {p0 p1 p2 p3 : Prop} (a0 : p0) (a1 : p1) (a2 : p2) (a3 : p3) : p0∧p1∧p2∧p3:=⟨a0,a1,a2,a3⟩
theorem A5 {p0 p1 p2 p3 p4 : Prop} (a0 : p0) (a1 : p1) (a2 : p2) (a3 : p3) (a4 : p4) : p0∧p1∧p2∧p3∧p4:=⟨a0,a1,a2,a3,a4⟩
theorem A6 {p0 p1 p2 p3 p4 p5 : Prop} (a0 : p0) (a1 : p1) (a2 : p2) (a3 : p3) (a4 : p4) (a5 : p5) : p0∧p1∧p2∧p3∧p4∧p5:=⟨a0,a1,a2,a3,a4,a5⟩
theorem A7 {p0 p1 p2 p3 p4 p5 p6 : Prop} (a0 : p0) (a1 : p1) (a2 : p2) (a3 : p3) (a4 : p4) (a5 : p5) (a6 : p6) : p0∧p1∧p2∧p3∧p4∧p5∧p6:=⟨a0,a1,a2,a3,a4,a5,a6⟩
theorem A8 {p0 p1 p2 p3 p4 p5 p6 p7 : Prop} (a0 : p0) (a1 : p1) (a2 : p2) (a3 : p3) (a4 : p4) (a5 : p5) (a6 : p6) (a7 : p7) : p0∧p1∧p2∧p3∧p4∧p5∧p6∧p7:=⟨a0,a1,a2,a3,a4,a5,a6,a7⟩
theorem A9 {p0 p1 p2 p3 p4 p5 p6 p7 p8 : Prop} (a0 : p0) (a1 : p1) (a2 : p2) (a3 : p3) (a4 : p4) (a5 : p5) (a6 : p6) (a7 : p7) (a8 : p8) : p0∧p1∧p2∧p3∧p4∧p5∧p6∧p7∧p8:=⟨a0,a1,a2,a3,a4,a5,a6,a7,a8⟩
end Go.TF
set_option maxRecDepth 100000
namespace Go.Proofs.YtomgdcnbceiggaaSrT
open Go Go.Abs Go.Proofs
theorem AdL : Try.prog.follows .mixedOrders=true:=by kernel_rfl
section
variable {n : Nat} {c0 : Cx} {w0 : World} {Q : Acn} {s : Nat→AV} {H : Aae} {N : Nat} {T : Act→World→Prop}
theorem SQ {id : Nat} {ops : List Oper} {draw : Bool} {y : Code} (mu : List Nat) (gs : List (Option (Nat×Bool)))
 (h : ∀ (G : Log→Prop) (K : (Nat→AV)→Aae→Nat→Prop),(∀ lg,(!draw||AdO ops lg)=true→G lg)→(∀ s' H' N',AW Try.prog n c0 w0 y Q s' H' N'→K s' H' N')→AeN Try.prog mu ops gs s H N [] (fun s' H' N' lg=>G lg∧K s' H' N'))
 (hok : Afg n ops gs=true:=by kernel_rfl) : AW Try.prog n c0 w0 (.seq (.region id ops.toArray draw) y) Q s H N:=AW.seqR AdL mu gs hok h
theorem RG {id : Nat} {ops : List Oper} {draw : Bool} (mu : List Nat) (gs : List (Option (Nat×Bool)))
 (h : ∀ (G : Log→Prop) (K : (Nat→AV)→Aae→Nat→Prop),(∀ lg,(!draw||AdO ops lg)=true→G lg)→(∀ s' H' N',Q .normal s' H' N'→K s' H' N')→AeN Try.prog mu ops gs s H N [] (fun s' H' N' lg=>G lg∧K s' H' N'))
 (hok : Afg n ops gs=true:=by kernel_rfl) : AW Try.prog n c0 w0 (.region id ops.toArray draw) Q s H N:=AW.region AdL mu gs hok h
theorem WK {x : Code} (l : List (Nat×AV)) (hl : List (Nat×Aaq)) (N' : Nat) (h1 : ∀ p ∈ l,s p.1=p.2) (h2 : ∀ p ∈ hl,H p.1=some p.2) (h : AW Try.prog n c0 w0 x Q (mkS l) (mkH hl) N') (hN : N≤N':=by simp) : AW Try.prog n c0 w0 x Q s H N:=AW.wk l hl N' h1 h2 hN h
theorem RN (h0 : Abj c0 0) (ρ : List (Nat×Nat)) (l : List (Nat×AV)) (o : List (Nat×Aaq)) (M : Nat)
 (h1 : ∀ p ∈ l,s p.1=Abs.ren (Aew ρ) p.2∧gd (fun i=>(Abs.Afk ρ i).isSome=true) p.2)
 (h2 : ∀ p ∈ o,H (Aew ρ p.1)=some (AgP (Aew ρ) p.2)∧gdO (fun i=>(Abs.Afk ρ i).isSome=true) p.2)
 (h : Abs.Can n c0 w0 (mkS l) (mkH o) M T) (hρ1 : (ρ.map (·.2)).Nodup:=by decide) (hρ2 : ∀ p ∈ ρ,p.1<M∧(p.1<0→p.1=p.2):=by decide) (hk : o.map (·.1)=ρ.map (·.1):=by rfl) : Abs.Can n c0 w0 s H N T:=Abs.Can.ren h0 ρ l o M hρ1 hρ2 (Nat.zero_le _) hk h1 h2 h
theorem RM {x : Code} (h0 : Abj c0 0) (ρ : List (Nat×Nat)) (l : List (Nat×AV)) (o : List (Nat×Aaq)) (M : Nat)
 (h1 : ∀ p ∈ l,s p.1=Abs.ren (Aew ρ) p.2∧gd (fun i=>(Abs.Afk ρ i).isSome=true) p.2)
 (h2 : ∀ p ∈ o,H (Aew ρ p.1)=some (AgP (Aew ρ) p.2)∧gdO (fun i=>(Abs.Afk ρ i).isSome=true) p.2)
 (h : AW Try.prog n c0 w0 x Q (mkS l) (mkH o) M) (hρ1 : (ρ.map (·.2)).Nodup:=by decide) (hρ2 : ∀ p ∈ ρ,p.1<M∧(p.1<0→p.1=p.2):=by decide) (hk : o.map (·.1)=ρ.map (·.1):=by rfl) : AW Try.prog n c0 w0 x Q s H N:=AW.rnm h0 ρ l o M hρ1 hρ2 (Nat.zero_le _) hk h1 h2 h
theorem AC {f : FuncId} {args : List AV} {K : CK} {args0 : List AV} {r : AV} {O' : List (Option Aaq)} (hF : AbK Try.prog f args0 [] r O') (hco : Akm H (nm []) args args0 [])
 (hk : K (ren (nm ([]++Adm N (O'.length-([] : List Aaq).length))) r) (Aim (nm ([]++Adm N (O'.length-([] : List Aaq).length))) H ([]++Adm N (O'.length-([] : List Aaq).length)) O') (N+(O'.length-([] : List Aaq).length)) ([]++[]) ([]++Adm N (O'.length-([] : List Aaq).length)))
 (hcal : AaV Try.prog f=true:=by simp) (hun : ApA [] [] [] O':=by simp) : AlH Try.prog f args H N K :=
 AaT hF hcal [] [] [] rfl hco trivial .nil (by simp) (by simp) (.inl rfl) (by simp) hun hk
theorem CT {t : Nat} {x y : Code} (hb : s t = .bool true) (h : AW Try.prog n c0 w0 x Q s H N) (ht : decide (t<n)=true:=by decide) : AW Try.prog n c0 w0 (.cond (.tmp t) x y) Q s H N:=AW.condT ht hb h
theorem CF {t : Nat} {x y : Code} (hb : s t = .bool false) (h : AW Try.prog n c0 w0 y Q s H N) (ht : decide (t<n)=true:=by decide) : AW Try.prog n c0 w0 (.cond (.tmp t) x y) Q s H N:=AW.condF ht hb h
theorem EN {f : FuncId} {fn : Func} {code : Code} {args : List AV} {O : List Aaq} {r : AV} {O' : List (Option Aaq)} (hf : Try.prog.funcs[f]? = some fn)
 (h : ∀ (c0 : Cx) (w0 : World) (Q : Acn),Abj c0 O.length→(∀ s H N,Ae5 Try.prog s H fn.results.toList r→(∀ i,i<O'.length→H i=nth O' i)→Q .ret s H N∧Q .normal s H N)→AW Try.prog fn.ntmps c0 w0 code Q (AmQ args) (fun i=>O[i]?) O.length)
 (hb : fn.body=some code:=by rfl) (hm : args.length≤fn.ntmps:=by simp) (hin : Ag2 fn.ntmps fn.results.toList=true:=by decide)
 (len : O.length≤O'.length:=by simp) (ga : gdL (· < O.length) args:=by simp) (gO : ∀ o ∈ O,gdO (· < O.length) o:=by simp) (gr : gd (fun i=>(nth O' i).isSome=true) r:=by simp) (gO' : ∀ o,some o ∈ O'→gdO (fun i=>(nth O' i).isSome=true) o:=by simp) : AbK Try.prog f args O r O':=AbK.enter hf hb hm hin len ga gO gr gO' h
theorem NX {α : Type} {F : Nat→α→Prop} {L : α→List (Nat×AV)} {O : α→List (Nat×Aaq)} {M k k' : Nat} (y : α) (hF : F k' y) (h1 : ∀ p ∈ L y,s p.1=p.2) (h2 : ∀ p ∈ O y,H p.1=some p.2) (hk : k'<k:=by omega) (hN : N≤M:=by simp) :
 Abs.Can n c0 w0 s H N (fun a w=>∃ k' y,k'<k∧F k' y∧St n c0 w0 (mkS (L y)) (mkH (O y)) M a w):=Abs.Can.next y hk hF h1 h2 hN
theorem JN {α : Type} {F : α→Prop} {L : α→List (Nat×AV)} {O : α→List (Nat×Aaq)} {M : Nat} (y : α) (hF : F y) (h1 : ∀ p ∈ L y,s p.1=p.2) (h2 : ∀ p ∈ O y,H p.1=some p.2) (hN : N≤M:=by simp) :
 Abs.Can n c0 w0 s H N (fun a w=>∃ y,F y∧St n c0 w0 (mkS (L y)) (mkH (O y)) M a w):=Abs.Can.join y hF h1 h2 hN
end
@[simp↓] theorem AsE {P : Program} {mu : List Nat} {d : Option Nat} {s : Nat→AV} {H : Aae} {N : Nat} {K : CK} {y : Operand} : bop P mu d s H N K (.move y)=K (ev s y) H N [] []:=bop.eq_1 ..
@[simp↓] theorem AsF {P : Program} {mu : List Nat} {d : Option Nat} {s : Nat→AV} {H : Aae} {N : Nat} {K : CK} {y : Operand} : bop P mu d s H N K (.assign y)=K (ev s y) H N [] []:=bop.eq_2 ..
@[simp] theorem t1 : Ac4 Try.prog 1=some false∧Abg Try.prog 1=some 1∧AcE Try.prog 1=some [AV.nilfn]∧Abz Try.prog 1=some AV.nilfn:=by and_intros <;> kernel_rfl
@[simp] theorem t2 : Ac4 Try.prog 2=some false∧Abg Try.prog 2=some 1∧AcE Try.prog 2=some [AV.int .i64 0]∧Abz Try.prog 2=some (AV.int .i64 0)∧AhD Try.prog 2=some IntKind.i64:=by and_intros <;> kernel_rfl
@[simp] theorem t3 : Ac4 Try.prog 3=some false∧Abg Try.prog 3=some 1∧AcE Try.prog 3=some [AV.int .i64 0]∧Abz Try.prog 3=some (AV.int .i64 0)∧AhD Try.prog 3=some IntKind.i64:=by and_intros <;> kernel_rfl
@[simp] theorem t4 : Ac4 Try.prog 4=some false∧Abg Try.prog 4=some 1∧AcE Try.prog 4=some [AV.bool false]∧Abz Try.prog 4=some (AV.bool false)∧Try.prog.underlying 4=some Go.TypeDesc.bool:=by and_intros <;> kernel_rfl
@[simp] theorem t5 : Ac4 Try.prog 5=some false∧Abg Try.prog 5=some 1∧AcE Try.prog 5=some [AV.int .u8 0]∧Abz Try.prog 5=some (AV.int .u8 0)∧AhD Try.prog 5=some IntKind.u8:=by and_intros <;> kernel_rfl
@[simp] theorem t9 : AjK Try.prog 9=true∧Ac4 Try.prog 9=some false∧Abg Try.prog 9=some 1∧AcE Try.prog 9=some [AV.str { data := { toList:=[] } }]∧Abz Try.prog 9=some (AV.str { data := { toList:=[] } })∧AdY Try.prog 9=true:=by and_intros <;> kernel_rfl
@[simp] theorem t22 : Aa9 Try.prog 22=some (3,1,8)∧Amf Try.prog 22=true∧Ac4 Try.prog 22=some false∧Abg Try.prog 22=some 1∧AcE Try.prog 22=some [AV.lst true true []]∧Abz Try.prog 22=some (AV.lst true true [])∧AdY Try.prog 22=true∧Try.prog.underlying 22=some (Go.TypeDesc.slice 3):=by and_intros <;> kernel_rfl
@[simp] theorem t33 : Ac4 Try.prog 33=some false∧Abg Try.prog 33=some 1∧AcE Try.prog 33=some [AV.int .i64 0]∧Abz Try.prog 33=some (AV.int .i64 0)∧AhD Try.prog 33=some IntKind.i64:=by and_intros <;> kernel_rfl
@[simp] theorem t39 : Aa9 Try.prog 39=some (56,3,32)∧Amf Try.prog 39=true∧Ac4 Try.prog 39=some false∧Abg Try.prog 39=some 1∧AcE Try.prog 39=some [AV.lst true true []]∧Abz Try.prog 39=some (AV.lst true true [])∧AdY Try.prog 39=true∧Try.prog.underlying 39=some (Go.TypeDesc.slice 56):=by and_intros <;> kernel_rfl
@[simp] theorem t41 : Ac4 Try.prog 41=some true∧Abg Try.prog 41=some 2∧AcE Try.prog 41=some [AV.int .i64 0,AV.str { data := { toList:=[] } }]∧Abz Try.prog 41=some (AV.agg [AV.int .i64 0,AV.str { data := { toList:=[] } }])∧Ac3 Try.prog 41=true∧Aoj Try.prog 41=some [Ab5.int .i64,Ab5.str]:=by and_intros <;> kernel_rfl
@[simp] theorem t43 : Ac4 Try.prog 43=some true∧Abg Try.prog 43=some 13∧AcE Try.prog 43=some [AV.int .i64 0,AV.int .i64 0,AV.str { data := { toList:=[] } },AV.int .i64 0,AV.int .i64 0,AV.int .i64 0,AV.int .i64 0,AV.int .i64 0,AV.lst true true [],AV.lst true true [],AV.str { data := { toList:=[] } },AV.int .i64 0,AV.str { data := { toList:=[] } }]∧Abz Try.prog 43=some (AV.agg [AV.int .i64 0,AV.int .i64 0,AV.str { data := { toList:=[] } },AV.int .i64 0,AV.int .i64 0,AV.int .i64 0,AV.int .i64 0,AV.int .i64 0,AV.lst true true [],AV.lst true true [],AV.str { data := { toList:=[] } },AV.int .i64 0,AV.str { data := { toList:=[] } }])∧Ac3 Try.prog 43=true:=by and_intros <;> kernel_rfl
@[simp] theorem t44 : Aa9 Try.prog 44=some (5,1,1)∧Amf Try.prog 44=true∧Ac4 Try.prog 44=some false∧Abg Try.prog 44=some 1∧AcE Try.prog 44=some [AV.lst true true []]∧Abz Try.prog 44=some (AV.lst true true [])∧Alx Try.prog 44=true∧AdY Try.prog 44=true∧Try.prog.underlying 44=some (Go.TypeDesc.slice 5):=by and_intros <;> kernel_rfl
@[simp] theorem t55 : Ac4 Try.prog 56=some true∧Abg Try.prog 56=some 3∧AcE Try.prog 56=some [AV.int .i64 0,AV.int .i64 0,AV.str { data := { toList:=[] } }]∧Abz Try.prog 56=some (AV.agg [AV.int .i64 0,AV.int .i64 0,AV.str { data := { toList:=[] } }])∧Ac3 Try.prog 56=true∧Aoj Try.prog 56=some [Ab5.int .i64,Ab5.int .i64,Ab5.str]:=by and_intros <;> kernel_rfl
@[simp] theorem t89 : Ac4 Try.prog 93=some false∧Abg Try.prog 93=some 1∧AcE Try.prog 93=some [AV.int .u64 0]∧Abz Try.prog 93=some (AV.int .u64 0)∧AhD Try.prog 93=some IntKind.u64:=by and_intros <;> kernel_rfl
@[simp] theorem t90 : Ac4 Try.prog 94=some false∧Abg Try.prog 94=some 1∧AcE Try.prog 94=some [AV.int .u64 0]∧Abz Try.prog 94=some (AV.int .u64 0)∧AhD Try.prog 94=some IntKind.u64:=by and_intros <;> kernel_rfl
@[simp] theorem t91 : Ac4 Try.prog 95=some false∧Abg Try.prog 95=some 1∧AcE Try.prog 95=some [AV.int .u32 0]∧Abz Try.prog 95=some (AV.int .u32 0)∧AhD Try.prog 95=some IntKind.u32:=by and_intros <;> kernel_rfl
@[simp] theorem t93 : Ac4 Try.prog 97=some true∧Abg Try.prog 97=some 8∧AcE Try.prog 97=some [AV.int .u32 0,AV.int .u32 0,AV.int .u32 0,AV.int .u32 0,AV.int .u32 0,AV.int .u32 0,AV.int .u32 0,AV.int .u32 0]∧AeM Try.prog 97=some (8,1)∧Abz Try.prog 97=some (AV.agg [AV.int .u32 0,AV.int .u32 0,AV.int .u32 0,AV.int .u32 0,AV.int .u32 0,AV.int .u32 0,AV.int .u32 0,AV.int .u32 0])∧Ac3 Try.prog 97=true∧AmP Try.prog 97=some (8,Ab5.int .u32):=by and_intros <;> kernel_rfl
@[simp] theorem t94 : Ac4 Try.prog 98=some true∧Abg Try.prog 98=some 64∧AcE Try.prog 98=some [AV.int .u32 0,AV.int .u32 0,AV.int .u32 0,AV.int .u32 0,AV.int .u32 0,AV.int .u32 0,AV.int .u32 0,AV.int .u32 0,AV.int .u32 0,AV.int .u32 0,AV.int .u32 0,AV.int .u32 0,AV.int .u32 0,AV.int .u32 0,AV.int .u32 0,AV.int .u32 0,AV.int .u32 0,AV.int .u32 0,AV.int .u32 0,AV.int .u32 0,AV.int .u32 0,AV.int .u32 0,AV.int .u32 0,AV.int .u32 0,AV.int .u32 0,AV.int .u32 0,AV.int .u32 0,AV.int .u32 0,AV.int .u32 0,AV.int .u32 0,AV.int .u32 0,AV.int .u32 0,AV.int .u32 0,AV.int .u32 0,AV.int .u32 0,AV.int .u32 0,AV.int .u32 0,AV.int .u32 0,AV.int .u32 0,AV.int .u32 0,AV.int .u32 0,AV.int .u32 0,AV.int .u32 0,AV.int .u32 0,AV.int .u32 0,AV.int .u32 0,AV.int .u32 0,AV.int .u32 0,AV.int .u32 0,AV.int .u32 0,AV.int .u32 0,AV.int .u32 0,AV.int .u32 0,AV.int .u32 0,AV.int .u32 0,AV.int .u32 0,AV.int .u32 0,AV.int .u32 0,AV.int .u32 0,AV.int .u32 0,AV.int .u32 0,AV.int .u32 0,AV.int .u32 0,AV.int .u32 0]∧AeM Try.prog 98=some (64,1)∧Abz Try.prog 98=some (AV.agg [AV.int .u32 0,AV.int .u32 0,AV.int .u32 0,AV.int .u32 0,AV.int .u32 0,AV.int .u32 0,AV.int .u32 0,AV.int .u32 0,AV.int .u32 0,AV.int .u32 0,AV.int .u32 0,AV.int .u32 0,AV.int .u32 0,AV.int .u32 0,AV.int .u32 0,AV.int .u32 0,AV.int .u32 0,AV.int .u32 0,AV.int .u32 0,AV.int .u32 0,AV.int .u32 0,AV.int .u32 0,AV.int .u32 0,AV.int .u32 0,AV.int .u32 0,AV.int .u32 0,AV.int .u32 0,AV.int .u32 0,AV.int .u32 0,AV.int .u32 0,AV.int .u32 0,AV.int .u32 0,AV.int .u32 0,AV.int .u32 0,AV.int .u32 0,AV.int .u32 0,AV.int .u32 0,AV.int .u32 0,AV.int .u32 0,AV.int .u32 0,AV.int .u32 0,AV.int .u32 0,AV.int .u32 0,AV.int .u32 0,AV.int .u32 0,AV.int .u32 0,AV.int .u32 0,AV.int .u32 0,AV.int .u32 0,AV.int .u32 0,AV.int .u32 0,AV.int .u32 0,AV.int .u32 0,AV.int .u32 0,AV.int .u32 0,AV.int .u32 0,AV.int .u32 0,AV.int .u32 0,AV.int .u32 0,AV.int .u32 0,AV.int .u32 0,AV.int .u32 0,AV.int .u32 0,AV.int .u32 0])∧Ac3 Try.prog 98=true∧AmP Try.prog 98=some (64,Ab5.int .u32):=by and_intros <;> kernel_rfl
@[simp] theorem t96 : Aa9 Try.prog 102=some (95,1,4)∧Amf Try.prog 102=true∧Ac4 Try.prog 102=some false∧Abg Try.prog 102=some 1∧AcE Try.prog 102=some [AV.lst true true []]∧Abz Try.prog 102=some (AV.lst true true [])∧AdY Try.prog 102=true∧Try.prog.underlying 102=some (Go.TypeDesc.slice 95):=by and_intros <;> kernel_rfl
@[simp] theorem Asp : Ac4 Try.prog 112=some true∧Abg Try.prog 112=some 1∧AcE Try.prog 112=some [AV.lst true true []]∧Abz Try.prog 112=some (AV.agg [AV.lst true true []])∧Ac3 Try.prog 112=true:=by and_intros <;> kernel_rfl
@[simp] theorem Aso : Ac4 Try.prog 118=some true∧Abg Try.prog 118=some 5∧AcE Try.prog 118=some [AV.int .i64 0,AV.int .i64 0,AV.int .i64 0,AV.int .i64 0,AV.int .i64 0]∧AeM Try.prog 118=some (5,1)∧Abz Try.prog 118=some (AV.agg [AV.int .i64 0,AV.int .i64 0,AV.int .i64 0,AV.int .i64 0,AV.int .i64 0])∧Ac3 Try.prog 118=true∧AmP Try.prog 118=some (5,Ab5.int .i64):=by and_intros <;> kernel_rfl
@[simp] theorem Asn : Ac4 Try.prog 121=some true∧Abg Try.prog 121=some 2∧AcE Try.prog 121=some [AV.lst true true [],AV.bool false]∧Abz Try.prog 121=some (AV.agg [AV.lst true true [],AV.bool false])∧Ac3 Try.prog 121=true:=by and_intros <;> kernel_rfl
@[simp] theorem Asm : Aa6 Try.prog 41 0=some (0,1)∧AcO Try.prog 41 0=some 0∧Acf Try.prog 41 0=some (0,none)∧Aa6 Try.prog 41 1=some (1,1)∧AcO Try.prog 41 1=some 1∧Acf Try.prog 41 1=some (1,none):=by and_intros <;> kernel_rfl
@[simp] theorem Asl : Aa6 Try.prog 43 0=some (0,1)∧AcO Try.prog 43 0=some 0∧Acf Try.prog 43 0=some (0,none)∧Aa6 Try.prog 43 1=some (1,1)∧AcO Try.prog 43 1=some 1∧Acf Try.prog 43 1=some (1,none)∧Aa6 Try.prog 43 2=some (2,1)∧AcO Try.prog 43 2=some 2∧Acf Try.prog 43 2=some (2,none)∧Aa6 Try.prog 43 3=some (3,1)∧AcO Try.prog 43 3=some 3∧Acf Try.prog 43 3=some (3,none)∧Aa6 Try.prog 43 4=some (4,1)∧AcO Try.prog 43 4=some 4∧Acf Try.prog 43 4=some (4,none)∧Aa6 Try.prog 43 5=some (5,1)∧AcO Try.prog 43 5=some 5∧Acf Try.prog 43 5=some (5,none)∧Aa6 Try.prog 43 6=some (6,1)∧AcO Try.prog 43 6=some 6∧Acf Try.prog 43 6=some (6,none)∧Aa6 Try.prog 43 7=some (7,1)∧AcO Try.prog 43 7=some 7∧Acf Try.prog 43 7=some (7,none)∧Aa6 Try.prog 43 8=some (8,1)∧AcO Try.prog 43 8=some 8∧Acf Try.prog 43 8=some (8,none)∧Aa6 Try.prog 43 9=some (9,1)∧AcO Try.prog 43 9=some 9∧Acf Try.prog 43 9=some (9,none)∧Aa6 Try.prog 43 10=some (10,1)∧AcO Try.prog 43 10=some 10∧Acf Try.prog 43 10=some (10,none)∧Aa6 Try.prog 43 11=some (11,2)∧AcO Try.prog 43 11=some 11∧Acf Try.prog 43 11=some (11,some 2):=by and_intros <;> kernel_rfl
@[simp] theorem Ask : Aa6 Try.prog 56 0=some (0,1)∧AcO Try.prog 56 0=some 0∧Acf Try.prog 56 0=some (0,none)∧Aa6 Try.prog 56 1=some (1,1)∧AcO Try.prog 56 1=some 1∧Acf Try.prog 56 1=some (1,none)∧Aa6 Try.prog 56 2=some (2,1)∧AcO Try.prog 56 2=some 2∧Acf Try.prog 56 2=some (2,none):=by and_intros <;> kernel_rfl
@[simp] theorem Asj : Aa6 Try.prog 97 0=some (0,1)∧Aa6 Try.prog 97 1=some (1,1)∧Aa6 Try.prog 97 2=some (2,1)∧Aa6 Try.prog 97 3=some (3,1)∧Aa6 Try.prog 97 4=some (4,1)∧Aa6 Try.prog 97 5=some (5,1)∧Aa6 Try.prog 97 6=some (6,1)∧Aa6 Try.prog 97 7=some (7,1):=by and_intros <;> kernel_rfl
@[simp] theorem Asi : Aa6 Try.prog 98 0=some (0,1)∧Aa6 Try.prog 98 1=some (1,1)∧Aa6 Try.prog 98 2=some (2,1)∧Aa6 Try.prog 98 3=some (3,1)∧Aa6 Try.prog 98 4=some (4,1)∧Aa6 Try.prog 98 5=some (5,1)∧Aa6 Try.prog 98 6=some (6,1)∧Aa6 Try.prog 98 7=some (7,1)∧Aa6 Try.prog 98 8=some (8,1)∧Aa6 Try.prog 98 9=some (9,1)∧Aa6 Try.prog 98 10=some (10,1)∧Aa6 Try.prog 98 11=some (11,1)∧Aa6 Try.prog 98 12=some (12,1)∧Aa6 Try.prog 98 13=some (13,1)∧Aa6 Try.prog 98 14=some (14,1)∧Aa6 Try.prog 98 15=some (15,1)∧Aa6 Try.prog 98 16=some (16,1)∧Aa6 Try.prog 98 17=some (17,1)∧Aa6 Try.prog 98 18=some (18,1)∧Aa6 Try.prog 98 19=some (19,1)∧Aa6 Try.prog 98 20=some (20,1)∧Aa6 Try.prog 98 21=some (21,1)∧Aa6 Try.prog 98 22=some (22,1)∧Aa6 Try.prog 98 23=some (23,1)∧Aa6 Try.prog 98 24=some (24,1)∧Aa6 Try.prog 98 25=some (25,1)∧Aa6 Try.prog 98 26=some (26,1)∧Aa6 Try.prog 98 27=some (27,1)∧Aa6 Try.prog 98 28=some (28,1)∧Aa6 Try.prog 98 29=some (29,1)∧Aa6 Try.prog 98 30=some (30,1)∧Aa6 Try.prog 98 31=some (31,1)∧Aa6 Try.prog 98 32=some (32,1)∧Aa6 Try.prog 98 33=some (33,1)∧Aa6 Try.prog 98 34=some (34,1)∧Aa6 Try.prog 98 35=some (35,1)∧Aa6 Try.prog 98 36=some (36,1)∧Aa6 Try.prog 98 37=some (37,1)∧Aa6 Try.prog 98 38=some (38,1)∧Aa6 Try.prog 98 39=some (39,1):=by and_intros <;> kernel_rfl
@[simp] theorem Ash : Aa6 Try.prog 98 40=some (40,1)∧Aa6 Try.prog 98 41=some (41,1)∧Aa6 Try.prog 98 42=some (42,1)∧Aa6 Try.prog 98 43=some (43,1)∧Aa6 Try.prog 98 44=some (44,1)∧Aa6 Try.prog 98 45=some (45,1)∧Aa6 Try.prog 98 46=some (46,1)∧Aa6 Try.prog 98 47=some (47,1)∧Aa6 Try.prog 98 48=some (48,1)∧Aa6 Try.prog 98 49=some (49,1)∧Aa6 Try.prog 98 50=some (50,1)∧Aa6 Try.prog 98 51=some (51,1)∧Aa6 Try.prog 98 52=some (52,1)∧Aa6 Try.prog 98 53=some (53,1)∧Aa6 Try.prog 98 54=some (54,1)∧Aa6 Try.prog 98 55=some (55,1)∧Aa6 Try.prog 98 56=some (56,1)∧Aa6 Try.prog 98 57=some (57,1)∧Aa6 Try.prog 98 58=some (58,1)∧Aa6 Try.prog 98 59=some (59,1)∧Aa6 Try.prog 98 60=some (60,1)∧Aa6 Try.prog 98 61=some (61,1)∧Aa6 Try.prog 98 62=some (62,1)∧Aa6 Try.prog 98 63=some (63,1):=by and_intros <;> kernel_rfl
@[simp] theorem Asg : Aa6 Try.prog 112 0=some (0,1)∧AcO Try.prog 112 0=some 0∧Acf Try.prog 112 0=some (0,none):=by and_intros <;> kernel_rfl
@[simp] theorem Asf : Aa6 Try.prog 118 0=some (0,1)∧Aa6 Try.prog 118 1=some (1,1)∧Aa6 Try.prog 118 2=some (2,1)∧Aa6 Try.prog 118 3=some (3,1)∧Aa6 Try.prog 118 4=some (4,1):=by and_intros <;> kernel_rfl
@[simp] theorem Ase : Aa6 Try.prog 121 0=some (0,1)∧AcO Try.prog 121 0=some 0∧Acf Try.prog 121 0=some (0,none)∧Aa6 Try.prog 121 1=some (1,1)∧AcO Try.prog 121 1=some 1∧Acf Try.prog 121 1=some (1,none):=by and_intros <;> kernel_rfl
@[simp] theorem c0 : AaV Try.prog 5=true∧AaV Try.prog 18=true∧AaV Try.prog 19=true∧AaV Try.prog 20=true∧AaV Try.prog 21=true∧AaV Try.prog 22=true∧AaV Try.prog 27=true∧AaV Try.prog 31=true∧AaV Try.prog 44=true∧AaV Try.prog 46=true∧AaV Try.prog 47=true∧AaV Try.prog 48=true∧AaV Try.prog 49=true∧AaV Try.prog 50=true∧AaV Try.prog 51=true∧AaV Try.prog 52=true∧AaV Try.prog 53=true∧AaV Try.prog 54=true∧AaV Try.prog 55=true∧AaV Try.prog 56=true∧AaV Try.prog 57=true∧AaV Try.prog 58=true∧AaV Try.prog 59=true∧AaV Try.prog 60=true∧AaV Try.prog 62=true∧AaV Try.prog 63=true∧AaV Try.prog 65=true∧AaV Try.prog 70=true∧AaV Try.prog 76=true∧AaV Try.prog 77=true:=by and_intros <;> kernel_rfl
@[simp] theorem c30 : AaV Try.prog 79=true∧AaV Try.prog 80=true∧AaV Try.prog 81=true∧AaV Try.prog 82=true∧AaV Try.prog 83=true∧AaV Try.prog 84=true∧AaV Try.prog 85=true∧AaV Try.prog 86=true∧AaV Try.prog 87=true∧AaV Try.prog 88=true∧AaV Try.prog 89=true∧AaV Try.prog 90=true∧AaV Try.prog 91=true∧AaV Try.prog 92=true∧AaV Try.prog 93=true∧AaV Try.prog 94=true∧AaV Try.prog 95=true∧AaV Try.prog 96=true∧AaV Try.prog 97=true∧AaV Try.prog 98=true∧AaV Try.prog 99=true∧AaV Try.prog 100=true∧AaV Try.prog 101=true∧AaV Try.prog 102=true∧AaV Try.prog 103=true∧AaV Try.prog 104=true∧AaV Try.prog 105=true∧AaV Try.prog 111=true∧AaV Try.prog 112=true∧AaV Try.prog 113=true:=by and_intros <;> kernel_rfl
@[simp] theorem c60 : AaV Try.prog 114=true∧AaV Try.prog 115=true∧AaV Try.prog 116=true∧AaV Try.prog 117=true∧AaV Try.prog 118=true∧AaV Try.prog 119=true∧AaV Try.prog 120=true∧AaV Try.prog 124=true∧AaV Try.prog 125=true∧AaV Try.prog 126=true∧AaV Try.prog 127=true:=by and_intros <;> kernel_rfl
def dlt {β : Type} : List (Nat×β)→List Nat→List (Nat×β)→List (Nat×β)
 | [],_,al=>al
 | p::l,dl,al=>if dl.contains p.1 then dlt l dl al else p::dlt l dl al
section
variable {n : Nat} {c0 : Cx} {w0 : World} {Q : Acn} {N : Nat} {l0 l1 : List (Nat×AV)} {o0 o1 : List (Nat×Aaq)} {Φ : Prop}
abbrev Kt (n : Nat) (c0 : Cx) (w0 : World) (y : Code) (Q : Acn) (l0 : List (Nat×AV)) (o0 : List (Nat×Aaq)) (K : (Nat→AV)→Aae→Nat→Prop) : Prop:=∀ s' H' N',AW Try.prog n c0 w0 y Q s' H' N'→K s' H' N'
theorem SR {id : Nat} {ops : List Oper} {draw : Bool} {y : Code} (mu : List Nat) (gs : List (Option (Nat×Bool)))
 (h : ∀ (G : Log→Prop) (K : (Nat→AV)→Aae→Nat→Prop),(∀ lg,(!draw||AdO ops lg)=true→G lg)→Kt n c0 w0 y Q l0 o0 K→AeN Try.prog mu ops gs (mkS l0) (mkH o0) N [] (fun s' H' N' lg=>G lg∧K s' H' N'))
 (hok : Afg n ops gs=true:=by kernel_rfl) : AW Try.prog n c0 w0 (.seq (.region id ops.toArray draw) y) Q (mkS l0) (mkH o0) N:=AW.seqR AdL mu gs hok h
theorem TL {A : Prop} {G : Log→Prop} {c : Log→Bool} {y : Code} {K : (Nat→AV)→Aae→Nat→Prop} (F : Φ) (g : ∀ lg,c lg=true→G lg) (r : Kt n c0 w0 y Q l0 o0 K) (dl : List Nat) (al : List (Nat×AV)) (dh : List Nat) (ah : List (Nat×Aaq)) (M : Nat) (k : AW Try.prog n c0 w0 y Q (mkS l1) (mkH o1) M)
 (e1 : dlt l0 dl al=l1:=by simp only [dlt,List.contains_cons,List.contains_nil,Nat.reduceBEq,Bool.or_false,Bool.or_true,Bool.or_self,Bool.false_eq_true,reduceIte] <;> rfl) (e2 : dlt o0 dh ah=o1:=by simp only [dlt,List.contains_cons,List.contains_nil,Nat.reduceBEq,Bool.or_false,Bool.or_true,Bool.or_self,Bool.false_eq_true,reduceIte] <;> rfl)
 (h : Φ→(∀ lg,c lg=true→G lg)→(∀ s' H' N',(∀ p ∈ l1,s' p.1=p.2)→(∀ p ∈ o1,H' p.1=some p.2)→N'≤M→K s' H' N')→A:=by intro F g r; try simp [F]; and_intros <;> first | exact g _ (by kernel_rfl) | exact r _ _ _ (by simp [F]) (by simp [F]) (by simp) | omega | (simp [F,maxLen] <;> omega)) : A :=
 h F g fun _ _ _ h1 h2 h3=>r _ _ _ (WK l1 o1 M h1 h2 k h3)
theorem SW {id : Nat} {ops : List Oper} {draw : Bool} {y : Code} (F : Φ) (mu : List Nat) (gs : List (Option (Nat×Bool))) (dl : List Nat) (al : List (Nat×AV)) (dh : List Nat) (ah : List (Nat×Aaq)) (M : Nat) (k : AW Try.prog n c0 w0 y Q (mkS l1) (mkH o1) M)
 (e1 : dlt l0 dl al=l1:=by simp only [dlt,List.contains_cons,List.contains_nil,Nat.reduceBEq,Bool.or_false,Bool.or_true,Bool.or_self,Bool.false_eq_true,reduceIte] <;> rfl) (e2 : dlt o0 dh ah=o1:=by simp only [dlt,List.contains_cons,List.contains_nil,Nat.reduceBEq,Bool.or_false,Bool.or_true,Bool.or_self,Bool.false_eq_true,reduceIte] <;> rfl)
 (h : ∀ (G : Log→Prop) (K : (Nat→AV)→Aae→Nat→Prop),Φ→(∀ lg,(!draw||AdO ops lg)=true→G lg)→(∀ s' H' N',(∀ p ∈ l1,s' p.1=p.2)→(∀ p ∈ o1,H' p.1=some p.2)→N'≤M→K s' H' N')→AeN Try.prog mu ops gs (mkS l0) (mkH o0) N [] (fun s' H' N' lg=>G lg∧K s' H' N'):=by intro G K F g r; try simp [F]; and_intros <;> first | exact g _ (by kernel_rfl) | exact r _ _ _ (by simp [F]) (by simp [F]) (by simp) | omega | (simp [F,maxLen] <;> omega))
 (hok : Afg n ops gs=true:=by kernel_rfl) : AW Try.prog n c0 w0 (.seq (.region id ops.toArray draw) y) Q (mkS l0) (mkH o0) N :=
 SQ mu gs (fun G K g r=>h G K F g fun _ _ _ h1 h2 h3=>r _ _ _ (WK l1 o1 M h1 h2 k h3)) hok
theorem CL {id : Nat} {ops : List Oper} {draw : Bool} {y : Code} {Ψ : Prop} (F : Φ) (mu : List Nat) (gs : List (Option (Nat×Bool))) (hc : Ψ) (dl : List Nat) (al : List (Nat×AV)) (dh : List Nat) (ah : List (Nat×Aaq)) (M : Nat) (k : AW Try.prog n c0 w0 y Q (mkS l1) (mkH o1) M)
 (e1 : dlt l0 dl al=l1:=by simp only [dlt,List.contains_cons,List.contains_nil,Nat.reduceBEq,Bool.or_false,Bool.or_true,Bool.or_self,Bool.false_eq_true,reduceIte] <;> rfl) (e2 : dlt o0 dh ah=o1:=by simp only [dlt,List.contains_cons,List.contains_nil,Nat.reduceBEq,Bool.or_false,Bool.or_true,Bool.or_self,Bool.false_eq_true,reduceIte] <;> rfl)
 (h : ∀ (G : Log→Prop) (K : (Nat→AV)→Aae→Nat→Prop),Φ→Ψ→(∀ lg,(!draw||AdO ops lg)=true→G lg)→(∀ s' H' N',(∀ p ∈ l1,s' p.1=p.2)→(∀ p ∈ o1,H' p.1=some p.2)→N'≤M→K s' H' N')→AeN Try.prog mu ops gs (mkS l0) (mkH o0) N [] (fun s' H' N' lg=>G lg∧K s' H' N'):=by intro G K F hc g r; try simp [F]; and_intros; (try any_goals (first | omega | (simp [F,maxLen] <;> omega))); refine AC hc (by first | exact .nil | (repeat' first | exact .nil | refine .cons (.same (by simp [F])) ?_)) ?_; try simp [F]; and_intros <;> first | exact g _ (by kernel_rfl) | exact r _ _ _ (by simp [F]) (by simp [F]) (by simp) | omega | (simp [F,maxLen] <;> omega))
 (hok : Afg n ops gs=true:=by kernel_rfl) : AW Try.prog n c0 w0 (.seq (.region id ops.toArray draw) y) Q (mkS l0) (mkH o0) N :=
 SQ mu gs (fun G K g r=>h G K F hc g fun _ _ _ h1 h2 h3=>r _ _ _ (WK l1 o1 M h1 h2 k h3)) hok
end
end Go.Proofs.YtomgdcnbceiggaaSrT
namespace Go.TF
open Go Go.Abs
end Go.TF
