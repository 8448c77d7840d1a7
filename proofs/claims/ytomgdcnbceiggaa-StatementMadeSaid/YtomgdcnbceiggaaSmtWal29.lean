import Derived.Test.YtomgdcnbceiggaaSmtLay28
import Derived.Test.YtomgdcnbceiggaaSmtLay22
import Derived.Test.YtomgdcnbceiggaaProg
import Derived.KernelRfl
set_option linter.unusedVariables false
set_option maxRecDepth 100000
namespace Go.TF
open Go Go.Abs
abbrev Iz (n : Int) : AV := .int .i64 n
abbrev Lz (l : List Int) : AV := .lst false false (l.map (.int .i64))
abbrev Lb (l : List Int) : AV := .lst false false (l.map (.int .u8))
abbrev Lw (l : List Int) : AV := .lst false false (l.map (.int .u32))
structure AaD where
  Author : Int
  Height : Int
  Digest : ByteArray
@[simp] def AaD.av (x : AaD) : AV:=AV.agg [AV.int .i64 x.Author,AV.int .i64 x.Height,AV.str x.Digest]
@[simp] theorem AaD.okEls (l : List AaD) : okEls 3 (l.map AaD.av)↔True:=iff_true_intro (Adv.2 fun x hx=>by
  simp only [List.mem_map] at hx
  obtain ⟨b,_,rfl⟩:=hx
  simp)
@[simp] theorem AaD.gdF (S : Nat→Prop) (l : List AaD) : gdL S (AaM (l.map AaD.av))↔True:=iff_true_intro (AlF (by simp) l)
@[simp] theorem AaD.frF (l : List AaD) : Adx (AaM (l.map AaD.av))=true:=Akh (by simp) l
@[simp] theorem AaD.renF (σ : Nat→Nat) (l : List AaD) : Afv σ (AaM (l.map AaD.av))=AaM (l.map AaD.av):=Aje (by simp) l
@[simp] theorem AaD.lenF (l : List AaD) : (AaM (l.map AaD.av)).length=l.length*3:=Afn (F:=AaD.av) (fun _=>rfl) l
@[simp↓] theorem AaD.oneF (l : List AaD) : (AaM (l.map AaD.av)).all AV.one=true:=AlA (by simp) l
@[simp] theorem AaD.ids (S : Nat→Prop) (l : List AaD) : Abn S (l.map AaD.av)↔True:=iff_true_intro (AiT (by simp) l)
structure AaI where
  Author : Int
  Number : Int
  Prev : ByteArray
  Time : Int
  Kind : Int
  A : Int
  B : Int
  C : Int
  Lst : (List Int)
  Pins : (List AaD)
  Body : ByteArray
  Seal_Key : Int
  Seal_Digest : ByteArray
@[simp] def AaI.av (x : AaI) : AV:=AV.agg [AV.int .i64 x.Author,AV.int .i64 x.Number,AV.str x.Prev,AV.int .i64 x.Time,AV.int .i64 x.Kind,AV.int .i64 x.A,AV.int .i64 x.B,AV.int .i64 x.C,sl (AV.int .i64) x.Lst,sl AaD.av x.Pins,AV.str x.Body,AV.int .i64 x.Seal_Key,AV.str x.Seal_Digest]
@[simp] theorem AaI.okEls (l : List AaI) : okEls 13 (l.map AaI.av)↔True:=iff_true_intro (Adv.2 fun x hx=>by
  simp only [List.mem_map] at hx
  obtain ⟨b,_,rfl⟩:=hx
  simp)
@[simp] theorem AaI.gdF (S : Nat→Prop) (l : List AaI) : gdL S (AaM (l.map AaI.av))↔True:=iff_true_intro (AlF (by simp) l)
@[simp] theorem AaI.renF (σ : Nat→Nat) (l : List AaI) : Afv σ (AaM (l.map AaI.av))=AaM (l.map AaI.av):=Aje (by simp) l
@[simp] theorem AaI.lenF (l : List AaI) : (AaM (l.map AaI.av)).length=l.length*13:=Afn (F:=AaI.av) (fun _=>rfl) l
@[simp↓] theorem AaI.oneF (l : List AaI) : (AaM (l.map AaI.av)).all AV.one=true:=AlA (by simp) l
@[simp] theorem AaI.ids (S : Nat→Prop) (l : List AaI) : Abn S (l.map AaI.av)↔True:=iff_true_intro (AiT (by simp) l)
def Afl (k : Nat) (v0 : (List Int)) : Option Bool :=
  some (decide ((v0.length : Int)≤400))
def AcZ (k : Nat) (v0 : (List Int)) : Option (List Int) :=
  chk (v0.length*8≤140737488355328) <| some v0
def Abq (k : Nat) (v0 : (List AaD)) : Option (List AaD) :=
  chk (v0.length*32≤140737488355328) <| some v0
def Abk (k : Nat) (v0 : (List Int)) : Option (List Int) :=
  chk (v0.length*1≤140737488355328) <| some v0
def Acp.L1 (k : Nat) (v1 : Int) : Nat→Int→(List Int)→Option (List Int)
  | 0,_,_=>none
  | n+1,v3,v4 =>
    if 0≤v3 then
      chk ((0 : Int)≤IntKind.wrap .u64 v3) <|
      chk ((v4.length+([IntKind.wrap .u8 (Int.fdiv (IntKind.wrap .u64 v1) (2 ^ (min ((IntKind.wrap .u64 v3).toNat) 64)))] : List Int).length)*1≤140737488355328) <|
      Acp.L1 k v1 n (IntKind.wrap .i64 (v3-8)) (v4++([IntKind.wrap .u8 (Int.fdiv (IntKind.wrap .u64 v1) (2 ^ (min ((IntKind.wrap .u64 v3).toNat) 64)))] : List Int))
    else
      some v4
def Acp (k : Nat) (v0 : (List Int)) (v1 : Int) : Option (List Int) :=
  Acp.L1 k v1 k 56 v0
def Ac7 (k : Nat) (v0 : (List Int)) (v1 : Int) : Option (List Int) :=
  AbI (Abk k v0) fun v3 =>
  AbI (Acp k v3 v1) fun v4 =>
  some v4
def Adp (k : Nat) (v0 : (List Int)) (v1 : ByteArray) : Option (List Int) :=
  AbI (Ac7 k v0 (v1.size : Int)) fun v3 =>
  chk ((v3.length+(bI v1).length)*1≤140737488355328) <|
  some (v3++(bI v1))
def AcQ.L1 (k : Nat) (v1 : (List Int)) : Nat→Int→(List Int)→Option (List Int)
  | 0,_,_=>none
  | n+1,v4,v5 =>
    if v4<(v1.length : Int) then
      idx v1 v4 fun v6 =>
      AbI (Acp k v5 v6) fun v7 =>
      AcQ.L1 k v1 n (IntKind.wrap .i64 (v4+1)) v7
    else
      some v5
def AcQ (k : Nat) (v0 v1 : (List Int)) : Option (List Int) :=
  AbI (Ac7 k v0 (v1.length : Int)) fun v3 =>
  AcQ.L1 k v1 k 0 v3
def Aao.L2 (k : Nat) (v9 : (List AaD)) (v10 : ByteArray) : Nat→(List Int)→Int→Option (List Int)
  | 0,_,_=>none
  | n+1,v23,v24 =>
    if v24<(v9.length : Int) then
      idx v9 v24 fun v25 =>
      AbI (Ac7 k v23 v25.Author) fun v26 =>
      AbI (Ac7 k v26 v25.Height) fun v27 =>
      AbI (Adp k v27 v25.Digest) fun v28 =>
      Aao.L2 k v9 v10 n v28 (IntKind.wrap .i64 (v24+1))
    else
      AbI (Adp k v23 v10) fun v29 =>
      some v29
def Aao.L1 (k : Nat) (v3 v4 v5 v6 v7 : Int) (v8 : (List Int)) (v9 : (List AaD)) (v10 : ByteArray) : Nat→(List Int)→Int→Option (List Int)
  | 0,_,_=>none
  | n+1,v17,v18 =>
    if v18<5 then
      chk (v18<5) <|
      idx ([v3,v4,v5,v6,v7] : List Int) v18 fun v19 =>
      AbI (Ac7 k v17 v19) fun v20 =>
      Aao.L1 k v3 v4 v5 v6 v7 v8 v9 v10 n v20 (IntKind.wrap .i64 (v18+1))
    else
      AbI (AcQ k v17 v8) fun v21 =>
      AbI (Ac7 k v21 (v9.length : Int)) fun v22 =>
      Aao.L2 k v9 v10 k v22 0
def Aao (k : Nat) (v0 v1 : Int) (v2 : ByteArray) (v3 v4 v5 v6 v7 : Int) (v8 : (List Int)) (v9 : (List AaD)) (v10 : ByteArray) (v11 : Int) (v12 : ByteArray) : Option (List Int) :=
  AbI (Ac7 k ([] : List Int) v0) fun v14 =>
  AbI (Ac7 k v14 v1) fun v15 =>
  AbI (Adp k v15 v2) fun v16 =>
  Aao.L1 k v3 v4 v5 v6 v7 v8 v9 v10 k v16 0
def Ad7 (k : Nat) : Option (List Int) :=
  chk ((List.replicate 64 0).length=64∧([1116352408,1899447441,3049323471,3921009573,961987163,1508970993,2453635748,2870763221,3624381080,310598401,607225278,1426881987,1925078388,2162078206,2614888103,3248222580,3835390401,4022224774,264347078,604807628,770255983,1249150122,1555081692,1996064986,2554220882,2821834349,2952996808,3210313671,3336571891,3584528711,113926993,338241895,666307205,773529912,1294757372,1396182291,1695183700,1986661051,2177026350,2456956037,2730485921,2820302411,3259730800,3345764771,3516065817,3600352804,4094571909,275423344,430227734,506948616,659060556,883997877,958139571,1322822218,1537002063,1747873779,1955562222,2024104815,2227730452,2361852424,2428436474,2756734187,3204031479,3329325298] : List Int).length=64) <|
  chk (([1116352408,1899447441,3049323471,3921009573,961987163,1508970993,2453635748,2870763221,3624381080,310598401,607225278,1426881987,1925078388,2162078206,2614888103,3248222580,3835390401,4022224774,264347078,604807628,770255983,1249150122,1555081692,1996064986,2554220882,2821834349,2952996808,3210313671,3336571891,3584528711,113926993,338241895,666307205,773529912,1294757372,1396182291,1695183700,1986661051,2177026350,2456956037,2730485921,2820302411,3259730800,3345764771,3516065817,3600352804,4094571909,275423344,430227734,506948616,659060556,883997877,958139571,1322822218,1537002063,1747873779,1955562222,2024104815,2227730452,2361852424,2428436474,2756734187,3204031479,3329325298] : List Int).length=64) <|
  some ([1116352408,1899447441,3049323471,3921009573,961987163,1508970993,2453635748,2870763221,3624381080,310598401,607225278,1426881987,1925078388,2162078206,2614888103,3248222580,3835390401,4022224774,264347078,604807628,770255983,1249150122,1555081692,1996064986,2554220882,2821834349,2952996808,3210313671,3336571891,3584528711,113926993,338241895,666307205,773529912,1294757372,1396182291,1695183700,1986661051,2177026350,2456956037,2730485921,2820302411,3259730800,3345764771,3516065817,3600352804,4094571909,275423344,430227734,506948616,659060556,883997877,958139571,1322822218,1537002063,1747873779,1955562222,2024104815,2227730452,2361852424,2428436474,2756734187,3204031479,3329325298] : List Int)
def Aax (k : Nat) (v0 v1 : Int) : Option Int :=
  chk ((0 : Int)≤AaK .and .u64 (IntKind.wrap .u64 v1) 31) <|
  chk ((0 : Int)≤IntKind.wrap .u64 (32-AaK .and .u64 (IntKind.wrap .u64 v1) 31)) <|
  some (AaK .or .u32 (IntKind.wrap .u32 (v0*2 ^ (min ((AaK .and .u64 (IntKind.wrap .u64 v1) 31).toNat) 32))) (Int.fdiv v0 (2 ^ (min ((IntKind.wrap .u64 (32-AaK .and .u64 (IntKind.wrap .u64 v1) 31)).toNat) 32))))
def AaS (k : Nat) (v0 v1 : Int) : Option Int :=
  AbI (Aax k v0 (IntKind.wrap .i64 (-v1))) fun v3 =>
  some v3
def AaN.L4 (k : Nat) (v21 : (List Int)) : Nat→Int→(List Int)→Option (List Int)
  | 0,_,_=>none
  | n+1,v38,v39 =>
    if v38<8 then
      chk ((0 : Int)≤v38∧v38<8∧(v38).toNat<v39.length) <|
      idx v39 v38 fun v40 =>
      chk ((0 : Int)≤v38∧v38<8∧(v38).toNat<v21.length) <|
      idx v21 v38 fun v41 =>
      chk ((0 : Int)≤v38∧v38<8∧(v38).toNat<v39.length) <|
      AaN.L4 k v21 n (IntKind.wrap .i64 (v38+1)) (v39.set (v38).toNat (IntKind.wrap .u32 (v40+v41)))
    else
      some v39
def AaN.L3 (k : Nat) (v0 v2 v11 : (List Int)) : Nat→Int→(List Int)→Option (List Int)
  | 0,_,_=>none
  | n+1,v20,v21 =>
    if v20<64 then
      chk ((0 : Int)≤0∧0<8∧(0 : Int).toNat<v21.length) <|
      idx v21 (0 : Int) fun v22 =>
      chk ((0 : Int)≤4∧4<8∧(4 : Int).toNat<v21.length) <|
      idx v21 (4 : Int) fun v23 =>
      chk ((0 : Int)≤7∧7<8∧(7 : Int).toNat<v21.length) <|
      idx v21 (7 : Int) fun v24 =>
      AbI (AaS k v23 6) fun v25 =>
      AbI (AaS k v23 11) fun v26 =>
      AbI (AaS k v23 25) fun v27 =>
      chk ((0 : Int)≤5∧5<8∧(5 : Int).toNat<v21.length) <|
      idx v21 (5 : Int) fun v28 =>
      chk ((0 : Int)≤6∧6<8∧(6 : Int).toNat<v21.length) <|
      idx v21 (6 : Int) fun v29 =>
      chk ((0 : Int)≤v20∧v20<64∧(v20).toNat<v2.length) <|
      idx v2 v20 fun v30 =>
      chk ((0 : Int)≤v20∧v20<64∧(v20).toNat<v11.length) <|
      idx v11 v20 fun v31 =>
      AbI (AaS k v22 2) fun v32 =>
      AbI (AaS k v22 13) fun v33 =>
      AbI (AaS k v22 22) fun v34 =>
      chk ((0 : Int)≤1∧1<8∧(1 : Int).toNat<v21.length) <|
      idx v21 (1 : Int) fun v35 =>
      chk ((0 : Int)≤2∧2<8∧(2 : Int).toNat<v21.length) <|
      idx v21 (2 : Int) fun v36 =>
      chk ((0 : Int)≤1∧1<8∧(1 : Int).toNat<v21.length) <|
      chk ((0 : Int)≤2∧2<8∧(2 : Int).toNat<v21.length) <|
      chk ((0 : Int)≤0∧0<8∧(0 : Int).toNat<v21.length) <|
      chk ((0 : Int)≤1∧1<8∧(1 : Int).toNat<v21.length) <|
      chk ((0 : Int)≤2∧2<8∧(2 : Int).toNat<v21.length) <|
      chk ((0 : Int)≤3∧3<8∧(3 : Int).toNat<v21.length) <|
      idx v21 (3 : Int) fun v37 =>
      chk ((0 : Int)≤4∧4<8∧(4 : Int).toNat<v21.length) <|
      chk ((0 : Int)≤5∧5<8∧(5 : Int).toNat<v21.length) <|
      chk ((0 : Int)≤6∧6<8∧(6 : Int).toNat<v21.length) <|
      chk (v21.length=8∧([IntKind.wrap .u32 (IntKind.wrap .u32 (IntKind.wrap .u32 (IntKind.wrap .u32 (IntKind.wrap .u32 (v24+AaK .xor .u32 (AaK .xor .u32 v25 v26) v27)+AaK .xor .u32 (AaK .and .u32 v23 v28) (AaK .and .u32 (AaK .xor .u32 (IntKind.max .u32) v23) v29))+v30)+v31)+IntKind.wrap .u32 (AaK .xor .u32 (AaK .xor .u32 v32 v33) v34+AaK .xor .u32 (AaK .xor .u32 (AaK .and .u32 v22 v35) (AaK .and .u32 v22 v36)) (AaK .and .u32 v35 v36))),v22,v35,v36,IntKind.wrap .u32 (v37+IntKind.wrap .u32 (IntKind.wrap .u32 (IntKind.wrap .u32 (IntKind.wrap .u32 (v24+AaK .xor .u32 (AaK .xor .u32 v25 v26) v27)+AaK .xor .u32 (AaK .and .u32 v23 v28) (AaK .and .u32 (AaK .xor .u32 (IntKind.max .u32) v23) v29))+v30)+v31)),v23,v28,v29] : List Int).length=8) <|
      AaN.L3 k v0 v2 v11 n (IntKind.wrap .i64 (v20+1)) ([IntKind.wrap .u32 (IntKind.wrap .u32 (IntKind.wrap .u32 (IntKind.wrap .u32 (IntKind.wrap .u32 (v24+AaK .xor .u32 (AaK .xor .u32 v25 v26) v27)+AaK .xor .u32 (AaK .and .u32 v23 v28) (AaK .and .u32 (AaK .xor .u32 (IntKind.max .u32) v23) v29))+v30)+v31)+IntKind.wrap .u32 (AaK .xor .u32 (AaK .xor .u32 v32 v33) v34+AaK .xor .u32 (AaK .xor .u32 (AaK .and .u32 v22 v35) (AaK .and .u32 v22 v36)) (AaK .and .u32 v35 v36))),v22,v35,v36,IntKind.wrap .u32 (v37+IntKind.wrap .u32 (IntKind.wrap .u32 (IntKind.wrap .u32 (IntKind.wrap .u32 (v24+AaK .xor .u32 (AaK .xor .u32 v25 v26) v27)+AaK .xor .u32 (AaK .and .u32 v23 v28) (AaK .and .u32 (AaK .xor .u32 (IntKind.max .u32) v23) v29))+v30)+v31)),v23,v28,v29] : List Int)
    else
      AaN.L4 k v21 k 0 v0
def AaN.L2 (k : Nat) (v0 v2 : (List Int)) : Nat→Int→(List Int)→Option (List Int)
  | 0,_,_=>none
  | n+1,v10,v11 =>
    if v10<64 then
      chk ((0 : Int)≤(IntKind.wrap .i64 (v10-15))∧(IntKind.wrap .i64 (v10-15))<64∧(IntKind.wrap .i64 (v10-15)).toNat<v11.length) <|
      idx v11 (IntKind.wrap .i64 (v10-15)) fun v12 =>
      chk ((0 : Int)≤(IntKind.wrap .i64 (v10-2))∧(IntKind.wrap .i64 (v10-2))<64∧(IntKind.wrap .i64 (v10-2)).toNat<v11.length) <|
      idx v11 (IntKind.wrap .i64 (v10-2)) fun v13 =>
      chk ((0 : Int)≤(IntKind.wrap .i64 (v10-16))∧(IntKind.wrap .i64 (v10-16))<64∧(IntKind.wrap .i64 (v10-16)).toNat<v11.length) <|
      idx v11 (IntKind.wrap .i64 (v10-16)) fun v14 =>
      AbI (AaS k v12 7) fun v15 =>
      AbI (AaS k v12 18) fun v16 =>
      chk ((0 : Int)≤(IntKind.wrap .i64 (v10-7))∧(IntKind.wrap .i64 (v10-7))<64∧(IntKind.wrap .i64 (v10-7)).toNat<v11.length) <|
      idx v11 (IntKind.wrap .i64 (v10-7)) fun v17 =>
      AbI (AaS k v13 17) fun v18 =>
      AbI (AaS k v13 19) fun v19 =>
      chk ((0 : Int)≤v10∧v10<64∧(v10).toNat<v11.length) <|
      AaN.L2 k v0 v2 n (IntKind.wrap .i64 (v10+1)) (v11.set (v10).toNat (IntKind.wrap .u32 (IntKind.wrap .u32 (IntKind.wrap .u32 (v14+AaK .xor .u32 (AaK .xor .u32 v15 v16) (Int.fdiv v12 (2 ^ (3))))+v17)+AaK .xor .u32 (AaK .xor .u32 v18 v19) (Int.fdiv v13 (2 ^ (10))))))
    else
      chk (v0.length=8) <|
      chk ((List.replicate 8 0).length=8∧v0.length=8) <|
      AaN.L3 k v0 v2 v11 k 0 v0
def AaN.L1 (k : Nat) (v0 v1 v2 : (List Int)) : Nat→Int→(List Int)→Option (List Int)
  | 0,_,_=>none
  | n+1,v4,v5 =>
    if v4<16 then
      idx v1 (IntKind.wrap .i64 (4*v4)) fun v6 =>
      idx v1 (IntKind.wrap .i64 (IntKind.wrap .i64 (4*v4)+1)) fun v7 =>
      idx v1 (IntKind.wrap .i64 (IntKind.wrap .i64 (4*v4)+2)) fun v8 =>
      idx v1 (IntKind.wrap .i64 (IntKind.wrap .i64 (4*v4)+3)) fun v9 =>
      chk ((0 : Int)≤v4∧v4<64∧(v4).toNat<v5.length) <|
      AaN.L1 k v0 v1 v2 n (IntKind.wrap .i64 (v4+1)) (v5.set (v4).toNat (AaK .or .u32 (AaK .or .u32 (AaK .or .u32 (IntKind.wrap .u32 ((IntKind.wrap .u32 v6)*2 ^ (24))) (IntKind.wrap .u32 ((IntKind.wrap .u32 v7)*2 ^ (16)))) (IntKind.wrap .u32 ((IntKind.wrap .u32 v8)*2 ^ (8)))) (IntKind.wrap .u32 v9)))
    else
      AaN.L2 k v0 v2 k 16 v5
def AaN (k : Nat) (v0 v1 v2 : (List Int)) : Option (List Int) :=
  AaN.L1 k v0 v1 v2 k 0 (List.replicate 64 0)
def Aar.L4 (k : Nat) (v7 : (List Int)) : Nat→Int→(List Int)→Option ByteArray
  | 0,_,_=>none
  | n+1,v9,v10 =>
    if v9<8 then
      chk (v9<8) <|
      idx v7 v9 fun v11 =>
      chk ((v10.length+([IntKind.wrap .u8 (Int.fdiv v11 (2 ^ (24))),IntKind.wrap .u8 (Int.fdiv v11 (2 ^ (16))),IntKind.wrap .u8 (Int.fdiv v11 (2 ^ (8))),IntKind.wrap .u8 v11] : List Int).length)*1≤140737488355328) <|
      Aar.L4 k v7 n (IntKind.wrap .i64 (v9+1)) (v10++([IntKind.wrap .u8 (Int.fdiv v11 (2 ^ (24))),IntKind.wrap .u8 (Int.fdiv v11 (2 ^ (16))),IntKind.wrap .u8 (Int.fdiv v11 (2 ^ (8))),IntKind.wrap .u8 v11] : List Int))
    else
      some (ofI v10)
def Aar.L3 (k : Nat) (v5 : (List Int)) : Nat→(List Int)→(List Int)→Option ByteArray
  | 0,_,_=>none
  | n+1,v6,v7 =>
    if 0<(v6.length : Int) then
      chk ((64 : Int)≤(v6.length : Int)) <|
      AbI (AaN k v7 (v6.take (64 : Int).toNat) v5) fun v8 =>
      chk ((64 : Int)≤(v6.length : Int)) <|
      Aar.L3 k v5 n (v6.drop (64 : Int).toNat) v8
    else
      chk (v7.length=8) <|
      Aar.L4 k v7 k 0 ([] : List Int)
def Aar.L2 (k : Nat) (v0 : (List Int)) : Nat→Int→(List Int)→Option ByteArray
  | 0,_,_=>none
  | n+1,v3,v4 =>
    if 0≤v3 then
      chk ((0 : Int)≤IntKind.wrap .u64 v3) <|
      chk ((v4.length+([IntKind.wrap .u8 (Int.fdiv (IntKind.wrap .u64 (IntKind.wrap .u64 (v0.length : Int)*8)) (2 ^ (min ((IntKind.wrap .u64 v3).toNat) 64)))] : List Int).length)*1≤140737488355328) <|
      Aar.L2 k v0 n (IntKind.wrap .i64 (v3-8)) (v4++([IntKind.wrap .u8 (Int.fdiv (IntKind.wrap .u64 (IntKind.wrap .u64 (v0.length : Int)*8)) (2 ^ (min ((IntKind.wrap .u64 v3).toNat) 64)))] : List Int))
    else
      AbI (Ad7 k) fun v5 =>
      chk ((List.replicate 8 0).length=8∧([1779033703,3144134277,1013904242,2773480762,1359893119,2600822924,528734635,1541459225] : List Int).length=8) <|
      chk ((List.replicate 64 0).length=64∧v5.length=64) <|
      Aar.L3 k v5 k v4 ([1779033703,3144134277,1013904242,2773480762,1359893119,2600822924,528734635,1541459225] : List Int)
def Aar.L1 (k : Nat) (v0 : (List Int)) : Nat→(List Int)→Option ByteArray
  | 0,_=>none
  | n+1,v2 =>
    if (Int.tmod (v2.length : Int) 64)≠56 then
      chk ((v2.length+([0] : List Int).length)*1≤140737488355328) <|
      Aar.L1 k v0 n (v2++([0] : List Int))
    else
      Aar.L2 k v0 k 56 v2
def Aar (k : Nat) (v0 : (List Int)) : Option ByteArray :=
  chk (v0.length*1≤140737488355328) <|
  chk ((v0.length+([128] : List Int).length)*1≤140737488355328) <|
  Aar.L1 k v0 k (v0++([128] : List Int))
def Aby (k : Nat) (v0 v1 : Int) (v2 : ByteArray) (v3 v4 v5 v6 v7 : Int) (v8 : (List Int)) (v9 : (List AaD)) (v10 : ByteArray) (v11 : Int) (v12 : ByteArray) : Option ByteArray :=
  AbI (Aao k v0 v1 v2 v3 v4 v5 v6 v7 v8 v9 v10 v11 v12) fun v14 =>
  AbI (Aar k v14) fun v15 =>
  some v15
def Acw (k : Nat) (v0 v1 : Int) (v2 : ByteArray) (v3 v4 v5 v6 v7 : Int) (v8 : (List Int)) (v9 : (List AaD)) (v10 : ByteArray) (v11 : Int) (v12 : ByteArray) : Option AaI :=
  AbI (AcZ k v8) fun v14 =>
  AbI (Abq k v9) fun v15 =>
  AbI (Aby k v0 v1 v2 v3 v4 v5 v6 v7 v14 v15 v10 v11 v12) fun v16 =>
  some (AaI.mk v0 v1 v2 v3 v4 v5 v6 v7 v14 v15 v10 v0 v16)
def Abv (k : Nat) (v0 v1 v2 : Int) : Option Bool :=
  if v1≤v0 then
    some (decide (v0≤v2))
  else
    some false
def AbX (k : Nat) (v0 : Int) : Option Bool :=
  AbI (Abv k v0 0 1099511627776) fun v2 =>
  some v2
def Ace (k : Nat) (v0 v1 : Int) (v2 : ByteArray) (v3 v4 v5 v6 v7 : Int) (v8 : (List Int)) (v9 : (List AaD)) (v10 : ByteArray) (v11 : Int) (v12 : ByteArray) : Option Bool :=
  if v4=1 then
    AbI (Abv k v5 0 63) fun v14 =>
    if v14=true then
      if v5≠v0 then
        AbI (Abv k v6 1 3) fun v15 =>
        if v15=true then
          AbI (Abv k v7 v3 2147483648) fun v16 =>
          some v16
        else
          some false
      else
        some false
    else
      some false
  else
    if v4=2 then
      AbI (Abv k v5 0 199) fun v17 =>
      if v17=true then
        if v6=0 then
          some (v7==0)
        else
          some false
      else
        some false
    else
      if v4=3 then
        if v5=0 then
          if v6=0 then
            some (v7==0)
          else
            some false
        else
          some false
      else
        some true
def Ac9 (k : Nat) (v0 : Int) : Option Bool :=
  AbI (AbX k v0) fun v2 =>
  some (!v2)
def AaZ.L1 (k : Nat) (v0 : (List Int)) : Nat→Int→Option Int
  | 0,_=>none
  | n+1,v2 =>
    if v2<(v0.length : Int) then
      idx v0 v2 fun v3 =>
      AbI (Ac9 k v3) fun v4 =>
      if v4=true then
        some v2
      else
        AaZ.L1 k v0 n (IntKind.wrap .i64 (v2+1))
    else
      some (-1)
def AaZ (k : Nat) (v0 : (List Int)) : Option Int :=
  AaZ.L1 k v0 k 0
def Aa6 (k : Nat) (v0 : (List Int)) : Option Bool :=
  AbI (AaZ k v0) fun v2 =>
  some (decide (0≤v2))
def AaW.J2 (k : Nat) (v2 : Int) (kb1 : Int→Option Bool) (v4 : Bool) : Option Bool :=
  if v4=true then
    some false
  else
    kb1 (IntKind.wrap .i64 (v2+1))
def AaW.L1 (k : Nat) (v0 : (List AaD)) : Nat→Int→Option Bool
  | 0,_=>none
  | n+1,v2 =>
    if v2<(v0.length : Int) then
      idx v0 v2 fun v3 =>
      AbI (Abv k v3.Author 0 63) fun v5 =>
      if (!v5)=true then
        AaW.J2 k v2 (fun v2_=>AaW.L1 k v0 n v2_) true
      else
        if 0<v2 then
          idx v0 (IntKind.wrap .i64 (v2-1)) fun v6 =>
          if v3.Author≤v6.Author then
            AaW.J2 k v2 (fun v2_=>AaW.L1 k v0 n v2_) true
          else
            AbI (Abv k v3.Height 1 200) fun v7 =>
            if (!v7)=true then
              AaW.J2 k v2 (fun v2_=>AaW.L1 k v0 n v2_) true
            else
              AaW.J2 k v2 (fun v2_=>AaW.L1 k v0 n v2_) ((v3.Digest.size : Int) !=32)
        else
          AbI (Abv k v3.Height 1 200) fun v8 =>
          if (!v8)=true then
            AaW.J2 k v2 (fun v2_=>AaW.L1 k v0 n v2_) true
          else
            AaW.J2 k v2 (fun v2_=>AaW.L1 k v0 n v2_) ((v3.Digest.size : Int) !=32)
    else
      some true
def AaW (k : Nat) (v0 : (List AaD)) : Option Bool :=
  AaW.L1 k v0 k 0
def AaQ.J1 (k : Nat) : Option Int :=
  some 0
def AaQ.J2 (k : Nat) (v24 : Bool) : Option Int :=
  if v24=true then
    some 1
  else
    AaQ.J1 k
def AaQ.J3 (k : Nat) (v35 : Bool) : Option Int :=
  if v35=true then
    some 1
  else
    AaQ.J1 k
def AaQ (k : Nat) (v0 v1 : Int) (v2 : ByteArray) (v3 v4 v5 v6 v7 : Int) (v8 : (List Int)) (v9 : (List AaD)) (v10 : ByteArray) (v11 : Int) (v12 : ByteArray) : Option Int :=
  AbI (Abv k v0 0 63) fun v14 =>
  if (!v14)=true then
    some 4
  else
    AbI (Abv k v4 1 3) fun v15 =>
    if (!v15)=true then
      AbI (Abv k v4 10 31) fun v16 =>
      if (!v16)=true then
        some 5
      else
        AbI (Abv k v3 0 2147483648) fun v17 =>
        if (!v17)=true then
          some 9
        else
          AbI (Abv k v1 0 199) fun v18 =>
          if (!v18)=true then
            some 2
          else
            AbI (AbX k v5) fun v19 =>
            if (!v19)=true then
              some 2
            else
              AbI (AbX k v6) fun v20 =>
              if (!v20)=true then
                some 2
              else
                AbI (AbX k v7) fun v21 =>
                if (!v21)=true then
                  some 2
                else
                  AbI (Ace k v0 v1 v2 v3 v4 v5 v6 v7 v8 v9 v10 v11 v12) fun v22 =>
                  if (!v22)=true then
                    some 2
                  else
                    AbI (Aa6 k v8) fun v23 =>
                    if v23=true then
                      some 2
                    else
                      if 64<(v8.length : Int) then
                        some 3
                      else
                        if 64<(v9.length : Int) then
                          some 3
                        else
                          if 4096<(v10.size : Int) then
                            some 3
                          else
                            if v1=0 then
                              if (!Abo v2 (ByteArray.mk #[]))=true then
                                AaQ.J2 k true
                              else
                                if 0<v1 then
                                  none
                                else
                                  AbI (AaW k v9) fun v25 =>
                                  if (!v25)=true then
                                    AaQ.J2 k true
                                  else
                                    if v4≤3 then
                                      AaQ.J2 k (decide (0<IntKind.wrap .i64 (IntKind.wrap .i64 ((v8.length : Int)+(v9.length : Int))+(v10.size : Int))))
                                    else
                                      AaQ.J2 k false
                            else
                              if 0<v1 then
                                if (v2.size : Int)≠32 then
                                  AaQ.J2 k true
                                else
                                  AbI (AaW k v9) fun v26 =>
                                  if (!v26)=true then
                                    AaQ.J2 k true
                                  else
                                    if v4≤3 then
                                      AaQ.J2 k (decide (0<IntKind.wrap .i64 (IntKind.wrap .i64 ((v8.length : Int)+(v9.length : Int))+(v10.size : Int))))
                                    else
                                      AaQ.J2 k false
                              else
                                AbI (AaW k v9) fun v27 =>
                                if (!v27)=true then
                                  AaQ.J2 k true
                                else
                                  if v4≤3 then
                                    AaQ.J2 k (decide (0<IntKind.wrap .i64 (IntKind.wrap .i64 ((v8.length : Int)+(v9.length : Int))+(v10.size : Int))))
                                  else
                                    AaQ.J2 k false
    else
      AbI (Abv k v3 0 2147483648) fun v28 =>
      if (!v28)=true then
        some 9
      else
        AbI (Abv k v1 0 199) fun v29 =>
        if (!v29)=true then
          some 2
        else
          AbI (AbX k v5) fun v30 =>
          if (!v30)=true then
            some 2
          else
            AbI (AbX k v6) fun v31 =>
            if (!v31)=true then
              some 2
            else
              AbI (AbX k v7) fun v32 =>
              if (!v32)=true then
                some 2
              else
                AbI (Ace k v0 v1 v2 v3 v4 v5 v6 v7 v8 v9 v10 v11 v12) fun v33 =>
                if (!v33)=true then
                  some 2
                else
                  AbI (Aa6 k v8) fun v34 =>
                  if v34=true then
                    some 2
                  else
                    if 64<(v8.length : Int) then
                      some 3
                    else
                      if 64<(v9.length : Int) then
                        some 3
                      else
                        if 4096<(v10.size : Int) then
                          some 3
                        else
                          if v1=0 then
                            if (!Abo v2 (ByteArray.mk #[]))=true then
                              AaQ.J3 k true
                            else
                              if 0<v1 then
                                none
                              else
                                AbI (AaW k v9) fun v36 =>
                                if (!v36)=true then
                                  AaQ.J3 k true
                                else
                                  if v4≤3 then
                                    AaQ.J3 k (decide (0<IntKind.wrap .i64 (IntKind.wrap .i64 ((v8.length : Int)+(v9.length : Int))+(v10.size : Int))))
                                  else
                                    AaQ.J3 k false
                          else
                            if 0<v1 then
                              if (v2.size : Int)≠32 then
                                AaQ.J3 k true
                              else
                                AbI (AaW k v9) fun v37 =>
                                if (!v37)=true then
                                  AaQ.J3 k true
                                else
                                  if v4≤3 then
                                    AaQ.J3 k (decide (0<IntKind.wrap .i64 (IntKind.wrap .i64 ((v8.length : Int)+(v9.length : Int))+(v10.size : Int))))
                                  else
                                    AaQ.J3 k false
                            else
                              AbI (AaW k v9) fun v38 =>
                              if (!v38)=true then
                                AaQ.J3 k true
                              else
                                if v4≤3 then
                                  AaQ.J3 k (decide (0<IntKind.wrap .i64 (IntKind.wrap .i64 ((v8.length : Int)+(v9.length : Int))+(v10.size : Int))))
                                else
                                  AaQ.J3 k false
def Abm (k : Nat) (v0 v1 : Int) (v2 : ByteArray) (v3 v4 v5 v6 v7 : Int) (v8 : (List Int)) (v9 : (List AaD)) (v10 : ByteArray) (v11 : Int) (v12 : ByteArray) : Option Bool :=
  AbI (Aby k v0 v1 v2 v3 v4 v5 v6 v7 v8 v9 v10 v11 v12) fun v14 =>
  Ano (((v11==v0)&&(Abo v12 v14))) fun v15 =>
  some v15
def AcP (k : Nat) (v0 v1 : Int) (v2 : ByteArray) (v3 v4 v5 v6 v7 : Int) (v8 : (List Int)) (v9 : (List AaD)) (v10 : ByteArray) (v11 : Int) (v12 : ByteArray) : Option ((List Int)×Int) :=
  AbI (AaQ k v0 v1 v2 v3 v4 v5 v6 v7 v8 v9 v10 v11 v12) fun v15 =>
  if v15≠0 then
    some (([] : List Int),v15)
  else
    AbI (Abm k v0 v1 v2 v3 v4 v5 v6 v7 v8 v9 v10 v11 v12) fun v16 =>
    if (!v16)=true then
      some (([] : List Int),6)
    else
      AbI (Aao k v0 v1 v2 v3 v4 v5 v6 v7 v8 v9 v10 v11 v12) fun v17 =>
      AbI (Ac7 k v17 v11) fun v18 =>
      AbI (Adp k v18 v12) fun v19 =>
      some (v19,0)
def AbQ.L1 (k : Nat) (v0 : (List Int)) : Nat→Int→Int→Option (Int×(List Int)×Bool)
  | 0,_,_=>none
  | n+1,v4,v5 =>
    if v5<((v0.take (8 : Int).toNat).length : Int) then
      idx (v0.take (8 : Int).toNat) v5 fun v6 =>
      AbQ.L1 k v0 n (AaK .or .u64 (IntKind.wrap .u64 (v4*2 ^ (8))) (IntKind.wrap .u64 v6)) (IntKind.wrap .i64 (v5+1))
    else
      chk ((8 : Int)≤(v0.length : Int)) <|
      AbI (Abk k (v0.drop (8 : Int).toNat)) fun v7 =>
      some (IntKind.wrap .i64 v4,v7,true)
def AbQ (k : Nat) (v0 : (List Int)) : Option (Int×(List Int)×Bool) :=
  if (v0.length : Int)<8 then
    some (0,([] : List Int),false)
  else
    chk ((8 : Int)≤(v0.length : Int)) <|
    AbQ.L1 k v0 k 0 0
def Abc (k : Nat) (v0 : Bool) : Option Unit :=
  if (!v0)=true then
    none
  else
    some ()
def AaT (k : Nat) (v0 : (List Int)) : Option (Int×(List Int)) :=
  AfB (AbQ k v0) fun v3 v4 v5 =>
  AbI (Abc k v5) fun _ =>
  some (v3,v4)
def Ac6 (k : Nat) (v0 : (List Int)) (v1 : Int) : Option (ByteArray×(List Int)×Bool) :=
  AfB (AbQ k v0) fun v5 v6 v7 =>
  if (!v7)=true then
    some ((ByteArray.mk #[]),([] : List Int),false)
  else
    if v5<0 then
      some ((ByteArray.mk #[]),([] : List Int),false)
    else
      if v1<v5 then
        some ((ByteArray.mk #[]),([] : List Int),false)
      else
        if (v6.length : Int)<v5 then
          some ((ByteArray.mk #[]),([] : List Int),false)
        else
          chk ((0 : Int)≤v5∧(v5 : Int)≤(v6.length : Int)) <|
          chk ((0 : Int)≤v5∧(v5 : Int)≤(v6.length : Int)) <|
          some (ofI (v6.take (v5).toNat),v6.drop (v5).toNat,true)
def Aal (k : Nat) (v0 : (List Int)) (v1 : Int) : Option (ByteArray×(List Int)) :=
  AfB (Ac6 k v0 v1) fun v4 v5 v6 =>
  AbI (Abc k v6) fun _ =>
  some (v4,v5)
def AbT.L1 (k : Nat) (v5 : Int) : Nat→Int→(List Int)→(List Int)→Option ((List Int)×(List Int)×Bool)
  | 0,_,_,_=>none
  | n+1,v8,v9,v10 =>
    if v8<v5 then
      AfB (AbQ k v9) fun v11 v12 v13 =>
      chk ((v10.length+([v11] : List Int).length)*8≤140737488355328) <|
      AbT.L1 k v5 n (IntKind.wrap .i64 (v8+1)) v12 (v10++([v11] : List Int))
    else
      some (v10,v9,true)
def AbT (k : Nat) (v0 : (List Int)) (v1 : Int) : Option ((List Int)×(List Int)×Bool) :=
  AfB (AbQ k v0) fun v5 v6 v7 =>
  if (!v7)=true then
    some (([] : List Int),([] : List Int),false)
  else
    if v5<0 then
      some (([] : List Int),([] : List Int),false)
    else
      if v1<v5 then
        some (([] : List Int),([] : List Int),false)
      else
        if IntKind.wrap .i64 (Int.tdiv (v6.length : Int) 8)<v5 then
          some (([] : List Int),([] : List Int),false)
        else
          AbT.L1 k v5 k 0 v6 ([] : List Int)
def AbY (k : Nat) (v0 : (List Int)) (v1 : Int) : Option ((List Int)×(List Int)) :=
  AfB (AbT k v0 v1) fun v4 v5 v6 =>
  AbI (Abc k v6) fun _ =>
  some (v4,v5)
def Aam.L1 (k : Nat) (v3 v5 : Int) (v7 : ByteArray) (v9 v11 v13 v15 v17 : Int) (v19 : (List Int)) (v21 : Int) : Nat→Int→(List Int)→(List AaD)→Option (AaI×(List Int))
  | 0,_,_,_=>none
  | n+1,v24,v25,v26 =>
    if v24<v21 then
      Acy (AaT k v25) fun v27 v28 =>
      Acy (AaT k v28) fun v29 v30 =>
      Acy (Aal k v30 32) fun v31 v32 =>
      chk ((v26.length+([(AaD.mk v27 v29 v31)] : List AaD).length)*32≤140737488355328) <|
      Aam.L1 k v3 v5 v7 v9 v11 v13 v15 v17 v19 v21 n (IntKind.wrap .i64 (v24+1)) v32 (v26++([(AaD.mk v27 v29 v31)] : List AaD))
    else
      Acy (Aal k v25 4096) fun v33 v34 =>
      Acy (AaT k v34) fun v35 v36 =>
      Acy (Aal k v36 32) fun v37 v38 =>
      some ((AaI.mk v3 v5 v7 v9 v11 v13 v15 v17 v19 v26 v33 v35 v37),v38)
def Aam (k : Nat) (v0 : (List Int)) : Option (AaI×(List Int)) :=
  Acy (AaT k v0) fun v3 v4 =>
  Acy (AaT k v4) fun v5 v6 =>
  Acy (Aal k v6 32) fun v7 v8 =>
  Acy (AaT k v8) fun v9 v10 =>
  Acy (AaT k v10) fun v11 v12 =>
  Acy (AaT k v12) fun v13 v14 =>
  Acy (AaT k v14) fun v15 v16 =>
  Acy (AaT k v16) fun v17 v18 =>
  Acy (AbY k v18 64) fun v19 v20 =>
  Acy (AaT k v20) fun v21 v22 =>
  AbI (Abv k v21 0 64) fun v23 =>
  AbI (Abc k v23) fun _ =>
  Aam.L1 k v3 v5 v7 v9 v11 v13 v15 v17 v19 v21 k 0 v22 ([] : List AaD)
def AcC (k : Nat) (v0 : Bool) : Option Unit:=if v0=false then some () else none
def Aaf (k : Nat) (v0 : (List Int)) : Option Unit :=
  AfB (AbQ k v0) fun v1 v2 v3 =>
  pn1 (Abc k v3) (AcC k v3) fun _ =>
  none
def Aa7 (k : Nat) (v0 : (List Int)) (v1 : Int) : Option Unit :=
  AfB (Ac6 k v0 v1) fun v2 v3 v4 =>
  pn1 (Abc k v4) (AcC k v4) fun _ =>
  none
def Abu (k : Nat) (v0 : (List Int)) (v1 : Int) : Option Unit :=
  AfB (AbT k v0 v1) fun v2 v3 v4 =>
  pn1 (Abc k v4) (AcC k v4) fun _ =>
  none
def Aac.L1 (k : Nat) (v19 : Int) : Nat→Int→(List Int)→(List AaD)→Option Unit
  | 0,_,_,_=>none
  | n+1,v22,v23,v24 =>
    if v22<v19 then
      pn2 (AaT k v23) (Aaf k v23) fun v25 v26 =>
      pn2 (AaT k v26) (Aaf k v26) fun v27 v28 =>
      pn2 (Aal k v28 32) (Aa7 k v28 32) fun v29 v30 =>
      chk ((v24.length+([(AaD.mk v25 v27 v29)] : List AaD).length)*32≤140737488355328) <|
      Aac.L1 k v19 n (IntKind.wrap .i64 (v22+1)) v30 (v24++([(AaD.mk v25 v27 v29)] : List AaD))
    else
      pn2 (Aal k v23 4096) (Aa7 k v23 4096) fun v31 v32 =>
      pn2 (AaT k v32) (Aaf k v32) fun v33 v34 =>
      pn2 (Aal k v34 32) (Aa7 k v34 32) fun v35 v36 =>
      none
def Aac (k : Nat) (v0 : (List Int)) : Option Unit :=
  pn2 (AaT k v0) (Aaf k v0) fun v1 v2 =>
  pn2 (AaT k v2) (Aaf k v2) fun v3 v4 =>
  pn2 (Aal k v4 32) (Aa7 k v4 32) fun v5 v6 =>
  pn2 (AaT k v6) (Aaf k v6) fun v7 v8 =>
  pn2 (AaT k v8) (Aaf k v8) fun v9 v10 =>
  pn2 (AaT k v10) (Aaf k v10) fun v11 v12 =>
  pn2 (AaT k v12) (Aaf k v12) fun v13 v14 =>
  pn2 (AaT k v14) (Aaf k v14) fun v15 v16 =>
  pn2 (AbY k v16 64) (Abu k v16 64) fun v17 v18 =>
  pn2 (AaT k v18) (Aaf k v18) fun v19 v20 =>
  AbI (Abv k v19 0 64) fun v21 =>
  pn1 (Abc k v21) (AcC k v21) fun _ =>
  Aac.L1 k v19 k 0 v20 ([] : List AaD)
def Acs (k : Nat) (v0 : (List Int)) : Option (AaI×Int) :=
  match Aam k v0 with
  | some (v,l) =>
    if l.length=0 then
      AbI (AaQ k v.Author v.Number v.Prev v.Time v.Kind v.A v.B v.C v.Lst v.Pins v.Body v.Seal_Key v.Seal_Digest) fun c =>
      if c=0 then
        AbI (Abm k v.Author v.Number v.Prev v.Time v.Kind v.A v.B v.C v.Lst v.Pins v.Body v.Seal_Key v.Seal_Digest) fun b =>
        if b=true then some (v,0) else some ((AaI.mk 0 0 (ByteArray.mk #[]) 0 0 0 0 0 [] [] (ByteArray.mk #[]) 0 (ByteArray.mk #[])),1)
      else some ((AaI.mk 0 0 (ByteArray.mk #[]) 0 0 0 0 0 [] [] (ByteArray.mk #[]) 0 (ByteArray.mk #[])),1)
    else some ((AaI.mk 0 0 (ByteArray.mk #[]) 0 0 0 0 0 [] [] (ByteArray.mk #[]) 0 (ByteArray.mk #[])),1)
  | none=>match Aac k v0 with
    | some _=>some ((AaI.mk 0 0 (ByteArray.mk #[]) 0 0 0 0 0 [] [] (ByteArray.mk #[]) 0 (ByteArray.mk #[])),1)
    | none=>none
def Aa2.L1 (k : Nat) (v0 v1 : (List Int)) : Nat→Int→Option Bool
  | 0,_=>none
  | n+1,v3 =>
    if v3<(v0.length : Int) then
      idx v0 v3 fun v4 =>
      idx v1 v3 fun v5 =>
      if v4≠v5 then
        some false
      else
        Aa2.L1 k v0 v1 n (IntKind.wrap .i64 (v3+1))
    else
      some true
def Aa2 (k : Nat) (v0 v1 : (List Int)) : Option Bool :=
  if (v0.length : Int)≠(v1.length : Int) then
    some false
  else
    Aa2.L1 k v0 v1 k 0
def Aae.L1 (k : Nat) (v0 v1 : (List AaD)) : Nat→Int→Option Bool
  | 0,_=>none
  | n+1,v3 =>
    if v3<(v0.length : Int) then
      idx v0 v3 fun v4 =>
      idx v1 v3 fun v5 =>
      Ano (((v4.Author==v5.Author)&&((v4.Height==v5.Height)&&(Abo v4.Digest v5.Digest)))) fun v6 =>
      if (!v6)=true then
        some false
      else
        Aae.L1 k v0 v1 n (IntKind.wrap .i64 (v3+1))
    else
      some true
def Aae (k : Nat) (v0 v1 : (List AaD)) : Option Bool :=
  if (v0.length : Int)≠(v1.length : Int) then
    some false
  else
    Aae.L1 k v0 v1 k 0
def AcF (k : Nat) (v0 v1 : Int) (v2 : ByteArray) (v3 v4 v5 v6 v7 : Int) (v8 : (List Int)) (v9 : (List AaD)) (v10 : ByteArray) (v11 : Int) (v12 : ByteArray) (v13 v14 : Int) (v15 : ByteArray) (v16 v17 v18 v19 v20 : Int) (v21 : (List Int)) (v22 : (List AaD)) (v23 : ByteArray) (v24 : Int) (v25 : ByteArray) : Option Bool :=
  if v0=v13 then
    if v1=v14 then
      if (Abo v2 v15)=true then
        if v3=v16 then
          if v4=v17 then
            if v5=v18 then
              if v6=v19 then
                if v7=v20 then
                  AbI (Aa2 k v8 v21) fun v27 =>
                  if v27=true then
                    AbI (Aae k v9 v22) fun v28 =>
                    if v28=true then
                      if (Abo v10 v23)=true then
                        Ano (((v11==v24)&&(Abo v12 v25))) fun v29 =>
                        some v29
                      else
                        some false
                    else
                      some false
                  else
                    some false
                else
                  some false
              else
                some false
            else
              some false
          else
            some false
        else
          some false
      else
        some false
    else
      some false
  else
    some false
def AcX (k : Nat) : Option Bool :=
  AbI (Acw k 2 0 (ByteArray.mk #[]) 7 1 5 1 100 ([] : List Int) ([] : List AaD) (ByteArray.mk #[]) 0 (ByteArray.mk #[])) fun v1 =>
  Acy (AcP k v1.Author v1.Number v1.Prev v1.Time v1.Kind v1.A v1.B v1.C v1.Lst v1.Pins v1.Body v1.Seal_Key v1.Seal_Digest) fun v2 v3 =>
  Acy (Acs k v2) fun v4 v5 =>
  if v3=0 then
    if v5=0 then
      AbI (Aby k v1.Author v1.Number v1.Prev v1.Time v1.Kind v1.A v1.B v1.C v1.Lst v1.Pins v1.Body v1.Seal_Key v1.Seal_Digest) fun v6 =>
      if (v6.size : Int)=32 then
        AbI (Abm k v1.Author v1.Number v1.Prev v1.Time v1.Kind v1.A v1.B v1.C v1.Lst v1.Pins v1.Body v1.Seal_Key v1.Seal_Digest) fun v7 =>
        if v7=true then
          AbI (AaQ k v1.Author v1.Number v1.Prev v1.Time v1.Kind v1.A v1.B v1.C v1.Lst v1.Pins v1.Body v1.Seal_Key v1.Seal_Digest) fun v8 =>
          if v8=0 then
            if v4.A=5 then
              AbI (AcF k v4.Author v4.Number v4.Prev v4.Time v4.Kind v4.A v4.B v4.C v4.Lst v4.Pins v4.Body v4.Seal_Key v4.Seal_Digest v1.Author v1.Number v1.Prev v1.Time v1.Kind v1.A v1.B v1.C v1.Lst v1.Pins v1.Body v1.Seal_Key v1.Seal_Digest) fun v9 =>
              if v9=true then
                AbI (AcF k v4.Author v4.Number v4.Prev v4.Time v4.Kind v4.A v4.B v4.C v4.Lst v4.Pins v4.Body v4.Seal_Key v4.Seal_Digest 0 0 (ByteArray.mk #[]) 0 0 0 0 0 ([] : List Int) ([] : List AaD) (ByteArray.mk #[]) 0 (ByteArray.mk #[])) fun v10 =>
                some (!v10)
              else
                some false
            else
              some false
          else
            some false
        else
          some false
      else
        some false
    else
      some false
  else
    some false
def AgM (k : Nat) (v0 : (List Int)) : Option ((List Int)×Int) :=
  some (v0,0)
def Acb.J1 (k : Nat) (v3 : Int) : Option Int :=
  some v3
def Acb (k : Nat) (v0 v1 : Int) : Option Int :=
  if v1<1 then
    some 0
  else
    chk (v1≠(0 : Int)) <|
    if Int.tmod v0 v1<0 then
      Acb.J1 k (IntKind.wrap .i64 (Int.tmod v0 v1+v1))
    else
      Acb.J1 k (Int.tmod v0 v1)
def Aat (k : Nat) (v0 : (List Int)) (v1 v2 : Int) : Option (Int×Int) :=
  if (v0.length : Int)≤v1 then
    some (0,v1)
  else
    idx v0 (IntKind.wrap .i64 (IntKind.wrap .i64 (v1+1)-1)) fun v5 =>
    AbI (Acb k v5 v2) fun v6 =>
    some (v6,IntKind.wrap .i64 (v1+1))
def AbS (k : Nat) (v0 : (List Int)) (v1 : Int) (v2 : (List Int)) : Option (Int×Int) :=
  Acy (Aat k v0 v1 (v2.length : Int)) fun v5 v6 =>
  idx v2 v5 fun v7 =>
  some (v7,v6)
def AdZ (k : Nat) (v0 : (List Int)) (v1 v2 : Int) : Option (Bool×Int) :=
  Acy (Aat k v0 v1 v2) fun v5 v6 =>
  some ((v5==(IntKind.wrap .i64 (v2-1))),v6)
def Abz (k : Nat) (v0 : (List Int)) (v1 : Int) : Option (ByteArray×Int) :=
  chk ((0 : Int)≤32∧16*32≤281474976710656) <|
  Ano (List.replicate 32 0) fun v4 =>
  Acy (Aat k v0 v1 4) fun v5 v6 =>
  Acy (Aat k v0 v6 256) fun v7 v8 =>
  chk ((0 : Int)≤0∧(0 : Int).toNat<v4.length) <|
  chk ((0 : Int)≤31∧(31 : Int).toNat<(v4.set (0 : Int).toNat (IntKind.wrap .u8 v5)).length) <|
  some (ofI ((v4.set (0 : Int).toNat (IntKind.wrap .u8 v5)).set (31 : Int).toNat (IntKind.wrap .u8 v7)),v8)
def AbO.L1 (k : Nat) (v0 : (List Int)) : Nat→Int→Int→(List Int)→Option ((List Int)×Int)
  | 0,_,_,_=>none
  | n+1,v7,v8,v9 =>
    if 0<v7 then
      Acy (AbS k v0 v8 ([0,1,255,7,128,126,32] : List Int)) fun v10 v11 =>
      chk ((v9.length+([IntKind.wrap .u8 v10] : List Int).length)*1≤140737488355328) <|
      AbO.L1 k v0 n (IntKind.wrap .i64 (v7-1)) v11 (v9++([IntKind.wrap .u8 v10] : List Int))
    else
      some (v9,v8)
def AbO (k : Nat) (v0 : (List Int)) (v1 v2 : Int) : Option ((List Int)×Int) :=
  Acy (Aat k v0 v1 (IntKind.wrap .i64 (v2+1))) fun v5 v6 =>
  AbO.L1 k v0 k v5 v6 ([] : List Int)
def AaR.J1 (k : Nat) (v2 v3 v6 v8 v9 v10 : Int) (v11 : (List Int)) (v12 : (List AaD)) (v13 : ByteArray) (v14 : Int) : Option (AaI×Int) :=
  some ((AaI.mk v2 0 (ByteArray.mk #[]) v3 v6 v8 v9 v10 v11 v12 v13 0 (ByteArray.mk #[])),v14)
def AaR.J3 (k : Nat) (v0 : (List Int)) (v2 v3 v6 v24 v26 v28 : Int) (v34 : (List Int)) (v37 : Int) (v38 : (List AaD)) : Option (AaI×Int) :=
  Acy (AbO k v0 v37 5) fun v39 v40 =>
  AaR.J1 k v2 v3 v6 v24 v26 v28 v34 v38 (ofI v39) v40
def AaR.L2 (k : Nat) (v0 : (List Int)) (v2 v3 v6 v24 v26 v28 : Int) : Nat→Int→Int→(List Int)→Option (AaI×Int)
  | 0,_,_,_=>none
  | n+1,v32,v33,v34 =>
    if 0<v32 then
      Acy (AbS k v0 v33 ([0,5,1099511627776] : List Int)) fun v35 v36 =>
      chk ((v34.length+([v35] : List Int).length)*8≤140737488355328) <|
      AaR.L2 k v0 v2 v3 v6 v24 v26 v28 n (IntKind.wrap .i64 (v32-1)) v36 (v34++([v35] : List Int))
    else
      Acy (AdZ k v0 v33 3) fun v41 v42 =>
      if v41=true then
        Acy (Aat k v0 v42 5) fun v43 v44 =>
        Acy (Aat k v0 v44 4) fun v45 v46 =>
        Acy (Abz k v0 v46) fun v47 v48 =>
        AaR.J3 k v0 v2 v3 v6 v24 v26 v28 v34 v48 ([(AaD.mk v43 (IntKind.wrap .i64 (1+v45)) v47)] : List AaD)
      else
        AaR.J3 k v0 v2 v3 v6 v24 v26 v28 v34 v42 ([] : List AaD)
def AaR (k : Nat) (v0 : (List Int)) (v1 v2 v3 : Int) : Option (AaI×Int) :=
  Acy (AbS k v0 v1 ([1,1,1,2,10,31,1,12] : List Int)) fun v6 v7 =>
  if v6=1 then
    Acy (Aat k v0 v7 5) fun v15 v16 =>
    AbI (Acb k (IntKind.wrap .i64 (IntKind.wrap .i64 (v2+1)+v15)) 6) fun v17 =>
    Acy (Aat k v0 v16 3) fun v18 v19 =>
    Acy (AbS k v0 v19 ([50,5,0,200] : List Int)) fun v20 v21 =>
    if v17=v2 then
      AaR.J1 k v2 v3 v6 (IntKind.wrap .i64 (v2+1)) (IntKind.wrap .i64 (1+v18)) (IntKind.wrap .i64 (v3+v20)) ([] : List Int) ([] : List AaD) (ByteArray.mk #[]) v21
    else
      AaR.J1 k v2 v3 v6 v17 (IntKind.wrap .i64 (1+v18)) (IntKind.wrap .i64 (v3+v20)) ([] : List Int) ([] : List AaD) (ByteArray.mk #[]) v21
  else
    if v6=2 then
      Acy (Aat k v0 v7 4) fun v22 v23 =>
      AaR.J1 k v2 v3 v6 v22 0 0 ([] : List Int) ([] : List AaD) (ByteArray.mk #[]) v23
    else
      Acy (Aat k v0 v7 9) fun v24 v25 =>
      Acy (AbS k v0 v25 ([0,1099511627776] : List Int)) fun v26 v27 =>
      Acy (Aat k v0 v27 3) fun v28 v29 =>
      Acy (Aat k v0 v29 3) fun v30 v31 =>
      AaR.L2 k v0 v2 v3 v6 v24 v26 v28 k v30 v31 ([] : List Int)
def Afh (k : Nat) (v0 v1 : Int) (v2 : ByteArray) (v3 v4 v5 v6 v7 : Int) (v8 : (List Int)) (v9 : (List AaD)) (v10 : ByteArray) (v11 : Int) (v12 : ByteArray) : Option AaI :=
  chk (v8.length*8≤140737488355328) <|
  chk (v9.length*32≤140737488355328) <|
  some (AaI.mk v0 v1 v2 v3 v4 v5 v6 v7 v8 v9 v10 v11 v12)
def AbZ.L1 (k : Nat) (v1 : Int) : Nat→Int→(List Int)→Option (List Int)
  | 0,_,_=>none
  | n+1,v3,v4 =>
    if 0≤v3 then
      chk ((0 : Int)≤IntKind.wrap .u64 (IntKind.wrap .i64 (8*v3))) <|
      chk ((v4.length+([IntKind.wrap .u8 (Int.fdiv v1 (2 ^ (min ((IntKind.wrap .u64 (IntKind.wrap .i64 (8*v3))).toNat) 64)))] : List Int).length)*1≤140737488355328) <|
      AbZ.L1 k v1 n (IntKind.wrap .i64 (v3-1)) (v4++([IntKind.wrap .u8 (Int.fdiv v1 (2 ^ (min ((IntKind.wrap .u64 (IntKind.wrap .i64 (8*v3))).toNat) 64)))] : List Int))
    else
      some v4
def AbZ (k : Nat) (v0 : (List Int)) (v1 : Int) : Option (List Int) :=
  chk (v0.length*1≤140737488355328) <|
  AbZ.L1 k v1 k 7 v0
def AdP (k : Nat) (v0 : (List Int)) (v1 : ByteArray) : Option (List Int) :=
  AbI (AbZ k v0 (v1.size : Int)) fun v3 =>
  chk ((v3.length+(bI v1).length)*1≤140737488355328) <|
  some (v3++(bI v1))
def Ab9.L1 (k : Nat) (v1 : (List Int)) : Nat→Int→(List Int)→Option (List Int)
  | 0,_,_=>none
  | n+1,v4,v5 =>
    if v4<(v1.length : Int) then
      idx v1 v4 fun v6 =>
      AbI (AbZ k v5 v6) fun v7 =>
      Ab9.L1 k v1 n (IntKind.wrap .i64 (v4+1)) v7
    else
      some v5
def Ab9 (k : Nat) (v0 v1 : (List Int)) : Option (List Int) :=
  AbI (AbZ k v0 (v1.length : Int)) fun v3 =>
  Ab9.L1 k v1 k 0 v3
def AbF.L2 (k : Nat) (v9 : (List AaD)) (v10 : ByteArray) : Nat→(List Int)→Int→Option (List Int)
  | 0,_,_=>none
  | n+1,v23,v24 =>
    if v24<(v9.length : Int) then
      idx v9 v24 fun v25 =>
      AbI (AbZ k v23 v25.Author) fun v26 =>
      AbI (AbZ k v26 v25.Height) fun v27 =>
      AbI (AdP k v27 v25.Digest) fun v28 =>
      AbF.L2 k v9 v10 n v28 (IntKind.wrap .i64 (v24+1))
    else
      AbI (AdP k v23 v10) fun v29 =>
      some v29
def AbF.L1 (k : Nat) (v3 v4 v5 v6 v7 : Int) (v8 : (List Int)) (v9 : (List AaD)) (v10 : ByteArray) : Nat→(List Int)→Int→Option (List Int)
  | 0,_,_=>none
  | n+1,v17,v18 =>
    if v18<(([v3,v4,v5,v6,v7] : List Int).length : Int) then
      idx ([v3,v4,v5,v6,v7] : List Int) v18 fun v19 =>
      AbI (AbZ k v17 v19) fun v20 =>
      AbF.L1 k v3 v4 v5 v6 v7 v8 v9 v10 n v20 (IntKind.wrap .i64 (v18+1))
    else
      AbI (Ab9 k v17 v8) fun v21 =>
      AbI (AbZ k v21 (v9.length : Int)) fun v22 =>
      AbF.L2 k v9 v10 k v22 0
def AbF (k : Nat) (v0 v1 : Int) (v2 : ByteArray) (v3 v4 v5 v6 v7 : Int) (v8 : (List Int)) (v9 : (List AaD)) (v10 : ByteArray) (v11 : Int) (v12 : ByteArray) : Option (List Int) :=
  AbI (AbZ k ([] : List Int) v0) fun v14 =>
  AbI (AbZ k v14 v1) fun v15 =>
  AbI (AdP k v15 v2) fun v16 =>
  AbF.L1 k v3 v4 v5 v6 v7 v8 v9 v10 k v16 0
def Ac3 (k : Nat) : Option (List Int) :=
  some ([1116352408,1899447441,3049323471,3921009573,961987163,1508970993,2453635748,2870763221,3624381080,310598401,607225278,1426881987,1925078388,2162078206,2614888103,3248222580,3835390401,4022224774,264347078,604807628,770255983,1249150122,1555081692,1996064986,2554220882,2821834349,2952996808,3210313671,3336571891,3584528711,113926993,338241895,666307205,773529912,1294757372,1396182291,1695183700,1986661051,2177026350,2456956037,2730485921,2820302411,3259730800,3345764771,3516065817,3600352804,4094571909,275423344,430227734,506948616,659060556,883997877,958139571,1322822218,1537002063,1747873779,1955562222,2024104815,2227730452,2361852424,2428436474,2756734187,3204031479,3329325298] : List Int)
def Aa5 (k : Nat) (v0 v1 : Int) : Option Int :=
  chk ((0 : Int)≤v1) <|
  chk ((0 : Int)≤IntKind.wrap .u64 (32-v1)) <|
  some (AaK .or .u32 (Int.fdiv v0 (2 ^ (min v1.toNat 32))) (IntKind.wrap .u32 (v0*2 ^ (min ((IntKind.wrap .u64 (32-v1)).toNat) 32))))
def Aad.L4 (k : Nat) (v0 : (List Int)) : Nat→Int→(List Int)→Option (List Int)
  | 0,_,_=>none
  | n+1,v39,v40 =>
    if v39<8 then
      chk ((0 : Int)≤v39∧(v39).toNat<v40.length) <|
      idx v40 v39 fun v41 =>
      idx v0 v39 fun v42 =>
      chk ((0 : Int)≤v39∧(v39).toNat<v40.length) <|
      Aad.L4 k v0 n (IntKind.wrap .i64 (v39+1)) (v40.set (v39).toNat (IntKind.wrap .u32 (v41+v42)))
    else
      some v40
def Aad.L3 (k : Nat) (v0 v2 v12 : (List Int)) : Nat→Int→(List Int)→Option (List Int)
  | 0,_,_=>none
  | n+1,v21,v22 =>
    if v21<64 then
      idx v22 4 fun v23 =>
      AbI (Aa5 k v23 6) fun v24 =>
      AbI (Aa5 k v23 11) fun v25 =>
      AbI (Aa5 k v23 25) fun v26 =>
      idx v22 5 fun v27 =>
      idx v22 6 fun v28 =>
      idx v22 7 fun v29 =>
      idx v2 v21 fun v30 =>
      idx v12 v21 fun v31 =>
      idx v22 0 fun v32 =>
      AbI (Aa5 k v32 2) fun v33 =>
      AbI (Aa5 k v32 13) fun v34 =>
      AbI (Aa5 k v32 22) fun v35 =>
      idx v22 1 fun v36 =>
      idx v22 2 fun v37 =>
      idx v22 3 fun v38 =>
      Aad.L3 k v0 v2 v12 n (IntKind.wrap .i64 (v21+1)) ([IntKind.wrap .u32 (IntKind.wrap .u32 (IntKind.wrap .u32 (IntKind.wrap .u32 (IntKind.wrap .u32 (IntKind.wrap .u32 (v29+AaK .xor .u32 (AaK .xor .u32 v24 v25) v26)+AaK .xor .u32 (AaK .and .u32 v23 v27) (AaK .and .u32 (AaK .xor .u32 (IntKind.max .u32) v23) v28))+v30)+v31)+AaK .xor .u32 (AaK .xor .u32 v33 v34) v35)+AaK .xor .u32 (AaK .xor .u32 (AaK .and .u32 v32 v36) (AaK .and .u32 v32 v37)) (AaK .and .u32 v36 v37)),v32,v36,v37,IntKind.wrap .u32 (v38+IntKind.wrap .u32 (IntKind.wrap .u32 (IntKind.wrap .u32 (IntKind.wrap .u32 (v29+AaK .xor .u32 (AaK .xor .u32 v24 v25) v26)+AaK .xor .u32 (AaK .and .u32 v23 v27) (AaK .and .u32 (AaK .xor .u32 (IntKind.max .u32) v23) v28))+v30)+v31)),v23,v27,v28] : List Int)
    else
      Aad.L4 k v0 k 0 v22
def Aad.L2 (k : Nat) (v0 v2 : (List Int)) : Nat→Int→(List Int)→Option (List Int)
  | 0,_,_=>none
  | n+1,v11,v12 =>
    if v11<64 then
      chk ((0 : Int)≤(IntKind.wrap .i64 (v11-15))∧(IntKind.wrap .i64 (v11-15)).toNat<v12.length) <|
      idx v12 (IntKind.wrap .i64 (v11-15)) fun v13 =>
      AbI (Aa5 k v13 7) fun v14 =>
      chk ((0 : Int)≤(IntKind.wrap .i64 (v11-15))∧(IntKind.wrap .i64 (v11-15)).toNat<v12.length) <|
      AbI (Aa5 k v13 18) fun v15 =>
      chk ((0 : Int)≤(IntKind.wrap .i64 (v11-15))∧(IntKind.wrap .i64 (v11-15)).toNat<v12.length) <|
      chk ((0 : Int)≤(IntKind.wrap .i64 (v11-2))∧(IntKind.wrap .i64 (v11-2)).toNat<v12.length) <|
      idx v12 (IntKind.wrap .i64 (v11-2)) fun v16 =>
      AbI (Aa5 k v16 17) fun v17 =>
      chk ((0 : Int)≤(IntKind.wrap .i64 (v11-2))∧(IntKind.wrap .i64 (v11-2)).toNat<v12.length) <|
      AbI (Aa5 k v16 19) fun v18 =>
      chk ((0 : Int)≤(IntKind.wrap .i64 (v11-2))∧(IntKind.wrap .i64 (v11-2)).toNat<v12.length) <|
      chk ((0 : Int)≤(IntKind.wrap .i64 (v11-16))∧(IntKind.wrap .i64 (v11-16)).toNat<v12.length) <|
      idx v12 (IntKind.wrap .i64 (v11-16)) fun v19 =>
      chk ((0 : Int)≤(IntKind.wrap .i64 (v11-7))∧(IntKind.wrap .i64 (v11-7)).toNat<v12.length) <|
      idx v12 (IntKind.wrap .i64 (v11-7)) fun v20 =>
      chk ((0 : Int)≤v11∧(v11).toNat<v12.length) <|
      Aad.L2 k v0 v2 n (IntKind.wrap .i64 (v11+1)) (v12.set (v11).toNat (IntKind.wrap .u32 (IntKind.wrap .u32 (IntKind.wrap .u32 (v19+AaK .xor .u32 (AaK .xor .u32 v14 v15) (Int.fdiv v13 (2 ^ (3))))+v20)+AaK .xor .u32 (AaK .xor .u32 v17 v18) (Int.fdiv v16 (2 ^ (10))))))
    else
      chk (v0.length*4≤140737488355328) <|
      Aad.L3 k v0 v2 v12 k 0 v0
def Aad.L1 (k : Nat) (v0 v1 v2 : (List Int)) : Nat→Int→(List Int)→Option (List Int)
  | 0,_,_=>none
  | n+1,v5,v6 =>
    if v5<16 then
      idx v1 (IntKind.wrap .i64 (4*v5)) fun v7 =>
      idx v1 (IntKind.wrap .i64 (IntKind.wrap .i64 (4*v5)+1)) fun v8 =>
      idx v1 (IntKind.wrap .i64 (IntKind.wrap .i64 (4*v5)+2)) fun v9 =>
      idx v1 (IntKind.wrap .i64 (IntKind.wrap .i64 (4*v5)+3)) fun v10 =>
      chk ((0 : Int)≤v5∧(v5).toNat<v6.length) <|
      Aad.L1 k v0 v1 v2 n (IntKind.wrap .i64 (v5+1)) (v6.set (v5).toNat (AaK .or .u32 (AaK .or .u32 (AaK .or .u32 (IntKind.wrap .u32 ((IntKind.wrap .u32 v7)*2 ^ (24))) (IntKind.wrap .u32 ((IntKind.wrap .u32 v8)*2 ^ (16)))) (IntKind.wrap .u32 ((IntKind.wrap .u32 v9)*2 ^ (8)))) (IntKind.wrap .u32 v10)))
    else
      Aad.L2 k v0 v2 k 16 v6
def Aad (k : Nat) (v0 v1 v2 : (List Int)) : Option (List Int) :=
  chk ((0 : Int)≤64∧16*64≤281474976710656) <|
  Ano (List.replicate 64 0) fun v4 =>
  Aad.L1 k v0 v1 v2 k 0 v4
def Aa0.L4 (k : Nat) (v6 : (List Int)) : Nat→Int→(List Int)→Option ByteArray
  | 0,_,_=>none
  | n+1,v9,v10 =>
    if v9<8 then
      idx v6 v9 fun v11 =>
      chk ((v10.length+([IntKind.wrap .u8 (Int.fdiv v11 (2 ^ (24))),IntKind.wrap .u8 (Int.fdiv v11 (2 ^ (16))),IntKind.wrap .u8 (Int.fdiv v11 (2 ^ (8))),IntKind.wrap .u8 v11] : List Int).length)*1≤140737488355328) <|
      Aa0.L4 k v6 n (IntKind.wrap .i64 (v9+1)) (v10++([IntKind.wrap .u8 (Int.fdiv v11 (2 ^ (24))),IntKind.wrap .u8 (Int.fdiv v11 (2 ^ (16))),IntKind.wrap .u8 (Int.fdiv v11 (2 ^ (8))),IntKind.wrap .u8 v11] : List Int))
    else
      some (ofI v10)
def Aa0.L3 (k : Nat) (v4 v5 : (List Int)) : Nat→(List Int)→Int→Option ByteArray
  | 0,_,_=>none
  | n+1,v6,v7 =>
    if v7<(v4.length : Int) then
      chk ((0 : Int)≤v7∧(v7 : Int)≤IntKind.wrap .i64 (v7+64)∧(IntKind.wrap .i64 (v7+64) : Int)≤(v4.length : Int)) <|
      AbI (Aad k v6 ((v4.take (IntKind.wrap .i64 (v7+64)).toNat).drop (v7).toNat) v5) fun v8 =>
      Aa0.L3 k v4 v5 n v8 (IntKind.wrap .i64 (v7+64))
    else
      Aa0.L4 k v6 k 0 ([] : List Int)
def Aa0.L2 (k : Nat) (v0 : (List Int)) : Nat→Int→(List Int)→Option ByteArray
  | 0,_,_=>none
  | n+1,v3,v4 =>
    if 0≤v3 then
      chk ((0 : Int)≤IntKind.wrap .u64 (IntKind.wrap .i64 (8*v3))) <|
      chk ((v4.length+([IntKind.wrap .u8 (Int.fdiv (IntKind.wrap .u64 (IntKind.wrap .u64 (v0.length : Int)*8)) (2 ^ (min ((IntKind.wrap .u64 (IntKind.wrap .i64 (8*v3))).toNat) 64)))] : List Int).length)*1≤140737488355328) <|
      Aa0.L2 k v0 n (IntKind.wrap .i64 (v3-1)) (v4++([IntKind.wrap .u8 (Int.fdiv (IntKind.wrap .u64 (IntKind.wrap .u64 (v0.length : Int)*8)) (2 ^ (min ((IntKind.wrap .u64 (IntKind.wrap .i64 (8*v3))).toNat) 64)))] : List Int))
    else
      AbI (Ac3 k) fun v5 =>
      Aa0.L3 k v4 v5 k ([1779033703,3144134277,1013904242,2773480762,1359893119,2600822924,528734635,1541459225] : List Int) 0
def Aa0.L1 (k : Nat) (v0 : (List Int)) : Nat→(List Int)→Option ByteArray
  | 0,_=>none
  | n+1,v2 =>
    if (Int.tmod (v2.length : Int) 64)≠56 then
      chk ((v2.length+([0] : List Int).length)*1≤140737488355328) <|
      Aa0.L1 k v0 n (v2++([0] : List Int))
    else
      Aa0.L2 k v0 k 7 v2
def Aa0 (k : Nat) (v0 : (List Int)) : Option ByteArray :=
  chk (v0.length*1≤140737488355328) <|
  chk ((v0.length+([128] : List Int).length)*1≤140737488355328) <|
  Aa0.L1 k v0 k (v0++([128] : List Int))
def Acl (k : Nat) (v0 v1 : Int) (v2 : ByteArray) (v3 v4 v5 v6 v7 : Int) (v8 : (List Int)) (v9 : (List AaD)) (v10 : ByteArray) (v11 : Int) (v12 : ByteArray) : Option ByteArray :=
  AbI (AbF k v0 v1 v2 v3 v4 v5 v6 v7 v8 v9 v10 v11 v12) fun v14 =>
  AbI (Aa0 k v14) fun v15 =>
  some v15
def Aes (k : Nat) (v0 v1 : Int) (v2 : ByteArray) (v3 v4 v5 v6 v7 : Int) (v8 : (List Int)) (v9 : (List AaD)) (v10 : ByteArray) (v11 : Int) (v12 : ByteArray) : Option AaI :=
  AbI (Afh k v0 v1 v2 v3 v4 v5 v6 v7 v8 v9 v10 v11 v12) fun v14 =>
  AbI (Acl k v14.Author v14.Number v14.Prev v14.Time v14.Kind v14.A v14.B v14.C v14.Lst v14.Pins v14.Body v14.Seal_Key v14.Seal_Digest) fun v15 =>
  some (AaI.mk v14.Author v14.Number v14.Prev v14.Time v14.Kind v14.A v14.B v14.C v14.Lst v14.Pins v14.Body v14.Author v15)
def Acm (k : Nat) (v0 v1 : Int) (v2 : ByteArray) (v3 v4 v5 v6 v7 : Int) (v8 : (List Int)) (v9 : (List AaD)) (v10 : ByteArray) (v11 : Int) (v12 : ByteArray) : Option AaI :=
  chk (v8.length*8≤140737488355328) <|
  chk (v9.length*32≤140737488355328) <|
  some (AaI.mk v0 v1 v2 v3 v4 v5 v6 v7 v8 v9 v10 v11 v12)
def Acj (k : Nat) (v0 v1 : Int) (v2 : ByteArray) (v3 v4 v5 v6 v7 : Int) (v8 : (List Int)) (v9 : (List AaD)) (v10 : ByteArray) (v11 : Int) (v12 : ByteArray) : Option AaI :=
  AbI (Acm k v0 v1 v2 v3 v4 v5 v6 v7 v8 v9 v10 v11 v12) fun v14 =>
  AbI (Acl k v14.Author v14.Number v14.Prev v14.Time v14.Kind v14.A v14.B v14.C v14.Lst v14.Pins v14.Body v14.Seal_Key v14.Seal_Digest) fun v15 =>
  some (AaI.mk v14.Author v14.Number v14.Prev v14.Time v14.Kind v14.A v14.B v14.C v14.Lst v14.Pins v14.Body v14.Author v15)
def AeH (k : Nat) (v0 : Int) : Option Bool :=
  if 0≤v0 then
    some (decide (v0<64))
  else
    some false
def AdY (k : Nat) (v0 v1 : Int) : Option Bool :=
  if 0≤v0 then
    some (decide (v0≤v1))
  else
    some false
def AbV.L1 (k : Nat) (v0 v3 v4 v5 v6 v7 : Int) (v8 : (List Int)) : Nat→Int→Option Bool
  | 0,_=>none
  | n+1,v18 =>
    if v18<(v8.length : Int) then
      idx v8 v18 fun v19 =>
      AbI (AdY k v19 1099511627776) fun v20 =>
      if (!v20)=true then
        some false
      else
        AbV.L1 k v0 v3 v4 v5 v6 v7 v8 n (IntKind.wrap .i64 (v18+1))
    else
      if v4=1 then
        AbI (AeH k v5) fun v21 =>
        if v21=true then
          if v5≠v0 then
            if 1≤v6 then
              if v6≤3 then
                if v3≤v7 then
                  some (decide (v7≤2147483648))
                else
                  some false
              else
                some false
            else
              some false
          else
            some false
        else
          some false
      else
        if v4=2 then
          AbI (AdY k v5 199) fun v22 =>
          if v22=true then
            if v6=0 then
              some (v7==0)
            else
              some false
          else
            some false
        else
          if v4=3 then
            if v5=0 then
              if v6=0 then
                some (v7==0)
              else
                some false
            else
              some false
          else
            some true
def AbV (k : Nat) (v0 v1 : Int) (v2 : ByteArray) (v3 v4 v5 v6 v7 : Int) (v8 : (List Int)) (v9 : (List AaD)) (v10 : ByteArray) (v11 : Int) (v12 : ByteArray) : Option Bool :=
  AbI (AdY k v1 199) fun v14 =>
  if (!v14)=true then
    some false
  else
    AbI (AdY k v5 1099511627776) fun v15 =>
    if (!v15)=true then
      some false
    else
      AbI (AdY k v6 1099511627776) fun v16 =>
      if (!v16)=true then
        some false
      else
        AbI (AdY k v7 1099511627776) fun v17 =>
        if (!v17)=true then
          some false
        else
          AbV.L1 k v0 v3 v4 v5 v6 v7 v8 k 0
def Aag.J2 (k : Nat) (v2 : Int) (kb1 : Int→Option Bool) (v4 : Bool) : Option Bool :=
  if v4=true then
    some false
  else
    kb1 (IntKind.wrap .i64 (v2+1))
def Aag.L1 (k : Nat) (v0 : (List AaD)) : Nat→Int→Option Bool
  | 0,_=>none
  | n+1,v2 =>
    if v2<(v0.length : Int) then
      idx v0 v2 fun v3 =>
      AbI (AeH k v3.Author) fun v5 =>
      if (!v5)=true then
        Aag.J2 k v2 (fun v2_=>Aag.L1 k v0 n v2_) true
      else
        if 0<v2 then
          idx v0 (IntKind.wrap .i64 (v2-1)) fun v6 =>
          if v3.Author≤v6.Author then
            Aag.J2 k v2 (fun v2_=>Aag.L1 k v0 n v2_) true
          else
            if v3.Height<1 then
              Aag.J2 k v2 (fun v2_=>Aag.L1 k v0 n v2_) true
            else
              if 200<v3.Height then
                Aag.J2 k v2 (fun v2_=>Aag.L1 k v0 n v2_) true
              else
                Aag.J2 k v2 (fun v2_=>Aag.L1 k v0 n v2_) ((v3.Digest.size : Int) !=32)
        else
          if v3.Height<1 then
            Aag.J2 k v2 (fun v2_=>Aag.L1 k v0 n v2_) true
          else
            if 200<v3.Height then
              Aag.J2 k v2 (fun v2_=>Aag.L1 k v0 n v2_) true
            else
              Aag.J2 k v2 (fun v2_=>Aag.L1 k v0 n v2_) ((v3.Digest.size : Int) !=32)
    else
      some true
def Aag (k : Nat) (v0 : (List AaD)) : Option Bool :=
  Aag.L1 k v0 k 0
def Aav.J1 (k : Nat) : Option Int :=
  some 0
def Aav.J3 (k : Nat) (v4 : Int) (v8 : (List Int)) (v9 : (List AaD)) (v10 : ByteArray) (v18 : Bool) : Option Int :=
  if v18=true then
    some 1
  else
    if v4≤3 then
      if 0<(v8.length : Int) then
        some 1
      else
        if 0<(v9.length : Int) then
          some 1
        else
          if (!Abo v10 (ByteArray.mk #[]))=true then
            some 1
          else
            Aav.J1 k
    else
      Aav.J1 k
def Aav.J2 (k : Nat) (v0 v1 : Int) (v2 : ByteArray) (v3 v4 v5 v6 v7 : Int) (v8 : (List Int)) (v9 : (List AaD)) (v10 : ByteArray) (v11 : Int) (v12 : ByteArray) (v15 : Bool) : Option Int :=
  if v15=true then
    some 5
  else
    AbI (AdY k v3 2147483648) fun v16 =>
    if (!v16)=true then
      some 9
    else
      AbI (AbV k v0 v1 v2 v3 v4 v5 v6 v7 v8 v9 v10 v11 v12) fun v17 =>
      if (!v17)=true then
        some 2
      else
        if 64<(v8.length : Int) then
          some 3
        else
          if 64<(v9.length : Int) then
            some 3
          else
            if 4096<(v10.size : Int) then
              some 3
            else
              if v1=0 then
                if (!Abo v2 (ByteArray.mk #[]))=true then
                  Aav.J3 k v4 v8 v9 v10 true
                else
                  if 0<v1 then
                    none
                  else
                    AbI (Aag k v9) fun v19 =>
                    Aav.J3 k v4 v8 v9 v10 (!v19)
              else
                if 0<v1 then
                  if (v2.size : Int)≠32 then
                    Aav.J3 k v4 v8 v9 v10 true
                  else
                    AbI (Aag k v9) fun v20 =>
                    Aav.J3 k v4 v8 v9 v10 (!v20)
                else
                  AbI (Aag k v9) fun v21 =>
                  Aav.J3 k v4 v8 v9 v10 (!v21)
def Aav (k : Nat) (v0 v1 : Int) (v2 : ByteArray) (v3 v4 v5 v6 v7 : Int) (v8 : (List Int)) (v9 : (List AaD)) (v10 : ByteArray) (v11 : Int) (v12 : ByteArray) : Option Int :=
  AbI (AeH k v0) fun v14 =>
  if (!v14)=true then
    some 4
  else
    if v4<1 then
      Aav.J2 k v0 v1 v2 v3 v4 v5 v6 v7 v8 v9 v10 v11 v12 true
    else
      if 3<v4 then
        if v4<10 then
          Aav.J2 k v0 v1 v2 v3 v4 v5 v6 v7 v8 v9 v10 v11 v12 true
        else
          Aav.J2 k v0 v1 v2 v3 v4 v5 v6 v7 v8 v9 v10 v11 v12 (decide (31<v4))
      else
        Aav.J2 k v0 v1 v2 v3 v4 v5 v6 v7 v8 v9 v10 v11 v12 (decide (31<v4))
def Aci (k : Nat) (v0 v1 : Int) (v2 : ByteArray) (v3 v4 v5 v6 v7 : Int) (v8 : (List Int)) (v9 : (List AaD)) (v10 : ByteArray) (v11 : Int) (v12 : ByteArray) : Option Bool :=
  if v11=v0 then
    AbI (Acl k v0 v1 v2 v3 v4 v5 v6 v7 v8 v9 v10 v11 v12) fun v14 =>
    some (Abo v12 v14)
  else
    some false
def Ack (k : Nat) (v0 v1 : Int) (v2 : ByteArray) (v3 v4 v5 v6 v7 : Int) (v8 : (List Int)) (v9 : (List AaD)) (v10 : ByteArray) (v11 : Int) (v12 : ByteArray) : Option ((List Int)×Int) :=
  AbI (Aav k v0 v1 v2 v3 v4 v5 v6 v7 v8 v9 v10 v11 v12) fun v15 =>
  if v15≠0 then
    some (([] : List Int),v15)
  else
    AbI (Aci k v0 v1 v2 v3 v4 v5 v6 v7 v8 v9 v10 v11 v12) fun v16 =>
    if (!v16)=true then
      some (([] : List Int),6)
    else
      AbI (AbF k v0 v1 v2 v3 v4 v5 v6 v7 v8 v9 v10 v11 v12) fun v17 =>
      AbI (AbZ k v17 v11) fun v18 =>
      AbI (AdP k v18 v12) fun v19 =>
      some (v19,0)
def AeE (k : Nat) (v0 : (List Int)) : Option (List Int) :=
  chk (v0.length*1≤140737488355328) <|
  some v0
def AbN.L1 (k : Nat) (v0 : (List Int)) : Nat→Int→Int→Option (Int×(List Int)×Bool)
  | 0,_,_=>none
  | n+1,v4,v5 =>
    if v5<8 then
      idx v0 v5 fun v6 =>
      AbN.L1 k v0 n (AaK .or .u64 (IntKind.wrap .u64 (v4*2 ^ (8))) (IntKind.wrap .u64 v6)) (IntKind.wrap .i64 (v5+1))
    else
      chk ((8 : Int)≤(v0.length : Int)) <|
      AbI (AeE k (v0.drop (8 : Int).toNat)) fun v7 =>
      some (IntKind.wrap .i64 v4,v7,true)
def AbN (k : Nat) (v0 : (List Int)) : Option (Int×(List Int)×Bool) :=
  if (v0.length : Int)<8 then
    some (0,([] : List Int),false)
  else
    AbN.L1 k v0 k 0 0
def Aa1 (k : Nat) (v0 : (List Int)) (v1 : Bool) : Option (Int×(List Int)×Bool) :=
  AfB (AbN k v0) fun v5 v6 v7 =>
  if v1=true then
    some (v5,v6,v7)
  else
    some (v5,v6,false)
def AdG (k : Nat) (v0 : (List Int)) (v1 : Int) : Option (ByteArray×(List Int)×Bool) :=
  AfB (AbN k v0) fun v5 v6 v7 =>
  if (!v7)=true then
    some ((ByteArray.mk #[]),([] : List Int),false)
  else
    if v5<0 then
      some ((ByteArray.mk #[]),([] : List Int),false)
    else
      if v1<v5 then
        some ((ByteArray.mk #[]),([] : List Int),false)
      else
        if (v6.length : Int)<v5 then
          some ((ByteArray.mk #[]),([] : List Int),false)
        else
          chk ((0 : Int)≤v5∧(v5 : Int)≤(v6.length : Int)) <|
          chk ((0 : Int)≤v5∧(v5 : Int)≤(v6.length : Int)) <|
          AbI (AeE k (v6.drop (v5).toNat)) fun v8 =>
          some (ofI (v6.take (v5).toNat),v8,true)
def AbL (k : Nat) (v0 : (List Int)) (v1 : Bool) (v2 : Int) : Option (ByteArray×(List Int)×Bool) :=
  AfB (AdG k v0 v2) fun v6 v7 v8 =>
  if v1=true then
    some (v6,v7,v8)
  else
    some (v6,v7,false)
def AbJ.L1 (k : Nat) (v5 : Int) : Nat→Int→(List Int)→(List Int)→Option ((List Int)×(List Int)×Bool)
  | 0,_,_,_=>none
  | n+1,v8,v9,v10 =>
    if v8<v5 then
      AfB (AbN k v9) fun v11 v12 v13 =>
      chk ((v10.length+([v11] : List Int).length)*8≤140737488355328) <|
      AbJ.L1 k v5 n (IntKind.wrap .i64 (v8+1)) v12 (v10++([v11] : List Int))
    else
      some (v10,v9,true)
def AbJ (k : Nat) (v0 : (List Int)) (v1 : Int) : Option ((List Int)×(List Int)×Bool) :=
  AfB (AbN k v0) fun v5 v6 v7 =>
  if (!v7)=true then
    some (([] : List Int),([] : List Int),false)
  else
    if v5<0 then
      some (([] : List Int),([] : List Int),false)
    else
      if v1<v5 then
        some (([] : List Int),([] : List Int),false)
      else
        if IntKind.wrap .i64 (Int.tdiv (v6.length : Int) 8)<v5 then
          some (([] : List Int),([] : List Int),false)
        else
          AbJ.L1 k v5 k 0 v6 ([] : List Int)
def Aab.J2 (k : Nat) (v0 : (List Int)) (v3 v6 : Int) (v9 : ByteArray) (v12 v15 v18 v21 v24 : Int) (v27 v31 : (List Int)) (v32 : Bool) (v33 : (List AaD)) : Option (AaI×Int) :=
  AfB (AbL k v31 v32 4096) fun v34 v35 v36 =>
  AfB (Aa1 k v35 v36) fun v37 v38 v39 =>
  AfB (AbL k v38 v39 32) fun v40 v41 v42 =>
  if (!v42)=true then
    some ((AaI.mk 0 0 (ByteArray.mk #[]) 0 0 0 0 0 ([] : List Int) ([] : List AaD) (ByteArray.mk #[]) 0 (ByteArray.mk #[])),1)
  else
    if 0<(v41.length : Int) then
      some ((AaI.mk 0 0 (ByteArray.mk #[]) 0 0 0 0 0 ([] : List Int) ([] : List AaD) (ByteArray.mk #[]) 0 (ByteArray.mk #[])),1)
    else
      AbI (Aav k v3 v6 v9 v12 v15 v18 v21 v24 v27 v33 v34 v37 v40) fun v43 =>
      if v43≠0 then
        some ((AaI.mk 0 0 (ByteArray.mk #[]) 0 0 0 0 0 ([] : List Int) ([] : List AaD) (ByteArray.mk #[]) 0 (ByteArray.mk #[])),1)
      else
        AbI (Aci k v3 v6 v9 v12 v15 v18 v21 v24 v27 v33 v34 v37 v40) fun v44 =>
        if (!v44)=true then
          some ((AaI.mk 0 0 (ByteArray.mk #[]) 0 0 0 0 0 ([] : List Int) ([] : List AaD) (ByteArray.mk #[]) 0 (ByteArray.mk #[])),1)
        else
          Acy (Ack k v3 v6 v9 v12 v15 v18 v21 v24 v27 v33 v34 v37 v40) fun v45 v46 =>
          if (!Abo (ofI v45) (ofI v0))=true then
            some ((AaI.mk 0 0 (ByteArray.mk #[]) 0 0 0 0 0 ([] : List Int) ([] : List AaD) (ByteArray.mk #[]) 0 (ByteArray.mk #[])),1)
          else
            some ((AaI.mk v3 v6 v9 v12 v15 v18 v21 v24 v27 v33 v34 v37 v40),0)
def Aab.L3 (k : Nat) (v0 : (List Int)) (v3 v6 : Int) (v9 : ByteArray) (v12 v15 v18 v21 v24 : Int) (v27 : (List Int)) : Nat→Int→(List Int)→Bool→(List AaD)→Option (AaI×Int)
  | 0,_,_,_,_=>none
  | n+1,v50,v51,v52,v53 =>
    if 0<v50 then
      if v52=true then
        if 64≤(v53.length : Int) then
          some ((AaI.mk 0 0 (ByteArray.mk #[]) 0 0 0 0 0 ([] : List Int) ([] : List AaD) (ByteArray.mk #[]) 0 (ByteArray.mk #[])),1)
        else
          AfB (Aa1 k v51 v52) fun v54 v55 v56 =>
          AfB (Aa1 k v55 v56) fun v57 v58 v59 =>
          AfB (AbL k v58 v59 32) fun v60 v61 v62 =>
          chk ((v53.length+([(AaD.mk v54 v57 v60)] : List AaD).length)*32≤140737488355328) <|
          Aab.L3 k v0 v3 v6 v9 v12 v15 v18 v21 v24 v27 n (IntKind.wrap .i64 (v50-1)) v61 v62 (v53++([(AaD.mk v54 v57 v60)] : List AaD))
      else
        Aab.J2 k v0 v3 v6 v9 v12 v15 v18 v21 v24 v27 v51 v52 v53
    else
      Aab.J2 k v0 v3 v6 v9 v12 v15 v18 v21 v24 v27 v51 v52 v53
def Aab.J1 (k : Nat) (v0 : (List Int)) (v3 v6 : Int) (v9 : ByteArray) (v12 v15 v18 v21 v24 : Int) (v27 v28 : (List Int)) (v30 : Bool) : Option (AaI×Int) :=
  AfB (Aa1 k v28 v30) fun v47 v48 v49 =>
  Aab.L3 k v0 v3 v6 v9 v12 v15 v18 v21 v24 v27 k v47 v48 v49 ([] : List AaD)
def Aab (k : Nat) (v0 : (List Int)) : Option (AaI×Int) :=
  AfB (Aa1 k v0 true) fun v3 v4 v5 =>
  AfB (Aa1 k v4 v5) fun v6 v7 v8 =>
  AfB (AbL k v7 v8 32) fun v9 v10 v11 =>
  AfB (Aa1 k v10 v11) fun v12 v13 v14 =>
  AfB (Aa1 k v13 v14) fun v15 v16 v17 =>
  AfB (Aa1 k v16 v17) fun v18 v19 v20 =>
  AfB (Aa1 k v19 v20) fun v21 v22 v23 =>
  AfB (Aa1 k v22 v23) fun v24 v25 v26 =>
  AfB (AbJ k v25 64) fun v27 v28 v29 =>
  if v26=true then
    Aab.J1 k v0 v3 v6 v9 v12 v15 v18 v21 v24 v27 v28 v29
  else
    Aab.J1 k v0 v3 v6 v9 v12 v15 v18 v21 v24 v27 v28 false
def AbD.L1 (k : Nat) (v0 v1 : (List Int)) : Nat→Int→Option Bool
  | 0,_=>none
  | n+1,v3 =>
    if v3<(v0.length : Int) then
      idx v0 v3 fun v4 =>
      idx v1 v3 fun v5 =>
      if v4≠v5 then
        some false
      else
        AbD.L1 k v0 v1 n (IntKind.wrap .i64 (v3+1))
    else
      some true
def AbD (k : Nat) (v0 v1 : (List Int)) : Option Bool :=
  if (v0.length : Int)≠(v1.length : Int) then
    some false
  else
    AbD.L1 k v0 v1 k 0
def AbC.L1 (k : Nat) (v0 v1 : (List AaD)) : Nat→Int→Option Bool
  | 0,_=>none
  | n+1,v3 =>
    if v3<(v0.length : Int) then
      idx v0 v3 fun v4 =>
      idx v1 v3 fun v5 =>
      Ano (((v4.Author==v5.Author)&&((v4.Height==v5.Height)&&(Abo v4.Digest v5.Digest)))) fun v6 =>
      if (!v6)=true then
        some false
      else
        AbC.L1 k v0 v1 n (IntKind.wrap .i64 (v3+1))
    else
      some true
def AbC (k : Nat) (v0 v1 : (List AaD)) : Option Bool :=
  if (v0.length : Int)≠(v1.length : Int) then
    some false
  else
    AbC.L1 k v0 v1 k 0
def Acf (k : Nat) (v0 v1 : Int) (v2 : ByteArray) (v3 v4 v5 v6 v7 : Int) (v8 : (List Int)) (v9 : (List AaD)) (v10 : ByteArray) (v11 : Int) (v12 : ByteArray) (v13 v14 : Int) (v15 : ByteArray) (v16 v17 v18 v19 v20 : Int) (v21 : (List Int)) (v22 : (List AaD)) (v23 : ByteArray) (v24 : Int) (v25 : ByteArray) : Option Bool :=
  if v0=v13 then
    if v1=v14 then
      if (Abo v2 v15)=true then
        if v3=v16 then
          if v4=v17 then
            if v5=v18 then
              if v6=v19 then
                if v7=v20 then
                  AbI (AbD k v8 v21) fun v27 =>
                  if v27=true then
                    AbI (AbC k v9 v22) fun v28 =>
                    if v28=true then
                      if (Abo v10 v23)=true then
                        Ano (((v11==v24)&&(Abo v12 v25))) fun v29 =>
                        some v29
                      else
                        some false
                    else
                      some false
                  else
                    some false
                else
                  some false
              else
                some false
            else
              some false
          else
            some false
        else
          some false
      else
        some false
    else
      some false
  else
    some false
def AdQ (k : Nat) (v0 : (List Int)) : Option Bool :=
  Acy (Acs k v0) fun v2 v3 =>
  Acy (Aab k v0) fun v4 v5 =>
  if v3=v5 then
    AbI (Acf k v2.Author v2.Number v2.Prev v2.Time v2.Kind v2.A v2.B v2.C v2.Lst v2.Pins v2.Body v2.Seal_Key v2.Seal_Digest v4.Author v4.Number v4.Prev v4.Time v4.Kind v4.A v4.B v4.C v4.Lst v4.Pins v4.Body v4.Seal_Key v4.Seal_Digest) fun v6 =>
    some v6
  else
    some false
def AdK (k : Nat) (v0 v1 : Int) (v2 : ByteArray) (v3 v4 v5 v6 v7 : Int) (v8 : (List Int)) (v9 : (List AaD)) (v10 : ByteArray) (v11 : Int) (v12 : ByteArray) (v13 v14 : Int) (v15 : ByteArray) (v16 v17 v18 v19 v20 : Int) (v21 : (List Int)) (v22 : (List AaD)) (v23 : ByteArray) (v24 : Int) (v25 : ByteArray) : Option Bool :=
  Acy (AcP k v0 v1 v2 v3 v4 v5 v6 v7 v8 v9 v10 v11 v12) fun v27 v28 =>
  Acy (Ack k v0 v1 v2 v3 v4 v5 v6 v7 v8 v9 v10 v11 v12) fun v29 v30 =>
  AbI (AaQ k v0 v1 v2 v3 v4 v5 v6 v7 v8 v9 v10 v11 v12) fun v31 =>
  AbI (Aav k v0 v1 v2 v3 v4 v5 v6 v7 v8 v9 v10 v11 v12) fun v32 =>
  if v31=v32 then
    AbI (Aao k v0 v1 v2 v3 v4 v5 v6 v7 v8 v9 v10 v11 v12) fun v33 =>
    AbI (AbF k v0 v1 v2 v3 v4 v5 v6 v7 v8 v9 v10 v11 v12) fun v34 =>
    if (Abo (ofI v33) (ofI v34))=true then
      AbI (Aby k v0 v1 v2 v3 v4 v5 v6 v7 v8 v9 v10 v11 v12) fun v35 =>
      AbI (Acl k v0 v1 v2 v3 v4 v5 v6 v7 v8 v9 v10 v11 v12) fun v36 =>
      if (Abo v35 v36)=true then
        AbI (Abm k v0 v1 v2 v3 v4 v5 v6 v7 v8 v9 v10 v11 v12) fun v37 =>
        AbI (Aci k v0 v1 v2 v3 v4 v5 v6 v7 v8 v9 v10 v11 v12) fun v38 =>
        if (v37==v38)=true then
          AbI (Acw k v0 v1 v2 v3 v4 v5 v6 v7 v8 v9 v10 v11 v12) fun v39 =>
          AbI (Aes k v0 v1 v2 v3 v4 v5 v6 v7 v8 v9 v10 v11 v12) fun v40 =>
          AbI (Acf k v39.Author v39.Number v39.Prev v39.Time v39.Kind v39.A v39.B v39.C v39.Lst v39.Pins v39.Body v39.Seal_Key v39.Seal_Digest v40.Author v40.Number v40.Prev v40.Time v40.Kind v40.A v40.B v40.C v40.Lst v40.Pins v40.Body v40.Seal_Key v40.Seal_Digest) fun v41 =>
          if v41=true then
            if v28=v30 then
              if (Abo (ofI v27) (ofI v29))=true then
                AbI (AcF k v0 v1 v2 v3 v4 v5 v6 v7 v8 v9 v10 v11 v12 v13 v14 v15 v16 v17 v18 v19 v20 v21 v22 v23 v24 v25) fun v42 =>
                AbI (Acf k v0 v1 v2 v3 v4 v5 v6 v7 v8 v9 v10 v11 v12 v13 v14 v15 v16 v17 v18 v19 v20 v21 v22 v23 v24 v25) fun v43 =>
                if (v42==v43)=true then
                  AbI (AcF k v0 v1 v2 v3 v4 v5 v6 v7 v8 v9 v10 v11 v12 v0 v1 v2 v3 v4 v5 v6 v7 v8 v9 v10 v11 v12) fun v44 =>
                  some v44
                else
                  some false
              else
                some false
            else
              some false
          else
            some false
        else
          some false
      else
        some false
    else
      some false
  else
    some false
def AaL.J2 (k : Nat) (v14 : AaI) (v16 v17 : Int) (v18 : ByteArray) (v19 v20 v21 v22 v23 : Int) (v24 : (List Int)) (v25 : (List AaD)) (v26 : ByteArray) (v27 : Int) (v28 : ByteArray) (v29 : (List Int)) : Option Bool :=
  AbI (AcX k) fun v31 =>
  if v31=true then
    AbI (AdK k v14.Author v14.Number v14.Prev v14.Time v14.Kind v14.A v14.B v14.C v14.Lst v14.Pins v14.Body v14.Seal_Key v14.Seal_Digest v16 v17 v18 v19 v20 v21 v22 v23 v24 v25 v26 v27 v28) fun v32 =>
    if v32=true then
      AbI (AdK k v16 v17 v18 v19 v20 v21 v22 v23 v24 v25 v26 v27 v28 v14.Author v14.Number v14.Prev v14.Time v14.Kind v14.A v14.B v14.C v14.Lst v14.Pins v14.Body v14.Seal_Key v14.Seal_Digest) fun v33 =>
      if v33=true then
        AbI (Acj k v16 v17 v18 v19 v20 v21 v22 v23 v24 v25 v26 v27 v28) fun v34 =>
        AbI (AdK k v34.Author v34.Number v34.Prev v34.Time v34.Kind v34.A v34.B v34.C v34.Lst v34.Pins v34.Body v34.Seal_Key v34.Seal_Digest v14.Author v14.Number v14.Prev v14.Time v14.Kind v14.A v14.B v14.C v14.Lst v14.Pins v14.Body v14.Seal_Key v14.Seal_Digest) fun v35 =>
        if v35=true then
          AbI (AdQ k v29) fun v36 =>
          some v36
        else
          some false
      else
        some false
    else
      some false
  else
    some false
def AaL.J1 (k : Nat) (v1 v2 : Int) (v14 : AaI) (v16 v17 : Int) (v18 : ByteArray) (v19 v20 v21 v22 v23 : Int) (v24 : (List Int)) (v25 : (List AaD)) (v26 : ByteArray) (v27 : Int) (v28 : ByteArray) : Option Bool :=
  Acy (Ack k v14.Author v14.Number v14.Prev v14.Time v14.Kind v14.A v14.B v14.C v14.Lst v14.Pins v14.Body v14.Seal_Key v14.Seal_Digest) fun v29 v30 =>
  if 0<(v29.length : Int) then
    chk (v29.length*1≤140737488355328) <|
    AbI (Acb k v1 (v29.length : Int)) fun v37 =>
    chk ((0 : Int)≤v37∧(v37).toNat<v29.length) <|
    idx v29 v37 fun v38 =>
    chk ((0 : Int)≤v37∧(v37).toNat<v29.length) <|
    AbI (AdQ k (v29.set (v37).toNat (AaK .xor .u8 v38 (IntKind.wrap .u8 v2)))) fun v39 =>
    if (!v39)=true then
      some false
    else
      AbI (Acb k v1 (v29.length : Int)) fun v40 =>
      chk ((0 : Int)≤v40∧(v40 : Int)≤((v29.length : Nat) : Int)) <|
      AbI (AdQ k (v29.take ((v40).toNat))) fun v41 =>
      if (!v41)=true then
        some false
      else
        chk ((v29.length+([IntKind.wrap .u8 v2] : List Int).length)*1≤140737488355328) <|
        AbI (AdQ k (v29++([IntKind.wrap .u8 v2] : List Int))) fun v42 =>
        if (!v42)=true then
          some false
        else
          AaL.J2 k v14 v16 v17 v18 v19 v20 v21 v22 v23 v24 v25 v26 v27 v28 v29
  else
    AaL.J2 k v14 v16 v17 v18 v19 v20 v21 v22 v23 v24 v25 v26 v27 v28 v29
def AaL.L3 (k : Nat) (v1 v2 : Int) (v14 v15 : AaI) : Nat→Int→(List Int)→Option Bool
  | 0,_,_=>none
  | n+1,v60,v61 =>
    if 0<v60 then
      chk ((v61.length+([v60] : List Int).length)*8≤140737488355328) <|
      AaL.L3 k v1 v2 v14 v15 n (IntKind.wrap .i64 (v60-1)) (v61++([v60] : List Int))
    else
      AaL.J1 k v1 v2 v14 v15.Author v15.Number v15.Prev v15.Time v15.Kind v15.A v15.B v15.C v61 v15.Pins v15.Body v15.Seal_Key v15.Seal_Digest
def AaL.L4 (k : Nat) (v1 v2 : Int) (v6 : (List Int)) (v14 v15 : AaI) : Nat→Int→Int→(List AaD)→Option Bool
  | 0,_,_,_=>none
  | n+1,v62,v63,v64 =>
    Acy (Aat k v6 v63 2) fun v65 v66 =>
    if v62<IntKind.wrap .i64 (64+v65) then
      Acy (Abz k v6 v66) fun v67 v68 =>
      chk ((v64.length+([(AaD.mk v62 1 v67)] : List AaD).length)*32≤140737488355328) <|
      AaL.L4 k v1 v2 v6 v14 v15 n (IntKind.wrap .i64 (v62+1)) v68 (v64++([(AaD.mk v62 1 v67)] : List AaD))
    else
      AaL.J1 k v1 v2 v14 v15.Author v15.Number v15.Prev v15.Time v15.Kind v15.A v15.B v15.C v15.Lst v64 v15.Body v15.Seal_Key v15.Seal_Digest
def AaL (k : Nat) (v0 : (List Int)) (v1 v2 : Int) : Option Bool :=
  AbI (Afl k v0) fun v4 =>
  if (!v4)=true then
    AbI (AcX k) fun v5 =>
    some v5
  else
    Acy (AgM k v0) fun v6 v7 =>
    Acy (Aat k v6 v7 5) fun v8 v9 =>
    Acy (Aat k v6 v9 100) fun v10 v11 =>
    Acy (AaR k v6 v11 v8 v10) fun v12 v13 =>
    AbI (Acj k v12.Author v12.Number v12.Prev v12.Time v12.Kind v12.A v12.B v12.C v12.Lst v12.Pins v12.Body v12.Seal_Key v12.Seal_Digest) fun v14 =>
    AbI (Acm k v14.Author v14.Number v14.Prev v14.Time v14.Kind v14.A v14.B v14.C v14.Lst v14.Pins v14.Body v14.Seal_Key v14.Seal_Digest) fun v15 =>
    Acy (Aat k v6 v13 14) fun v43 v44 =>
    if v43=0 then
      AaL.J1 k v1 v2 v14 v2 v15.Number v15.Prev v15.Time v15.Kind v15.A v15.B v15.C v15.Lst v15.Pins v15.Body v15.Seal_Key v15.Seal_Digest
    else
      if v43=1 then
        Acy (AbS k v6 v44 ([1,199,200,-1] : List Int)) fun v45 v46 =>
        AaL.J1 k v1 v2 v14 v15.Author v45 v15.Prev v15.Time v15.Kind v15.A v15.B v15.C v15.Lst v15.Pins v15.Body v15.Seal_Key v15.Seal_Digest
      else
        if v43=2 then
          Acy (Abz k v6 v44) fun v47 v48 =>
          AaL.J1 k v1 v2 v14 v15.Author v15.Number v47 v15.Time v15.Kind v15.A v15.B v15.C v15.Lst v15.Pins v15.Body v15.Seal_Key v15.Seal_Digest
        else
          if v43=3 then
            Acy (AbS k v6 v44 ([v2,2147483648,2147483649] : List Int)) fun v49 v50 =>
            AaL.J1 k v1 v2 v14 v15.Author v15.Number v15.Prev v49 v15.Kind v15.A v15.B v15.C v15.Lst v15.Pins v15.Body v15.Seal_Key v15.Seal_Digest
          else
            if v43=4 then
              AbI (Acb k v2 34) fun v51 =>
              AaL.J1 k v1 v2 v14 v15.Author v15.Number v15.Prev v15.Time v51 v15.A v15.B v15.C v15.Lst v15.Pins v15.Body v15.Seal_Key v15.Seal_Digest
            else
              if v43=5 then
                Acy (AbS k v6 v44 ([v2,63,64,v15.Author] : List Int)) fun v52 v53 =>
                AaL.J1 k v1 v2 v14 v15.Author v15.Number v15.Prev v15.Time v15.Kind v52 v15.B v15.C v15.Lst v15.Pins v15.Body v15.Seal_Key v15.Seal_Digest
              else
                if v43=6 then
                  Acy (AbS k v6 v44 ([0,3,4,v2] : List Int)) fun v54 v55 =>
                  AaL.J1 k v1 v2 v14 v15.Author v15.Number v15.Prev v15.Time v15.Kind v15.A v54 v15.C v15.Lst v15.Pins v15.Body v15.Seal_Key v15.Seal_Digest
                else
                  if v43=7 then
                    Acy (AbS k v6 v44 ([v2,v15.Time,IntKind.wrap .i64 (v15.Time-1),2147483648,1099511627776] : List Int)) fun v56 v57 =>
                    AaL.J1 k v1 v2 v14 v15.Author v15.Number v15.Prev v15.Time v15.Kind v15.A v15.B v56 v15.Lst v15.Pins v15.Body v15.Seal_Key v15.Seal_Digest
                  else
                    if v43=8 then
                      Acy (Aat k v6 v44 2) fun v58 v59 =>
                      AaL.L3 k v1 v2 v14 v15 k (IntKind.wrap .i64 (64+v58)) v15.Lst
                    else
                      if v43=9 then
                        chk ((v15.Lst.length+([v2] : List Int).length)*8≤140737488355328) <|
                        AaL.J1 k v1 v2 v14 v15.Author v15.Number v15.Prev v15.Time v15.Kind v15.A v15.B v15.C (v15.Lst++([v2] : List Int)) v15.Pins v15.Body v15.Seal_Key v15.Seal_Digest
                      else
                        if v43=10 then
                          AaL.L4 k v1 v2 v6 v14 v15 k 0 v44 v15.Pins
                        else
                          if v43=11 then
                            Acy (Aat k v6 v44 3) fun v69 v70 =>
                            Acy (AbS k v6 v70 ([1,0,200,201] : List Int)) fun v71 v72 =>
                            Acy (Abz k v6 v72) fun v73 v74 =>
                            Acy (Aat k v6 v74 2) fun v75 v76 =>
                            chk ((0 : Int)≤v75∧(v75 : Int)≤(v73.size : Int)) <|
                            chk ((v15.Pins.length+([(AaD.mk v69 v71 (v73.extract (v75).toNat v73.size))] : List AaD).length)*32≤140737488355328) <|
                            AaL.J1 k v1 v2 v14 v15.Author v15.Number v15.Prev v15.Time v15.Kind v15.A v15.B v15.C v15.Lst (v15.Pins++([(AaD.mk v69 v71 (v73.extract (v75).toNat v73.size))] : List AaD)) v15.Body v15.Seal_Key v15.Seal_Digest
                          else
                            if v43=12 then
                              Acy (AbS k v6 v44 ([1,4096,4097] : List Int)) fun v77 v78 =>
                              chk ((0 : Int)≤v77∧16*v77≤281474976710656) <|
                              chk (v15.Body.size+(ofI (List.replicate (v77).toNat (0 : Int))).size≤140737488355328) <|
                              AaL.J1 k v1 v2 v14 v15.Author v15.Number v15.Prev v15.Time v15.Kind v15.A v15.B v15.C v15.Lst v15.Pins (v15.Body++(ofI (List.replicate (v77).toNat (0 : Int)))) v15.Seal_Key v15.Seal_Digest
                            else
                              AbI (Acb k v2 5) fun v79 =>
                              Acy (Aat k v6 v44 2) fun v80 v81 =>
                              chk ((0 : Int)≤v80∧(v80 : Int)≤(v14.Seal_Digest.size : Int)) <|
                              AaL.J1 k v1 v2 v14 v15.Author v15.Number v15.Prev v15.Time v15.Kind v15.A v15.B v15.C v15.Lst v15.Pins v15.Body v79 (v14.Seal_Digest.extract (v80).toNat v14.Seal_Digest.size)
theorem GK {P : List (List Nat×List Nat)→Prop} {c : List (List Nat×List Nat)→Bool} {l : List (List Nat×List Nat)} (g : ∀ l,c l=true→P l) (h : c l=true:=by kernel_rfl) : P l:=g l h
abbrev Q0 (l : List AaD) : AV := .lst false false (List.map AaD.av l)
abbrev Gi (l : List Int) : Aan := .grow (List.map (AV.int .i64) l)
abbrev Ci (l : List Int) : Aan := .cells (List.map (AV.int .i64) l)
theorem A2 {p0 p1 : Prop} (a0 : p0) (a1 : p1) : p0∧p1:=⟨a0,a1⟩
theorem A3 {p0 p1 p2 : Prop} (a0 : p0) (a1 : p1) (a2 : p2) : p0∧p1∧p2:=⟨a0,a1,a2⟩
theorem A4 {p0 p1 p2 p3 : Prop} (a0 : p0) (a1 : p1) (a2 : p2) (a3 : p3) : p0∧p1∧p2∧p3:=⟨a0,a1,a2,a3⟩
theorem A5 {p0 p1 p2 p3 p4 : Prop} (a0 : p0) (a1 : p1) (a2 : p2) (a3 : p3) (a4 : p4) : p0∧p1∧p2∧p3∧p4:=⟨a0,a1,a2,a3,a4⟩
theorem A6 {p0 p1 p2 p3 p4 p5 : Prop} (a0 : p0) (a1 : p1) (a2 : p2) (a3 : p3) (a4 : p4) (a5 : p5) : p0∧p1∧p2∧p3∧p4∧p5:=⟨a0,a1,a2,a3,a4,a5⟩
theorem A7 {p0 p1 p2 p3 p4 p5 p6 : Prop} (a0 : p0) (a1 : p1) (a2 : p2) (a3 : p3) (a4 : p4) (a5 : p5) (a6 : p6) : p0∧p1∧p2∧p3∧p4∧p5∧p6:=⟨a0,a1,a2,a3,a4,a5,a6⟩
theorem A8 {p0 p1 p2 p3 p4 p5 p6 p7 : Prop} (a0 : p0) (a1 : p1) (a2 : p2) (a3 : p3) (a4 : p4) (a5 : p5) (a6 : p6) (a7 : p7) : p0∧p1∧p2∧p3∧p4∧p5∧p6∧p7:=⟨a0,a1,a2,a3,a4,a5,a6,a7⟩
theorem A9 {p0 p1 p2 p3 p4 p5 p6 p7 p8 : Prop} (a0 : p0) (a1 : p1) (a2 : p2) (a3 : p3) (a4 : p4) (a5 : p5) (a6 : p6) (a7 : p7) (a8 : p8) : p0∧p1∧p2∧p3∧p4∧p5∧p6∧p7∧p8:=⟨a0,a1,a2,a3,a4,a5,a6,a7,a8⟩
end Go.TF
set_option maxRecDepth 100000
namespace Go.Proofs.YtomgdcnbceiggaaSmT
open Go Go.Abs Go.Proofs
theorem Adh : Try.prog.follows .mixedOrders=true:=by kernel_rfl
@[simp] abbrev Sc {α : Type} (n : Nat) (l : List α) : AV := .slc n 0 1 l.length false
abbrev Ll (l : List (List Int)) : AV := .lst false false (l.map (sl (AV.int .i64)))
theorem IFo {α : Type} {c : Prop} [Decidable c] {x y : Option α} {r : α} (h : (if c then x else y)=some r) : (c∧x=some r)∨(¬c∧y=some r):=by
 by_cases hc : c
 ·rw [if_pos hc] at h;exact .inl ⟨hc,h⟩
 ·rw [if_neg hc] at h;exact .inr ⟨hc,h⟩
abbrev N2 {α : Type} : List (Option α) := [none,none]
abbrev N3 {α : Type} : List (Option α) := [none,none,none]
abbrev N4 {α : Type} : List (Option α) := [none,none,none,none]
abbrev N5 {α : Type} : List (Option α) := [none,none,none,none,none]
abbrev N6 {α : Type} : List (Option α) := [none,none,none,none,none,none]
abbrev N7 {α : Type} : List (Option α) := [none,none,none,none,none,none,none]
abbrev N8 {α : Type} : List (Option α) := [none,none,none,none,none,none,none,none]
abbrev N9 {α : Type} : List (Option α) := [none,none,none,none,none,none,none,none,none]
abbrev N10 {α : Type} : List (Option α) := [none,none,none,none,none,none,none,none,none,none]
abbrev N11 {α : Type} : List (Option α) := [none,none,none,none,none,none,none,none,none,none,none]
abbrev N12 {α : Type} : List (Option α) := [none,none,none,none,none,none,none,none,none,none,none,none]
abbrev N13 {α : Type} : List (Option α) := [none,none,none,none,none,none,none,none,none,none,none,none,none]
abbrev N14 {α : Type} : List (Option α) := [none,none,none,none,none,none,none,none,none,none,none,none,none,none]
abbrev N15 {α : Type} : List (Option α) := [none,none,none,none,none,none,none,none,none,none,none,none,none,none,none]
abbrev N17 {α : Type} : List (Option α) := [none,none,none,none,none,none,none,none,none,none,none,none,none,none,none,none,none]
abbrev N18 {α : Type} : List (Option α) := [none,none,none,none,none,none,none,none,none,none,none,none,none,none,none,none,none,none]
abbrev N19 {α : Type} : List (Option α) := [none,none,none,none,none,none,none,none,none,none,none,none,none,none,none,none,none,none,none]
abbrev N20 {α : Type} : List (Option α) := [none,none,none,none,none,none,none,none,none,none,none,none,none,none,none,none,none,none,none,none]
abbrev N21 {α : Type} : List (Option α) := [none,none,none,none,none,none,none,none,none,none,none,none,none,none,none,none,none,none,none,none,none]
abbrev N24 {α : Type} : List (Option α) := [none,none,none,none,none,none,none,none,none,none,none,none,none,none,none,none,none,none,none,none,none,none,none,none]
abbrev N27 {α : Type} : List (Option α) := [none,none,none,none,none,none,none,none,none,none,none,none,none,none,none,none,none,none,none,none,none,none,none,none,none,none,none]
abbrev N28 {α : Type} : List (Option α) := [none,none,none,none,none,none,none,none,none,none,none,none,none,none,none,none,none,none,none,none,none,none,none,none,none,none,none,none]
abbrev N30 {α : Type} : List (Option α) := [none,none,none,none,none,none,none,none,none,none,none,none,none,none,none,none,none,none,none,none,none,none,none,none,none,none,none,none,none,none]
abbrev N34 {α : Type} : List (Option α) := [none,none,none,none,none,none,none,none,none,none,none,none,none,none,none,none,none,none,none,none,none,none,none,none,none,none,none,none,none,none,none,none,none,none]
abbrev N36 {α : Type} : List (Option α) := [none,none,none,none,none,none,none,none,none,none,none,none,none,none,none,none,none,none,none,none,none,none,none,none,none,none,none,none,none,none,none,none,none,none,none,none]
abbrev N37 {α : Type} : List (Option α) := [none,none,none,none,none,none,none,none,none,none,none,none,none,none,none,none,none,none,none,none,none,none,none,none,none,none,none,none,none,none,none,none,none,none,none,none,none]
section
variable {n : Nat} {c0 : Cx} {w0 : World} {Q : Ac5} {s : Nat→AV} {H : Aah} {N : Nat} {T : Act→World→Prop}
theorem SQ {id : Nat} {ops : List Oper} {draw : Bool} {y : Code} (mu : List Nat) (gs : List (Option (Nat×Bool)))
 (h : ∀ (G : Log→Prop) (K : (Nat→AV)→Aah→Nat→Prop),(∀ lg,(!draw||Adi ops lg)=true→G lg)→(∀ s' H' N',AW Try.prog n c0 w0 y Q s' H' N'→K s' H' N')→Aej Try.prog mu ops gs s H N [] (fun s' H' N' lg=>G lg∧K s' H' N'))
 (hok : Af4 n ops gs=true:=by kernel_rfl) : AW Try.prog n c0 w0 (.seq (.region id ops.toArray draw) y) Q s H N:=AW.seqR Adh mu gs hok h
theorem RG {id : Nat} {ops : List Oper} {draw : Bool} (mu : List Nat) (gs : List (Option (Nat×Bool)))
 (h : ∀ (G : Log→Prop) (K : (Nat→AV)→Aah→Nat→Prop),(∀ lg,(!draw||Adi ops lg)=true→G lg)→(∀ s' H' N',Q .normal s' H' N'→K s' H' N')→Aej Try.prog mu ops gs s H N [] (fun s' H' N' lg=>G lg∧K s' H' N'))
 (hok : Af4 n ops gs=true:=by kernel_rfl) : AW Try.prog n c0 w0 (.region id ops.toArray draw) Q s H N:=AW.region Adh mu gs hok h
theorem WK {x : Code} (l : List (Nat×AV)) (hl : List (Nat×Aan)) (N' : Nat) (h1 : ∀ p ∈ l,s p.1=p.2) (h2 : ∀ p ∈ hl,H p.1=some p.2) (h : AW Try.prog n c0 w0 x Q (mkS l) (mkH hl) N') (hN : N≤N':=by simp) : AW Try.prog n c0 w0 x Q s H N:=AW.wk l hl N' h1 h2 hN h
theorem WJ {x : Code} (l : List (Nat×AV)) (hl : List (Nat×Aan)) (N' : Nat) (h1 : (∀ p ∈ l,s p.1=p.2)∧∀ p ∈ hl,H p.1=some p.2) (h : AW Try.prog n c0 w0 x Q (mkS l) (mkH hl) N') (hN : N≤N':=by simp) : AW Try.prog n c0 w0 x Q s H N:=AW.wk l hl N' h1.1 h1.2 hN h
theorem RN (h0 : Ab0 c0 0) (ρ : List (Nat×Nat)) (l : List (Nat×AV)) (o : List (Nat×Aan)) (M : Nat)
 (h1 : ∀ p ∈ l,s p.1=Abs.ren (AfF ρ) p.2∧gd (fun i=>(Abs.Af8 ρ i).isSome=true) p.2)
 (h2 : ∀ p ∈ o,H (AfF ρ p.1)=some (Agr (AfF ρ) p.2)∧gdO (fun i=>(Abs.Af8 ρ i).isSome=true) p.2)
 (h : Abs.Can n c0 w0 (mkS l) (mkH o) M T) (hρ1 : (ρ.map (·.2)).Nodup:=by decide) (hρ2 : ∀ p ∈ ρ,p.1<M∧(p.1<0→p.1=p.2):=by decide) (hk : o.map (·.1)=ρ.map (·.1):=by rfl) : Abs.Can n c0 w0 s H N T:=Abs.Can.ren h0 ρ l o M hρ1 hρ2 (Nat.zero_le _) hk h1 h2 h
theorem RM {x : Code} (h0 : Ab0 c0 0) (ρ : List (Nat×Nat)) (l : List (Nat×AV)) (o : List (Nat×Aan)) (M : Nat)
 (h1 : ∀ p ∈ l,s p.1=Abs.ren (AfF ρ) p.2∧gd (fun i=>(Abs.Af8 ρ i).isSome=true) p.2)
 (h2 : ∀ p ∈ o,H (AfF ρ p.1)=some (Agr (AfF ρ) p.2)∧gdO (fun i=>(Abs.Af8 ρ i).isSome=true) p.2)
 (h : AW Try.prog n c0 w0 x Q (mkS l) (mkH o) M) (hρ1 : (ρ.map (·.2)).Nodup:=by decide) (hρ2 : ∀ p ∈ ρ,p.1<M∧(p.1<0→p.1=p.2):=by decide) (hk : o.map (·.1)=ρ.map (·.1):=by rfl) : AW Try.prog n c0 w0 x Q s H N:=AW.rnm h0 ρ l o M hρ1 hρ2 (Nat.zero_le _) hk h1 h2 h
theorem AC {f : FuncId} {args : List AV} {K : CK} {args0 : List AV} {r : AV} {O' : List (Option Aan)} (hF : AbP Try.prog f args0 [] r O') (hco : AlM H (nm []) args args0 [])
 (hk : K (ren (nm ([]++Ad5 N (O'.length-([] : List Aan).length))) r) (AjQ (nm ([]++Ad5 N (O'.length-([] : List Aan).length))) H ([]++Ad5 N (O'.length-([] : List Aan).length)) O') (N+(O'.length-([] : List Aan).length)) ([]++[]) ([]++Ad5 N (O'.length-([] : List Aan).length)))
 (hcal : AaY Try.prog f=true:=by simp) (hun : Apw [] [] [] O':=by simp) : Alt Try.prog f args H N K :=
 AaO hF hcal [] [] [] rfl hco trivial .nil (by simp) (by simp) (.inl rfl) (by simp) hun hk
theorem CT {t : Nat} {x y : Code} (hb : s t = .bool true) (h : AW Try.prog n c0 w0 x Q s H N) (ht : decide (t<n)=true:=by decide) : AW Try.prog n c0 w0 (.cond (.tmp t) x y) Q s H N:=AW.condT ht hb h
theorem CF {t : Nat} {x y : Code} (hb : s t = .bool false) (h : AW Try.prog n c0 w0 y Q s H N) (ht : decide (t<n)=true:=by decide) : AW Try.prog n c0 w0 (.cond (.tmp t) x y) Q s H N:=AW.condF ht hb h
theorem EN {f : FuncId} {fn : Func} {code : Code} {args : List AV} {O : List Aan} {r : AV} {O' : List (Option Aan)} (hf : Try.prog.funcs[f]? = some fn)
 (h : ∀ (c0 : Cx) (w0 : World) (Q : Ac5),Ab0 c0 O.length→(∀ s H N,AfQ Try.prog s H fn.results.toList r→(∀ i,i<O'.length→H i=nth O' i)→Q .ret s H N∧Q .normal s H N)→AW Try.prog fn.ntmps c0 w0 code Q (Am8 args) (fun i=>O[i]?) O.length)
 (hb : fn.body=some code:=by rfl) (hm : args.length≤fn.ntmps:=by simp) (hin : Aha fn.ntmps fn.results.toList=true:=by decide)
 (len : O.length≤O'.length:=by simp) (ga : gdL (· < O.length) args:=by simp) (gO : ∀ o ∈ O,gdO (· < O.length) o:=by simp) (gr : gd (fun i=>(nth O' i).isSome=true) r:=by simp) (gO' : ∀ o,some o ∈ O'→gdO (fun i=>(nth O' i).isSome=true) o:=by simp) : AbP Try.prog f args O r O':=AbP.enter hf hb hm hin len ga gO gr gO' h
theorem NX {α : Type} {F : Nat→α→Prop} {L : α→List (Nat×AV)} {O : α→List (Nat×Aan)} {M k k' : Nat} (y : α) (hF : F k' y) (h1 : ∀ p ∈ L y,s p.1=p.2) (h2 : ∀ p ∈ O y,H p.1=some p.2) (hk : k'<k:=by omega) (hN : N≤M:=by simp) :
 Abs.Can n c0 w0 s H N (fun a w=>∃ k' y,k'<k∧F k' y∧St n c0 w0 (mkS (L y)) (mkH (O y)) M a w):=Abs.Can.next y hk hF h1 h2 hN
theorem JN {α : Type} {F : α→Prop} {L : α→List (Nat×AV)} {O : α→List (Nat×Aan)} {M : Nat} (y : α) (hF : F y) (h1 : ∀ p ∈ L y,s p.1=p.2) (h2 : ∀ p ∈ O y,H p.1=some p.2) (hN : N≤M:=by simp) :
 Abs.Can n c0 w0 s H N (fun a w=>∃ y,F y∧St n c0 w0 (mkS (L y)) (mkH (O y)) M a w):=Abs.Can.join y hF h1 h2 hN
end
@[simp↓] theorem As0 {P : Program} {mu : List Nat} {d : Option Nat} {s : Nat→AV} {H : Aah} {N : Nat} {K : CK} {y : Operand} : bop P mu d s H N K (.move y)=K (ev s y) H N [] []:=bop.eq_1 ..
@[simp↓] theorem As1 {P : Program} {mu : List Nat} {d : Option Nat} {s : Nat→AV} {H : Aah} {N : Nat} {K : CK} {y : Operand} : bop P mu d s H N K (.assign y)=K (ev s y) H N [] []:=bop.eq_2 ..
@[simp] theorem t1 : AdE Try.prog 1=some false∧Abt Try.prog 1=some 1∧AcM Try.prog 1=some [AV.nilfn]∧Ab6 Try.prog 1=some AV.nilfn:=by and_intros <;> kernel_rfl
@[simp] theorem t2 : AdE Try.prog 2=some false∧Abt Try.prog 2=some 1∧AcM Try.prog 2=some [AV.int .i64 0]∧Ab6 Try.prog 2=some (AV.int .i64 0)∧Ahn Try.prog 2=some IntKind.i64:=by and_intros <;> kernel_rfl
@[simp] theorem t3 : AdE Try.prog 3=some false∧Abt Try.prog 3=some 1∧AcM Try.prog 3=some [AV.int .i64 0]∧Ab6 Try.prog 3=some (AV.int .i64 0)∧Ahn Try.prog 3=some IntKind.i64:=by and_intros <;> kernel_rfl
@[simp] theorem t4 : AdE Try.prog 4=some false∧Abt Try.prog 4=some 1∧AcM Try.prog 4=some [AV.bool false]∧Ab6 Try.prog 4=some (AV.bool false)∧Try.prog.underlying 4=some Go.TypeDesc.bool:=by and_intros <;> kernel_rfl
@[simp] theorem t5 : AdE Try.prog 5=some false∧Abt Try.prog 5=some 1∧AcM Try.prog 5=some [AV.int .u8 0]∧Ab6 Try.prog 5=some (AV.int .u8 0)∧Ahn Try.prog 5=some IntKind.u8:=by and_intros <;> kernel_rfl
@[simp] theorem t9 : Ajz Try.prog 9=true∧AdE Try.prog 9=some false∧Abt Try.prog 9=some 1∧AcM Try.prog 9=some [AV.str { data := { toList:=[] } }]∧Ab6 Try.prog 9=some (AV.str { data := { toList:=[] } })∧AdO Try.prog 9=true:=by and_intros <;> kernel_rfl
@[simp] theorem t22 : Aa9 Try.prog 22=some (3,1,8)∧Alx Try.prog 22=true∧AdE Try.prog 22=some false∧Abt Try.prog 22=some 1∧AcM Try.prog 22=some [AV.lst true true []]∧Ab6 Try.prog 22=some (AV.lst true true [])∧AdO Try.prog 22=true∧Try.prog.underlying 22=some (Go.TypeDesc.slice 3):=by and_intros <;> kernel_rfl
@[simp] theorem t33 : AdE Try.prog 33=some false∧Abt Try.prog 33=some 1∧AcM Try.prog 33=some [AV.int .i64 0]∧Ab6 Try.prog 33=some (AV.int .i64 0)∧Ahn Try.prog 33=some IntKind.i64:=by and_intros <;> kernel_rfl
@[simp] theorem t39 : Aa9 Try.prog 39=some (56,3,32)∧Alx Try.prog 39=true∧AdE Try.prog 39=some false∧Abt Try.prog 39=some 1∧AcM Try.prog 39=some [AV.lst true true []]∧Ab6 Try.prog 39=some (AV.lst true true [])∧AdO Try.prog 39=true∧Try.prog.underlying 39=some (Go.TypeDesc.slice 56):=by and_intros <;> kernel_rfl
@[simp] theorem t41 : AdE Try.prog 41=some true∧Abt Try.prog 41=some 2∧AcM Try.prog 41=some [AV.int .i64 0,AV.str { data := { toList:=[] } }]∧Ab6 Try.prog 41=some (AV.agg [AV.int .i64 0,AV.str { data := { toList:=[] } }])∧AdA Try.prog 41=true∧ApU Try.prog 41=some [AcI.int .i64,AcI.str]:=by and_intros <;> kernel_rfl
@[simp] theorem t43 : AdE Try.prog 43=some true∧Abt Try.prog 43=some 13∧AcM Try.prog 43=some [AV.int .i64 0,AV.int .i64 0,AV.str { data := { toList:=[] } },AV.int .i64 0,AV.int .i64 0,AV.int .i64 0,AV.int .i64 0,AV.int .i64 0,AV.lst true true [],AV.lst true true [],AV.str { data := { toList:=[] } },AV.int .i64 0,AV.str { data := { toList:=[] } }]∧Ab6 Try.prog 43=some (AV.agg [AV.int .i64 0,AV.int .i64 0,AV.str { data := { toList:=[] } },AV.int .i64 0,AV.int .i64 0,AV.int .i64 0,AV.int .i64 0,AV.int .i64 0,AV.lst true true [],AV.lst true true [],AV.str { data := { toList:=[] } },AV.int .i64 0,AV.str { data := { toList:=[] } }])∧AdA Try.prog 43=true:=by and_intros <;> kernel_rfl
@[simp] theorem t44 : Aa9 Try.prog 44=some (5,1,1)∧Alx Try.prog 44=true∧AdE Try.prog 44=some false∧Abt Try.prog 44=some 1∧AcM Try.prog 44=some [AV.lst true true []]∧Ab6 Try.prog 44=some (AV.lst true true [])∧Amb Try.prog 44=true∧AdO Try.prog 44=true∧Try.prog.underlying 44=some (Go.TypeDesc.slice 5):=by and_intros <;> kernel_rfl
@[simp] theorem t55 : AdE Try.prog 56=some true∧Abt Try.prog 56=some 3∧AcM Try.prog 56=some [AV.int .i64 0,AV.int .i64 0,AV.str { data := { toList:=[] } }]∧Ab6 Try.prog 56=some (AV.agg [AV.int .i64 0,AV.int .i64 0,AV.str { data := { toList:=[] } }])∧AdA Try.prog 56=true∧ApU Try.prog 56=some [AcI.int .i64,AcI.int .i64,AcI.str]:=by and_intros <;> kernel_rfl
@[simp] theorem t80 : AdE Try.prog 81=some true∧Abt Try.prog 81=some 2∧AcM Try.prog 81=some [AV.lst true true [],AV.int .i64 0]∧Ab6 Try.prog 81=some (AV.agg [AV.lst true true [],AV.int .i64 0])∧AdA Try.prog 81=true:=by and_intros <;> kernel_rfl
@[simp] theorem t91 : AdE Try.prog 93=some false∧Abt Try.prog 93=some 1∧AcM Try.prog 93=some [AV.int .u64 0]∧Ab6 Try.prog 93=some (AV.int .u64 0)∧Ahn Try.prog 93=some IntKind.u64:=by and_intros <;> kernel_rfl
@[simp] theorem t92 : AdE Try.prog 94=some false∧Abt Try.prog 94=some 1∧AcM Try.prog 94=some [AV.int .u64 0]∧Ab6 Try.prog 94=some (AV.int .u64 0)∧Ahn Try.prog 94=some IntKind.u64:=by and_intros <;> kernel_rfl
@[simp] theorem t93 : AdE Try.prog 95=some false∧Abt Try.prog 95=some 1∧AcM Try.prog 95=some [AV.int .u32 0]∧Ab6 Try.prog 95=some (AV.int .u32 0)∧Ahn Try.prog 95=some IntKind.u32:=by and_intros <;> kernel_rfl
@[simp] theorem t95 : AdE Try.prog 97=some true∧Abt Try.prog 97=some 8∧AcM Try.prog 97=some [AV.int .u32 0,AV.int .u32 0,AV.int .u32 0,AV.int .u32 0,AV.int .u32 0,AV.int .u32 0,AV.int .u32 0,AV.int .u32 0]∧Aei Try.prog 97=some (8,1)∧Ab6 Try.prog 97=some (AV.agg [AV.int .u32 0,AV.int .u32 0,AV.int .u32 0,AV.int .u32 0,AV.int .u32 0,AV.int .u32 0,AV.int .u32 0,AV.int .u32 0])∧AdA Try.prog 97=true∧Am7 Try.prog 97=some (8,AcI.int .u32):=by and_intros <;> kernel_rfl
@[simp] theorem t96 : AdE Try.prog 98=some true∧Abt Try.prog 98=some 64∧AcM Try.prog 98=some [AV.int .u32 0,AV.int .u32 0,AV.int .u32 0,AV.int .u32 0,AV.int .u32 0,AV.int .u32 0,AV.int .u32 0,AV.int .u32 0,AV.int .u32 0,AV.int .u32 0,AV.int .u32 0,AV.int .u32 0,AV.int .u32 0,AV.int .u32 0,AV.int .u32 0,AV.int .u32 0,AV.int .u32 0,AV.int .u32 0,AV.int .u32 0,AV.int .u32 0,AV.int .u32 0,AV.int .u32 0,AV.int .u32 0,AV.int .u32 0,AV.int .u32 0,AV.int .u32 0,AV.int .u32 0,AV.int .u32 0,AV.int .u32 0,AV.int .u32 0,AV.int .u32 0,AV.int .u32 0,AV.int .u32 0,AV.int .u32 0,AV.int .u32 0,AV.int .u32 0,AV.int .u32 0,AV.int .u32 0,AV.int .u32 0,AV.int .u32 0,AV.int .u32 0,AV.int .u32 0,AV.int .u32 0,AV.int .u32 0,AV.int .u32 0,AV.int .u32 0,AV.int .u32 0,AV.int .u32 0,AV.int .u32 0,AV.int .u32 0,AV.int .u32 0,AV.int .u32 0,AV.int .u32 0,AV.int .u32 0,AV.int .u32 0,AV.int .u32 0,AV.int .u32 0,AV.int .u32 0,AV.int .u32 0,AV.int .u32 0,AV.int .u32 0,AV.int .u32 0,AV.int .u32 0,AV.int .u32 0]∧Aei Try.prog 98=some (64,1)∧Ab6 Try.prog 98=some (AV.agg [AV.int .u32 0,AV.int .u32 0,AV.int .u32 0,AV.int .u32 0,AV.int .u32 0,AV.int .u32 0,AV.int .u32 0,AV.int .u32 0,AV.int .u32 0,AV.int .u32 0,AV.int .u32 0,AV.int .u32 0,AV.int .u32 0,AV.int .u32 0,AV.int .u32 0,AV.int .u32 0,AV.int .u32 0,AV.int .u32 0,AV.int .u32 0,AV.int .u32 0,AV.int .u32 0,AV.int .u32 0,AV.int .u32 0,AV.int .u32 0,AV.int .u32 0,AV.int .u32 0,AV.int .u32 0,AV.int .u32 0,AV.int .u32 0,AV.int .u32 0,AV.int .u32 0,AV.int .u32 0,AV.int .u32 0,AV.int .u32 0,AV.int .u32 0,AV.int .u32 0,AV.int .u32 0,AV.int .u32 0,AV.int .u32 0,AV.int .u32 0,AV.int .u32 0,AV.int .u32 0,AV.int .u32 0,AV.int .u32 0,AV.int .u32 0,AV.int .u32 0,AV.int .u32 0,AV.int .u32 0,AV.int .u32 0,AV.int .u32 0,AV.int .u32 0,AV.int .u32 0,AV.int .u32 0,AV.int .u32 0,AV.int .u32 0,AV.int .u32 0,AV.int .u32 0,AV.int .u32 0,AV.int .u32 0,AV.int .u32 0,AV.int .u32 0,AV.int .u32 0,AV.int .u32 0,AV.int .u32 0])∧AdA Try.prog 98=true∧Am7 Try.prog 98=some (64,AcI.int .u32):=by and_intros <;> kernel_rfl
@[simp] theorem t98 : Aa9 Try.prog 102=some (95,1,4)∧Alx Try.prog 102=true∧AdE Try.prog 102=some false∧Abt Try.prog 102=some 1∧AcM Try.prog 102=some [AV.lst true true []]∧Ab6 Try.prog 102=some (AV.lst true true [])∧AdO Try.prog 102=true∧Try.prog.underlying 102=some (Go.TypeDesc.slice 95):=by and_intros <;> kernel_rfl
@[simp] theorem Ata : AdE Try.prog 112=some true∧Abt Try.prog 112=some 1∧AcM Try.prog 112=some [AV.lst true true []]∧Ab6 Try.prog 112=some (AV.agg [AV.lst true true []])∧AdA Try.prog 112=true:=by and_intros <;> kernel_rfl
@[simp] theorem AtZ : AdE Try.prog 118=some true∧Abt Try.prog 118=some 5∧AcM Try.prog 118=some [AV.int .i64 0,AV.int .i64 0,AV.int .i64 0,AV.int .i64 0,AV.int .i64 0]∧Aei Try.prog 118=some (5,1)∧Ab6 Try.prog 118=some (AV.agg [AV.int .i64 0,AV.int .i64 0,AV.int .i64 0,AV.int .i64 0,AV.int .i64 0])∧AdA Try.prog 118=true∧Am7 Try.prog 118=some (5,AcI.int .i64):=by and_intros <;> kernel_rfl
@[simp] theorem AtY : AdE Try.prog 121=some true∧Abt Try.prog 121=some 2∧AcM Try.prog 121=some [AV.lst true true [],AV.bool false]∧Ab6 Try.prog 121=some (AV.agg [AV.lst true true [],AV.bool false])∧AdA Try.prog 121=true:=by and_intros <;> kernel_rfl
@[simp] theorem AtX : AbG Try.prog 41 0=some (0,1)∧AcT Try.prog 41 0=some 0∧Aco Try.prog 41 0=some (0,none)∧AbG Try.prog 41 1=some (1,1)∧AcT Try.prog 41 1=some 1∧Aco Try.prog 41 1=some (1,none):=by and_intros <;> kernel_rfl
@[simp] theorem AtW : AbG Try.prog 43 0=some (0,1)∧AcT Try.prog 43 0=some 0∧Aco Try.prog 43 0=some (0,none)∧AbG Try.prog 43 1=some (1,1)∧AcT Try.prog 43 1=some 1∧Aco Try.prog 43 1=some (1,none)∧AbG Try.prog 43 2=some (2,1)∧AcT Try.prog 43 2=some 2∧Aco Try.prog 43 2=some (2,none)∧AbG Try.prog 43 3=some (3,1)∧AcT Try.prog 43 3=some 3∧Aco Try.prog 43 3=some (3,none)∧AbG Try.prog 43 4=some (4,1)∧AcT Try.prog 43 4=some 4∧Aco Try.prog 43 4=some (4,none)∧AbG Try.prog 43 5=some (5,1)∧AcT Try.prog 43 5=some 5∧Aco Try.prog 43 5=some (5,none)∧AbG Try.prog 43 6=some (6,1)∧AcT Try.prog 43 6=some 6∧Aco Try.prog 43 6=some (6,none)∧AbG Try.prog 43 7=some (7,1)∧AcT Try.prog 43 7=some 7∧Aco Try.prog 43 7=some (7,none)∧AbG Try.prog 43 8=some (8,1)∧AcT Try.prog 43 8=some 8∧Aco Try.prog 43 8=some (8,none)∧AbG Try.prog 43 9=some (9,1)∧AcT Try.prog 43 9=some 9∧Aco Try.prog 43 9=some (9,none)∧AbG Try.prog 43 10=some (10,1)∧AcT Try.prog 43 10=some 10∧Aco Try.prog 43 10=some (10,none)∧AbG Try.prog 43 11=some (11,2)∧AcT Try.prog 43 11=some 11∧Aco Try.prog 43 11=some (11,some 2):=by and_intros <;> kernel_rfl
@[simp] theorem AtV : AbG Try.prog 56 0=some (0,1)∧AcT Try.prog 56 0=some 0∧Aco Try.prog 56 0=some (0,none)∧AbG Try.prog 56 1=some (1,1)∧AcT Try.prog 56 1=some 1∧Aco Try.prog 56 1=some (1,none)∧AbG Try.prog 56 2=some (2,1)∧AcT Try.prog 56 2=some 2∧Aco Try.prog 56 2=some (2,none):=by and_intros <;> kernel_rfl
@[simp] theorem AtU : AbG Try.prog 81 0=some (0,1)∧AcT Try.prog 81 0=some 0∧Aco Try.prog 81 0=some (0,none)∧AbG Try.prog 81 1=some (1,1)∧AcT Try.prog 81 1=some 1∧Aco Try.prog 81 1=some (1,none):=by and_intros <;> kernel_rfl
@[simp] theorem AtT : AbG Try.prog 97 0=some (0,1)∧AbG Try.prog 97 1=some (1,1)∧AbG Try.prog 97 2=some (2,1)∧AbG Try.prog 97 3=some (3,1)∧AbG Try.prog 97 4=some (4,1)∧AbG Try.prog 97 5=some (5,1)∧AbG Try.prog 97 6=some (6,1)∧AbG Try.prog 97 7=some (7,1):=by and_intros <;> kernel_rfl
@[simp] theorem AtS : AbG Try.prog 98 0=some (0,1)∧AbG Try.prog 98 1=some (1,1)∧AbG Try.prog 98 2=some (2,1)∧AbG Try.prog 98 3=some (3,1)∧AbG Try.prog 98 4=some (4,1)∧AbG Try.prog 98 5=some (5,1)∧AbG Try.prog 98 6=some (6,1)∧AbG Try.prog 98 7=some (7,1)∧AbG Try.prog 98 8=some (8,1)∧AbG Try.prog 98 9=some (9,1)∧AbG Try.prog 98 10=some (10,1)∧AbG Try.prog 98 11=some (11,1)∧AbG Try.prog 98 12=some (12,1)∧AbG Try.prog 98 13=some (13,1)∧AbG Try.prog 98 14=some (14,1)∧AbG Try.prog 98 15=some (15,1)∧AbG Try.prog 98 16=some (16,1)∧AbG Try.prog 98 17=some (17,1)∧AbG Try.prog 98 18=some (18,1)∧AbG Try.prog 98 19=some (19,1)∧AbG Try.prog 98 20=some (20,1)∧AbG Try.prog 98 21=some (21,1)∧AbG Try.prog 98 22=some (22,1)∧AbG Try.prog 98 23=some (23,1)∧AbG Try.prog 98 24=some (24,1)∧AbG Try.prog 98 25=some (25,1)∧AbG Try.prog 98 26=some (26,1)∧AbG Try.prog 98 27=some (27,1)∧AbG Try.prog 98 28=some (28,1)∧AbG Try.prog 98 29=some (29,1)∧AbG Try.prog 98 30=some (30,1)∧AbG Try.prog 98 31=some (31,1)∧AbG Try.prog 98 32=some (32,1)∧AbG Try.prog 98 33=some (33,1)∧AbG Try.prog 98 34=some (34,1)∧AbG Try.prog 98 35=some (35,1)∧AbG Try.prog 98 36=some (36,1)∧AbG Try.prog 98 37=some (37,1)∧AbG Try.prog 98 38=some (38,1)∧AbG Try.prog 98 39=some (39,1):=by and_intros <;> kernel_rfl
@[simp] theorem AtR : AbG Try.prog 98 40=some (40,1)∧AbG Try.prog 98 41=some (41,1)∧AbG Try.prog 98 42=some (42,1)∧AbG Try.prog 98 43=some (43,1)∧AbG Try.prog 98 44=some (44,1)∧AbG Try.prog 98 45=some (45,1)∧AbG Try.prog 98 46=some (46,1)∧AbG Try.prog 98 47=some (47,1)∧AbG Try.prog 98 48=some (48,1)∧AbG Try.prog 98 49=some (49,1)∧AbG Try.prog 98 50=some (50,1)∧AbG Try.prog 98 51=some (51,1)∧AbG Try.prog 98 52=some (52,1)∧AbG Try.prog 98 53=some (53,1)∧AbG Try.prog 98 54=some (54,1)∧AbG Try.prog 98 55=some (55,1)∧AbG Try.prog 98 56=some (56,1)∧AbG Try.prog 98 57=some (57,1)∧AbG Try.prog 98 58=some (58,1)∧AbG Try.prog 98 59=some (59,1)∧AbG Try.prog 98 60=some (60,1)∧AbG Try.prog 98 61=some (61,1)∧AbG Try.prog 98 62=some (62,1)∧AbG Try.prog 98 63=some (63,1):=by and_intros <;> kernel_rfl
@[simp] theorem AtQ : AbG Try.prog 112 0=some (0,1)∧AcT Try.prog 112 0=some 0∧Aco Try.prog 112 0=some (0,none):=by and_intros <;> kernel_rfl
@[simp] theorem AtP : AbG Try.prog 118 0=some (0,1)∧AbG Try.prog 118 1=some (1,1)∧AbG Try.prog 118 2=some (2,1)∧AbG Try.prog 118 3=some (3,1)∧AbG Try.prog 118 4=some (4,1):=by and_intros <;> kernel_rfl
@[simp] theorem AtO : AbG Try.prog 121 0=some (0,1)∧AcT Try.prog 121 0=some 0∧Aco Try.prog 121 0=some (0,none)∧AbG Try.prog 121 1=some (1,1)∧AcT Try.prog 121 1=some 1∧Aco Try.prog 121 1=some (1,none):=by and_intros <;> kernel_rfl
@[simp] theorem c0 : AaY Try.prog 6=true∧AaY Try.prog 19=true∧AaY Try.prog 20=true∧AaY Try.prog 21=true∧AaY Try.prog 22=true∧AaY Try.prog 23=true∧AaY Try.prog 24=true∧AaY Try.prog 25=true∧AaY Try.prog 26=true∧AaY Try.prog 27=true∧AaY Try.prog 28=true∧AaY Try.prog 29=true∧AaY Try.prog 30=true∧AaY Try.prog 31=true∧AaY Try.prog 34=true∧AaY Try.prog 44=true∧AaY Try.prog 46=true∧AaY Try.prog 47=true∧AaY Try.prog 48=true∧AaY Try.prog 49=true∧AaY Try.prog 50=true∧AaY Try.prog 51=true∧AaY Try.prog 52=true∧AaY Try.prog 53=true∧AaY Try.prog 54=true∧AaY Try.prog 55=true∧AaY Try.prog 56=true∧AaY Try.prog 57=true∧AaY Try.prog 58=true∧AaY Try.prog 59=true:=by and_intros <;> kernel_rfl
@[simp] theorem c30 : AaY Try.prog 60=true∧AaY Try.prog 61=true∧AaY Try.prog 62=true∧AaY Try.prog 63=true∧AaY Try.prog 65=true∧AaY Try.prog 70=true∧AaY Try.prog 76=true∧AaY Try.prog 77=true∧AaY Try.prog 79=true∧AaY Try.prog 80=true∧AaY Try.prog 81=true∧AaY Try.prog 82=true∧AaY Try.prog 83=true∧AaY Try.prog 84=true∧AaY Try.prog 85=true∧AaY Try.prog 86=true∧AaY Try.prog 87=true∧AaY Try.prog 88=true∧AaY Try.prog 89=true∧AaY Try.prog 90=true∧AaY Try.prog 91=true∧AaY Try.prog 92=true∧AaY Try.prog 93=true∧AaY Try.prog 94=true∧AaY Try.prog 95=true∧AaY Try.prog 96=true∧AaY Try.prog 97=true∧AaY Try.prog 98=true∧AaY Try.prog 99=true∧AaY Try.prog 100=true:=by and_intros <;> kernel_rfl
@[simp] theorem c60 : AaY Try.prog 101=true∧AaY Try.prog 102=true∧AaY Try.prog 103=true∧AaY Try.prog 104=true∧AaY Try.prog 105=true∧AaY Try.prog 111=true∧AaY Try.prog 112=true∧AaY Try.prog 113=true∧AaY Try.prog 114=true∧AaY Try.prog 115=true∧AaY Try.prog 116=true∧AaY Try.prog 117=true∧AaY Try.prog 118=true∧AaY Try.prog 119=true∧AaY Try.prog 120=true∧AaY Try.prog 124=true∧AaY Try.prog 125=true∧AaY Try.prog 126=true∧AaY Try.prog 127=true:=by and_intros <;> kernel_rfl
def dlt {β : Type} : List (Nat×β)→List Nat→List (Nat×β)→List (Nat×β)
 | [],_,al=>al
 | p::l,dl,al=>if dl.contains p.1 then dlt l dl al else p::dlt l dl al
section
variable {n : Nat} {c0 : Cx} {w0 : World} {Q : Ac5} {N : Nat} {l0 l1 : List (Nat×AV)} {o0 o1 : List (Nat×Aan)} {Φ : Prop}
abbrev Kt (n : Nat) (c0 : Cx) (w0 : World) (y : Code) (Q : Ac5) (l0 : List (Nat×AV)) (o0 : List (Nat×Aan)) (K : (Nat→AV)→Aah→Nat→Prop) : Prop:=∀ s' H' N',AW Try.prog n c0 w0 y Q s' H' N'→K s' H' N'
theorem SR {id : Nat} {ops : List Oper} {draw : Bool} {y : Code} (mu : List Nat) (gs : List (Option (Nat×Bool)))
 (h : ∀ (G : Log→Prop) (K : (Nat→AV)→Aah→Nat→Prop),(∀ lg,(!draw||Adi ops lg)=true→G lg)→Kt n c0 w0 y Q l0 o0 K→Aej Try.prog mu ops gs (mkS l0) (mkH o0) N [] (fun s' H' N' lg=>G lg∧K s' H' N'))
 (hok : Af4 n ops gs=true:=by kernel_rfl) : AW Try.prog n c0 w0 (.seq (.region id ops.toArray draw) y) Q (mkS l0) (mkH o0) N:=AW.seqR Adh mu gs hok h
theorem TL {A : Prop} {G : Log→Prop} {c : Log→Bool} {y : Code} {K : (Nat→AV)→Aah→Nat→Prop} (F : Φ) (g : ∀ lg,c lg=true→G lg) (r : Kt n c0 w0 y Q l0 o0 K) (dl : List Nat) (al : List (Nat×AV)) (dh : List Nat) (ah : List (Nat×Aan)) (M : Nat) (k : AW Try.prog n c0 w0 y Q (mkS l1) (mkH o1) M)
 (e1 : dlt l0 dl al=l1:=by simp only [dlt,List.contains_cons,List.contains_nil,Nat.reduceBEq,Bool.or_false,Bool.or_true,Bool.or_self,Bool.false_eq_true,reduceIte] <;> rfl) (e2 : dlt o0 dh ah=o1:=by simp only [dlt,List.contains_cons,List.contains_nil,Nat.reduceBEq,Bool.or_false,Bool.or_true,Bool.or_self,Bool.false_eq_true,reduceIte] <;> rfl)
 (h : Φ→(∀ lg,c lg=true→G lg)→(∀ s' H' N',(∀ p ∈ l1,s' p.1=p.2)→(∀ p ∈ o1,H' p.1=some p.2)→N'≤M→K s' H' N')→A:=by intro F g r; try simp [F]; and_intros <;> first | exact g _ (by kernel_rfl) | exact r _ _ _ (by simp [F]) (by simp [F]) (by simp) | omega | (simp [F,maxLen] <;> omega)) : A :=
 h F g fun _ _ _ h1 h2 h3=>r _ _ _ (WK l1 o1 M h1 h2 k h3)
theorem SW {id : Nat} {ops : List Oper} {draw : Bool} {y : Code} (F : Φ) (mu : List Nat) (gs : List (Option (Nat×Bool))) (dl : List Nat) (al : List (Nat×AV)) (dh : List Nat) (ah : List (Nat×Aan)) (M : Nat) (k : AW Try.prog n c0 w0 y Q (mkS l1) (mkH o1) M)
 (e1 : dlt l0 dl al=l1:=by simp only [dlt,List.contains_cons,List.contains_nil,Nat.reduceBEq,Bool.or_false,Bool.or_true,Bool.or_self,Bool.false_eq_true,reduceIte] <;> rfl) (e2 : dlt o0 dh ah=o1:=by simp only [dlt,List.contains_cons,List.contains_nil,Nat.reduceBEq,Bool.or_false,Bool.or_true,Bool.or_self,Bool.false_eq_true,reduceIte] <;> rfl)
 (h : ∀ (G : Log→Prop) (K : (Nat→AV)→Aah→Nat→Prop),Φ→(∀ lg,(!draw||Adi ops lg)=true→G lg)→(∀ s' H' N',(∀ p ∈ l1,s' p.1=p.2)→(∀ p ∈ o1,H' p.1=some p.2)→N'≤M→K s' H' N')→Aej Try.prog mu ops gs (mkS l0) (mkH o0) N [] (fun s' H' N' lg=>G lg∧K s' H' N'):=by intro G K F g r; try simp [F]; and_intros <;> first | exact g _ (by kernel_rfl) | exact r _ _ _ (by simp [F]) (by simp [F]) (by simp) | omega | (simp [F,maxLen] <;> omega))
 (hok : Af4 n ops gs=true:=by kernel_rfl) : AW Try.prog n c0 w0 (.seq (.region id ops.toArray draw) y) Q (mkS l0) (mkH o0) N :=
 SQ mu gs (fun G K g r=>h G K F g fun _ _ _ h1 h2 h3=>r _ _ _ (WK l1 o1 M h1 h2 k h3)) hok
theorem CL {id : Nat} {ops : List Oper} {draw : Bool} {y : Code} {Ψ : Prop} (F : Φ) (mu : List Nat) (gs : List (Option (Nat×Bool))) (hc : Ψ) (dl : List Nat) (al : List (Nat×AV)) (dh : List Nat) (ah : List (Nat×Aan)) (M : Nat) (k : AW Try.prog n c0 w0 y Q (mkS l1) (mkH o1) M)
 (e1 : dlt l0 dl al=l1:=by simp only [dlt,List.contains_cons,List.contains_nil,Nat.reduceBEq,Bool.or_false,Bool.or_true,Bool.or_self,Bool.false_eq_true,reduceIte] <;> rfl) (e2 : dlt o0 dh ah=o1:=by simp only [dlt,List.contains_cons,List.contains_nil,Nat.reduceBEq,Bool.or_false,Bool.or_true,Bool.or_self,Bool.false_eq_true,reduceIte] <;> rfl)
 (h : ∀ (G : Log→Prop) (K : (Nat→AV)→Aah→Nat→Prop),Φ→Ψ→(∀ lg,(!draw||Adi ops lg)=true→G lg)→(∀ s' H' N',(∀ p ∈ l1,s' p.1=p.2)→(∀ p ∈ o1,H' p.1=some p.2)→N'≤M→K s' H' N')→Aej Try.prog mu ops gs (mkS l0) (mkH o0) N [] (fun s' H' N' lg=>G lg∧K s' H' N'):=by intro G K F hc g r; try simp [F]; and_intros; (try any_goals (first | omega | (simp [F,maxLen] <;> omega))); refine AC hc (by first | exact .nil | (repeat' first | exact .nil | refine .cons (.same (by simp [F])) ?_)) ?_; try simp [F]; and_intros <;> first | exact g _ (by kernel_rfl) | exact r _ _ _ (by simp [F]) (by simp [F]) (by simp) | omega | (simp [F,maxLen] <;> omega))
 (hok : Af4 n ops gs=true:=by kernel_rfl) : AW Try.prog n c0 w0 (.seq (.region id ops.toArray draw) y) Q (mkS l0) (mkH o0) N :=
 SQ mu gs (fun G K g r=>h G K F hc g fun _ _ _ h1 h2 h3=>r _ _ _ (WK l1 o1 M h1 h2 k h3)) hok
end
end Go.Proofs.YtomgdcnbceiggaaSmT
namespace Go.TF
open Go Go.Abs
end Go.TF
