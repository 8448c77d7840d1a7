import Derived.Test.YtomgdcnbceiggaaBazLay26
import Derived.Test.YtomgdcnbceiggaaBazLay22
import Derived.Test.YtomgdcnbceiggaaProg
import Derived.KernelRfl
set_option linter.unusedVariables false
set_option maxRecDepth 100000
namespace Go.TF
open Go Go.Abs
abbrev Iz (n : Int) : AV := .int .i64 n
abbrev Lz (l : List Int) : AV := .lst false false (l.map (.int .i64))
abbrev Lb (l : List Int) : AV := .lst false false (l.map (.int .u8))
abbrev Lw (l : List Int) : AV := .lst false false (l.map (.int .u32))
structure AbD where
  From : Int
  To : Int
  Level : Int
@[simp] def AbD.av (x : AbD) : AV:=AV.agg [AV.int .i64 x.From,AV.int .i64 x.To,AV.int .i64 x.Level]
@[simp] theorem AbD.okEls (l : List AbD) : okEls 3 (l.map AbD.av)↔True:=iff_true_intro (Acy.2 fun x hx=>by
  simp only [List.mem_map] at hx
  obtain ⟨b,_,rfl⟩:=hx
  simp)
@[simp] theorem AbD.ids (S : Nat→Prop) (l : List AbD) : AbH S (l.map AbD.av)↔True:=iff_true_intro (AjR (by simp) l)
def Ad9 (k : Nat) (v0 : (List Int)) : Option Bool :=
  some (decide ((v0.length : Int)≤400))
def Aco (k : Nat) (v0 : Int) : Option Bool :=
  if 0≤v0 then
    some (decide (v0<4294967296))
  else
    some false
def Ad3 (k : Nat) (v0 : Int) : Option Bool :=
  Aba (Aco k v0) fun v2 =>
  some (!v2)
def AaZ.L1 (k : Nat) (v0 : (List Int)) : Nat→Int→Option Int
  | 0,_=>none
  | n+1,v2 =>
    if v2<(v0.length : Int) then
      idx v0 v2 fun v3 =>
      Aba (Ad3 k v3) fun v4 =>
      if v4=true then
        some v2
      else
        AaZ.L1 k v0 n (IntKind.wrap .i64 (v2+1))
    else
      some (-1)
def AaZ (k : Nat) (v0 : (List Int)) : Option Int :=
  AaZ.L1 k v0 k 0
def AbN (k : Nat) (v0 : (List Int)) : Option Bool :=
  Aba (AaZ k v0) fun v2 =>
  some (decide (0≤v2))
def Ab4.L1 (k : Nat) (v0 : (List Int)) (v1 : Int) : Nat→Int→Int→Option (Int×Int)
  | 0,_,_=>none
  | n+1,v5,v6 =>
    if v6<(v0.length : Int) then
      idx v0 v6 fun v7 =>
      Ab4.L1 k v0 v1 n (IntKind.wrap .i64 (v5+v7)) (IntKind.wrap .i64 (v6+1))
    else
      chk (v1≠(0 : Int)) <|
      some (Int.tmod v5 v1,0)
def Ab4 (k : Nat) (v0 : (List Int)) (v1 : Int) : Option (Int×Int) :=
  if 64<(v0.length : Int) then
    some (0,3)
  else
    if v1<1 then
      some (0,2)
    else
      if 2147483648<v1 then
        some (0,2)
      else
        Aba (AbN k v0) fun v4 =>
        if v4=true then
          some (0,2)
        else
          Ab4.L1 k v0 v1 k 0 0
def Aa2.L2 (k : Nat) (v3 : Int) (v5 : Int) (kb1 : Int→(List Int)→Option (List Int)) : Nat→Int→(List Int)→Option (List Int)
  | 0,_,_=>none
  | n+1,v6,v7 =>
    if 0≤v6 then
      chk ((0 : Int)≤v6) <|
      chk ((v7.length+([IntKind.wrap .u8 (Int.fdiv (IntKind.wrap .u64 v5) (2 ^ (min v6.toNat 64)))] : List Int).length)*1≤140737488355328) <|
      Aa2.L2 k v3 v5 kb1 n (IntKind.wrap .i64 (v6-8)) (v7++([IntKind.wrap .u8 (Int.fdiv (IntKind.wrap .u64 v5) (2 ^ (min v6.toNat 64)))] : List Int))
    else
      kb1 (IntKind.wrap .i64 (v3+1)) v7
def Aa2.L1 (k : Nat) (v1 : (List Int)) : Nat→Int→(List Int)→Option (List Int)
  | 0,_,_=>none
  | n+1,v3,v4 =>
    if v3<(v1.length : Int) then
      idx v1 v3 fun v5 =>
      Aa2.L2 k v3 v5 (fun v3_ v4_=>Aa2.L1 k v1 n v3_ v4_) k 56 v4
    else
      some v4
def Aa2 (k : Nat) (v0 : (List Int)) (v1 : (List Int)) : Option (List Int) :=
  Aa2.L1 k v1 k 0 v0
def AeY (k : Nat) (v0 : (List Int)) (v1 : (List Int)) : Option (List Int) :=
  Aba (Aa2 k v0 ([(v1.length : Int)] : List Int)) fun v3 =>
  Aba (Aa2 k v3 v1) fun v4 =>
  some v4
def AaL.J1 (k : Nat) (v3 : (List Int)) : Option (List Int) :=
  some v3
def AaL.L3 (k : Nat) (v4 : Int) (v6 : Int) (kb2 : Int→(List Int)→Option (List Int)) : Nat→Int→(List Int)→Option (List Int)
  | 0,_,_=>none
  | n+1,v7,v8 =>
    if 0≤v7 then
      chk ((0 : Int)≤v7) <|
      chk ((v8.length+([IntKind.wrap .u8 (Int.fdiv (IntKind.wrap .u64 v6) (2 ^ (min v7.toNat 64)))] : List Int).length)*1≤140737488355328) <|
      AaL.L3 k v4 v6 kb2 n (IntKind.wrap .i64 (v7-8)) (v8++([IntKind.wrap .u8 (Int.fdiv (IntKind.wrap .u64 v6) (2 ^ (min v7.toNat 64)))] : List Int))
    else
      kb2 (IntKind.wrap .i64 (v4+1)) v8
def AaL.L2 (k : Nat) (v1 : (List Int)) : Nat→Int→(List Int)→Option (List Int)
  | 0,_,_=>none
  | n+1,v4,v5 =>
    if v4<(v1.length : Int) then
      idx v1 v4 fun v6 =>
      AaL.L3 k v4 v6 (fun v4_ v5_=>AaL.L2 k v1 n v4_ v5_) k 56 v5
    else
      AaL.J1 k v5
def AaL.L5 (k : Nat) (v9 : Int) (kb4 : Int→(List Int)→Option (List Int)) : Nat→Int→(List Int)→Option (List Int)
  | 0,_,_=>none
  | n+1,v10,v11 =>
    if 0≤v10 then
      chk ((0 : Int)≤v10) <|
      chk ((v11.length+([IntKind.wrap .u8 (Int.fdiv (IntKind.wrap .u64 v9) (2 ^ (min v10.toNat 64)))] : List Int).length)*1≤140737488355328) <|
      AaL.L5 k v9 kb4 n (IntKind.wrap .i64 (v10-8)) (v11++([IntKind.wrap .u8 (Int.fdiv (IntKind.wrap .u64 v9) (2 ^ (min v10.toNat 64)))] : List Int))
    else
      kb4 (IntKind.wrap .i64 (0+1)) v11
def AaL.P6 (k : Nat) (v0 : (List Int)) (v9 : Int) (kb4 : Int→(List Int)→Option (List Int)) : Nat→Option (List Int)
  | 0=>none
  | n+1 =>
    chk ((v0.length+([IntKind.wrap .u8 (Int.fdiv (IntKind.wrap .u64 v9) (2 ^ (56)))] : List Int).length)*1≤140737488355328) <|
    AaL.L5 k v9 kb4 n (IntKind.wrap .i64 (56-8)) (v0++([IntKind.wrap .u8 (Int.fdiv (IntKind.wrap .u64 v9) (2 ^ (56)))] : List Int))
def AaL.P4 (k : Nat) (v0 : (List Int)) (v1 : (List Int)) : Nat→Option (List Int)
  | 0=>none
  | n+1 =>
    if 0<(v1.length : Int) then
      idx v1 0 fun v9 =>
      AaL.P6 k v0 v9 (fun v4_ v5_=>AaL.L2 k v1 n v4_ v5_) k
    else
      AaL.J1 k v0
def AaL (k : Nat) (v0 : (List Int)) (v1 : (List Int)) : Option (List Int) :=
  AaL.P4 k v0 v1 k
def Acm (k : Nat) : Option (List Int) :=
  chk ((List.replicate 64 0).length=64∧([1116352408,1899447441,3049323471,3921009573,961987163,1508970993,2453635748,2870763221,3624381080,310598401,607225278,1426881987,1925078388,2162078206,2614888103,3248222580,3835390401,4022224774,264347078,604807628,770255983,1249150122,1555081692,1996064986,2554220882,2821834349,2952996808,3210313671,3336571891,3584528711,113926993,338241895,666307205,773529912,1294757372,1396182291,1695183700,1986661051,2177026350,2456956037,2730485921,2820302411,3259730800,3345764771,3516065817,3600352804,4094571909,275423344,430227734,506948616,659060556,883997877,958139571,1322822218,1537002063,1747873779,1955562222,2024104815,2227730452,2361852424,2428436474,2756734187,3204031479,3329325298] : List Int).length=64) <|
  chk (([1116352408,1899447441,3049323471,3921009573,961987163,1508970993,2453635748,2870763221,3624381080,310598401,607225278,1426881987,1925078388,2162078206,2614888103,3248222580,3835390401,4022224774,264347078,604807628,770255983,1249150122,1555081692,1996064986,2554220882,2821834349,2952996808,3210313671,3336571891,3584528711,113926993,338241895,666307205,773529912,1294757372,1396182291,1695183700,1986661051,2177026350,2456956037,2730485921,2820302411,3259730800,3345764771,3516065817,3600352804,4094571909,275423344,430227734,506948616,659060556,883997877,958139571,1322822218,1537002063,1747873779,1955562222,2024104815,2227730452,2361852424,2428436474,2756734187,3204031479,3329325298] : List Int).length=64) <|
  some ([1116352408,1899447441,3049323471,3921009573,961987163,1508970993,2453635748,2870763221,3624381080,310598401,607225278,1426881987,1925078388,2162078206,2614888103,3248222580,3835390401,4022224774,264347078,604807628,770255983,1249150122,1555081692,1996064986,2554220882,2821834349,2952996808,3210313671,3336571891,3584528711,113926993,338241895,666307205,773529912,1294757372,1396182291,1695183700,1986661051,2177026350,2456956037,2730485921,2820302411,3259730800,3345764771,3516065817,3600352804,4094571909,275423344,430227734,506948616,659060556,883997877,958139571,1322822218,1537002063,1747873779,1955562222,2024104815,2227730452,2361852424,2428436474,2756734187,3204031479,3329325298] : List Int)
def Aaa (k : Nat) (v0 : Int) (v1 : Int) : Option Int :=
  chk ((0 : Int)≤AaF .and .u64 (IntKind.wrap .u64 v1) 31) <|
  chk ((0 : Int)≤IntKind.wrap .u64 (32-AaF .and .u64 (IntKind.wrap .u64 v1) 31)) <|
  some (AaF .or .u32 (IntKind.wrap .u32 (v0*2 ^ (min ((AaF .and .u64 (IntKind.wrap .u64 v1) 31).toNat) 32))) (Int.fdiv v0 (2 ^ (min ((IntKind.wrap .u64 (32-AaF .and .u64 (IntKind.wrap .u64 v1) 31)).toNat) 32))))
def AaI (k : Nat) (v0 : Int) (v1 : Int) : Option Int :=
  Aba (Aaa k v0 (IntKind.wrap .i64 (-v1))) fun v3 =>
  some v3
def AaG.L4 (k : Nat) (v21 : (List Int)) : Nat→Int→(List Int)→Option (List Int)
  | 0,_,_=>none
  | n+1,v38,v39 =>
    if v38<8 then
      chk ((0 : Int)≤v38∧v38<8∧(v38).toNat<v39.length) <|
      idx v39 v38 fun v40 =>
      chk ((0 : Int)≤v38∧v38<8∧(v38).toNat<v21.length) <|
      idx v21 v38 fun v41 =>
      chk ((0 : Int)≤v38∧v38<8∧(v38).toNat<v39.length) <|
      AaG.L4 k v21 n (IntKind.wrap .i64 (v38+1)) (v39.set (v38).toNat (IntKind.wrap .u32 (v40+v41)))
    else
      some v39
def AaG.L3 (k : Nat) (v0 : (List Int)) (v2 : (List Int)) (v11 : (List Int)) : Nat→Int→(List Int)→Option (List Int)
  | 0,_,_=>none
  | n+1,v20,v21 =>
    if v20<64 then
      chk ((0 : Int)≤0∧0<8∧(0 : Int).toNat<v21.length) <|
      idx v21 (0 : Int) fun v22 =>
      chk ((0 : Int)≤4∧4<8∧(4 : Int).toNat<v21.length) <|
      idx v21 (4 : Int) fun v23 =>
      chk ((0 : Int)≤7∧7<8∧(7 : Int).toNat<v21.length) <|
      idx v21 (7 : Int) fun v24 =>
      Aba (AaI k v23 6) fun v25 =>
      Aba (AaI k v23 11) fun v26 =>
      Aba (AaI k v23 25) fun v27 =>
      chk ((0 : Int)≤5∧5<8∧(5 : Int).toNat<v21.length) <|
      idx v21 (5 : Int) fun v28 =>
      chk ((0 : Int)≤6∧6<8∧(6 : Int).toNat<v21.length) <|
      idx v21 (6 : Int) fun v29 =>
      chk ((0 : Int)≤v20∧v20<64∧(v20).toNat<v2.length) <|
      idx v2 v20 fun v30 =>
      chk ((0 : Int)≤v20∧v20<64∧(v20).toNat<v11.length) <|
      idx v11 v20 fun v31 =>
      Aba (AaI k v22 2) fun v32 =>
      Aba (AaI k v22 13) fun v33 =>
      Aba (AaI k v22 22) fun v34 =>
      chk ((0 : Int)≤1∧1<8∧(1 : Int).toNat<v21.length) <|
      idx v21 (1 : Int) fun v35 =>
      chk ((0 : Int)≤2∧2<8∧(2 : Int).toNat<v21.length) <|
      idx v21 (2 : Int) fun v36 =>
      chk ((0 : Int)≤1∧1<8∧(1 : Int).toNat<v21.length) <|
      chk ((0 : Int)≤2∧2<8∧(2 : Int).toNat<v21.length) <|
      chk ((0 : Int)≤0∧0<8∧(0 : Int).toNat<v21.length) <|
      chk ((0 : Int)≤1∧1<8∧(1 : Int).toNat<v21.length) <|
      chk ((0 : Int)≤2∧2<8∧(2 : Int).toNat<v21.length) <|
      chk ((0 : Int)≤3∧3<8∧(3 : Int).toNat<v21.length) <|
      idx v21 (3 : Int) fun v37 =>
      chk ((0 : Int)≤4∧4<8∧(4 : Int).toNat<v21.length) <|
      chk ((0 : Int)≤5∧5<8∧(5 : Int).toNat<v21.length) <|
      chk ((0 : Int)≤6∧6<8∧(6 : Int).toNat<v21.length) <|
      chk (v21.length=8∧([IntKind.wrap .u32 (IntKind.wrap .u32 (IntKind.wrap .u32 (IntKind.wrap .u32 (IntKind.wrap .u32 (v24+AaF .xor .u32 (AaF .xor .u32 v25 v26) v27)+AaF .xor .u32 (AaF .and .u32 v23 v28) (AaF .and .u32 (AaF .xor .u32 (IntKind.max .u32) v23) v29))+v30)+v31)+IntKind.wrap .u32 (AaF .xor .u32 (AaF .xor .u32 v32 v33) v34+AaF .xor .u32 (AaF .xor .u32 (AaF .and .u32 v22 v35) (AaF .and .u32 v22 v36)) (AaF .and .u32 v35 v36))),v22,v35,v36,IntKind.wrap .u32 (v37+IntKind.wrap .u32 (IntKind.wrap .u32 (IntKind.wrap .u32 (IntKind.wrap .u32 (v24+AaF .xor .u32 (AaF .xor .u32 v25 v26) v27)+AaF .xor .u32 (AaF .and .u32 v23 v28) (AaF .and .u32 (AaF .xor .u32 (IntKind.max .u32) v23) v29))+v30)+v31)),v23,v28,v29] : List Int).length=8) <|
      AaG.L3 k v0 v2 v11 n (IntKind.wrap .i64 (v20+1)) ([IntKind.wrap .u32 (IntKind.wrap .u32 (IntKind.wrap .u32 (IntKind.wrap .u32 (IntKind.wrap .u32 (v24+AaF .xor .u32 (AaF .xor .u32 v25 v26) v27)+AaF .xor .u32 (AaF .and .u32 v23 v28) (AaF .and .u32 (AaF .xor .u32 (IntKind.max .u32) v23) v29))+v30)+v31)+IntKind.wrap .u32 (AaF .xor .u32 (AaF .xor .u32 v32 v33) v34+AaF .xor .u32 (AaF .xor .u32 (AaF .and .u32 v22 v35) (AaF .and .u32 v22 v36)) (AaF .and .u32 v35 v36))),v22,v35,v36,IntKind.wrap .u32 (v37+IntKind.wrap .u32 (IntKind.wrap .u32 (IntKind.wrap .u32 (IntKind.wrap .u32 (v24+AaF .xor .u32 (AaF .xor .u32 v25 v26) v27)+AaF .xor .u32 (AaF .and .u32 v23 v28) (AaF .and .u32 (AaF .xor .u32 (IntKind.max .u32) v23) v29))+v30)+v31)),v23,v28,v29] : List Int)
    else
      AaG.L4 k v21 k 0 v0
def AaG.L2 (k : Nat) (v0 : (List Int)) (v2 : (List Int)) : Nat→Int→(List Int)→Option (List Int)
  | 0,_,_=>none
  | n+1,v10,v11 =>
    if v10<64 then
      chk ((0 : Int)≤(IntKind.wrap .i64 (v10-15))∧(IntKind.wrap .i64 (v10-15))<64∧(IntKind.wrap .i64 (v10-15)).toNat<v11.length) <|
      idx v11 (IntKind.wrap .i64 (v10-15)) fun v12 =>
      chk ((0 : Int)≤(IntKind.wrap .i64 (v10-2))∧(IntKind.wrap .i64 (v10-2))<64∧(IntKind.wrap .i64 (v10-2)).toNat<v11.length) <|
      idx v11 (IntKind.wrap .i64 (v10-2)) fun v13 =>
      chk ((0 : Int)≤(IntKind.wrap .i64 (v10-16))∧(IntKind.wrap .i64 (v10-16))<64∧(IntKind.wrap .i64 (v10-16)).toNat<v11.length) <|
      idx v11 (IntKind.wrap .i64 (v10-16)) fun v14 =>
      Aba (AaI k v12 7) fun v15 =>
      Aba (AaI k v12 18) fun v16 =>
      chk ((0 : Int)≤(IntKind.wrap .i64 (v10-7))∧(IntKind.wrap .i64 (v10-7))<64∧(IntKind.wrap .i64 (v10-7)).toNat<v11.length) <|
      idx v11 (IntKind.wrap .i64 (v10-7)) fun v17 =>
      Aba (AaI k v13 17) fun v18 =>
      Aba (AaI k v13 19) fun v19 =>
      chk ((0 : Int)≤v10∧v10<64∧(v10).toNat<v11.length) <|
      AaG.L2 k v0 v2 n (IntKind.wrap .i64 (v10+1)) (v11.set (v10).toNat (IntKind.wrap .u32 (IntKind.wrap .u32 (IntKind.wrap .u32 (v14+AaF .xor .u32 (AaF .xor .u32 v15 v16) (Int.fdiv v12 (2 ^ (3))))+v17)+AaF .xor .u32 (AaF .xor .u32 v18 v19) (Int.fdiv v13 (2 ^ (10))))))
    else
      chk (v0.length=8) <|
      chk ((List.replicate 8 0).length=8∧v0.length=8) <|
      AaG.L3 k v0 v2 v11 k 0 v0
def AaG.L1 (k : Nat) (v0 : (List Int)) (v1 : (List Int)) (v2 : (List Int)) : Nat→Int→(List Int)→Option (List Int)
  | 0,_,_=>none
  | n+1,v4,v5 =>
    if v4<16 then
      idx v1 (IntKind.wrap .i64 (4*v4)) fun v6 =>
      idx v1 (IntKind.wrap .i64 (IntKind.wrap .i64 (4*v4)+1)) fun v7 =>
      idx v1 (IntKind.wrap .i64 (IntKind.wrap .i64 (4*v4)+2)) fun v8 =>
      idx v1 (IntKind.wrap .i64 (IntKind.wrap .i64 (4*v4)+3)) fun v9 =>
      chk ((0 : Int)≤v4∧v4<64∧(v4).toNat<v5.length) <|
      AaG.L1 k v0 v1 v2 n (IntKind.wrap .i64 (v4+1)) (v5.set (v4).toNat (AaF .or .u32 (AaF .or .u32 (AaF .or .u32 (IntKind.wrap .u32 ((IntKind.wrap .u32 v6)*2 ^ (24))) (IntKind.wrap .u32 ((IntKind.wrap .u32 v7)*2 ^ (16)))) (IntKind.wrap .u32 ((IntKind.wrap .u32 v8)*2 ^ (8)))) (IntKind.wrap .u32 v9)))
    else
      AaG.L2 k v0 v2 k 16 v5
def AaG (k : Nat) (v0 : (List Int)) (v1 : (List Int)) (v2 : (List Int)) : Option (List Int) :=
  AaG.L1 k v0 v1 v2 k 0 (List.replicate 64 0)
def AaW.L4 (k : Nat) (v7 : (List Int)) : Nat→Int→(List Int)→Option ByteArray
  | 0,_,_=>none
  | n+1,v9,v10 =>
    if v9<8 then
      chk (v9<8) <|
      idx v7 v9 fun v11 =>
      chk ((v10.length+([IntKind.wrap .u8 (Int.fdiv v11 (2 ^ (24))),IntKind.wrap .u8 (Int.fdiv v11 (2 ^ (16))),IntKind.wrap .u8 (Int.fdiv v11 (2 ^ (8))),IntKind.wrap .u8 v11] : List Int).length)*1≤140737488355328) <|
      AaW.L4 k v7 n (IntKind.wrap .i64 (v9+1)) (v10++([IntKind.wrap .u8 (Int.fdiv v11 (2 ^ (24))),IntKind.wrap .u8 (Int.fdiv v11 (2 ^ (16))),IntKind.wrap .u8 (Int.fdiv v11 (2 ^ (8))),IntKind.wrap .u8 v11] : List Int))
    else
      some (ofI v10)
def AaW.L3 (k : Nat) (v5 : (List Int)) : Nat→(List Int)→(List Int)→Option ByteArray
  | 0,_,_=>none
  | n+1,v6,v7 =>
    if 0<(v6.length : Int) then
      chk ((64 : Int)≤(v6.length : Int)) <|
      Aba (AaG k v7 (v6.take (64 : Int).toNat) v5) fun v8 =>
      chk ((64 : Int)≤(v6.length : Int)) <|
      AaW.L3 k v5 n (v6.drop (64 : Int).toNat) v8
    else
      chk (v7.length=8) <|
      AaW.L4 k v7 k 0 ([] : List Int)
def AaW.L2 (k : Nat) (v0 : (List Int)) : Nat→Int→(List Int)→Option ByteArray
  | 0,_,_=>none
  | n+1,v3,v4 =>
    if 0≤v3 then
      chk ((0 : Int)≤IntKind.wrap .u64 v3) <|
      chk ((v4.length+([IntKind.wrap .u8 (Int.fdiv (IntKind.wrap .u64 (IntKind.wrap .u64 (v0.length : Int)*8)) (2 ^ (min ((IntKind.wrap .u64 v3).toNat) 64)))] : List Int).length)*1≤140737488355328) <|
      AaW.L2 k v0 n (IntKind.wrap .i64 (v3-8)) (v4++([IntKind.wrap .u8 (Int.fdiv (IntKind.wrap .u64 (IntKind.wrap .u64 (v0.length : Int)*8)) (2 ^ (min ((IntKind.wrap .u64 v3).toNat) 64)))] : List Int))
    else
      Aba (Acm k) fun v5 =>
      chk ((List.replicate 8 0).length=8∧([1779033703,3144134277,1013904242,2773480762,1359893119,2600822924,528734635,1541459225] : List Int).length=8) <|
      chk ((List.replicate 64 0).length=64∧v5.length=64) <|
      AaW.L3 k v5 k v4 ([1779033703,3144134277,1013904242,2773480762,1359893119,2600822924,528734635,1541459225] : List Int)
def AaW.L1 (k : Nat) (v0 : (List Int)) : Nat→(List Int)→Option ByteArray
  | 0,_=>none
  | n+1,v2 =>
    if (Int.tmod (v2.length : Int) 64)≠56 then
      chk ((v2.length+([0] : List Int).length)*1≤140737488355328) <|
      AaW.L1 k v0 n (v2++([0] : List Int))
    else
      AaW.L2 k v0 k 56 v2
def AaW (k : Nat) (v0 : (List Int)) : Option ByteArray :=
  chk (v0.length*1≤140737488355328) <|
  chk ((v0.length+([128] : List Int).length)*1≤140737488355328) <|
  AaW.L1 k v0 k (v0++([128] : List Int))
def Aau.L2 (k : Nat) (v6 : Int) (v7 : (List Int)) (v9 : ByteArray) (kb1 : Int→(List Int)→Option ((List Int)×Int)) : Nat→Int→Int→Option ((List Int)×Int)
  | 0,_,_=>none
  | n+1,v10,v11 =>
    if v11<4 then
      idx (bI v9) v11 fun v12 =>
      Aau.L2 k v6 v7 v9 kb1 n (AaF .or .i64 (IntKind.wrap .i64 (v10*2 ^ (8))) (IntKind.wrap .i64 v12)) (IntKind.wrap .i64 (v11+1))
    else
      chk ((v7.length+([v10] : List Int).length)*8≤140737488355328) <|
      kb1 (IntKind.wrap .i64 (v6+1)) (v7++([v10] : List Int))
def Aau.L1 (k : Nat) (v2 : Int) (v5 : (List Int)) : Nat→Int→(List Int)→Option ((List Int)×Int)
  | 0,_,_=>none
  | n+1,v6,v7 =>
    if v6<v2 then
      chk ((0 : Int)≤(v5.length : Int)∧((v5.length : Int) : Int)≤(v5.length : Int)) <|
      Aba (AaL k (v5.take ((v5.length : Int)).toNat) ([v6] : List Int)) fun v8 =>
      Aba (AaW k v8) fun v9 =>
      Aau.L2 k v6 v7 v9 (fun v6_ v7_=>Aau.L1 k v2 v5 n v6_ v7_) k 0 0
    else
      some (v7,0)
def Aau (k : Nat) (v0 : ByteArray) (v1 : (List Int)) (v2 : Int) : Option ((List Int)×Int) :=
  if (v0.size : Int)≠32 then
    some (([] : List Int),1)
  else
    if 64<(v1.length : Int) then
      some (([] : List Int),3)
    else
      if v2<0 then
        some (([] : List Int),2)
      else
        if 64<v2 then
          some (([] : List Int),2)
        else
          Aba (AeY k (bI v0) v1) fun v5 =>
          Aau.L1 k v2 v5 k 0 ([] : List Int)
def Aap.L2 (k : Nat) (v2 : Int) (v4 : Int) (kb1 : Int→(List Int)→Option (List Int)) : Nat→Int→(List Int)→Option (List Int)
  | 0,_,_=>none
  | n+1,v5,v6 =>
    if 0≤v5 then
      chk ((0 : Int)≤v5) <|
      chk ((v6.length+([IntKind.wrap .u8 (Int.fdiv (IntKind.wrap .u64 v4) (2 ^ (min v5.toNat 64)))] : List Int).length)*1≤140737488355328) <|
      Aap.L2 k v2 v4 kb1 n (IntKind.wrap .i64 (v5-8)) (v6++([IntKind.wrap .u8 (Int.fdiv (IntKind.wrap .u64 v4) (2 ^ (min v5.toNat 64)))] : List Int))
    else
      kb1 (IntKind.wrap .i64 (v2+1)) v6
def Aap.L1 (k : Nat) (v0 : (List Int)) : Nat→Int→(List Int)→Option (List Int)
  | 0,_,_=>none
  | n+1,v2,v3 =>
    if v2<(v0.length : Int) then
      idx v0 v2 fun v4 =>
      Aap.L2 k v2 v4 (fun v2_ v3_=>Aap.L1 k v0 n v2_ v3_) k 56 v3
    else
      some v3
def Aap (k : Nat) (v0 : (List Int)) : Option (List Int) :=
  Aap.L1 k v0 k 0 ([] : List Int)
def Acp (k : Nat) (v0 : Int) (v1 : ByteArray) : Option (ByteArray×Int) :=
  Aba (Aco k v0) fun v4 =>
  if (!v4)=true then
    some ((ByteArray.mk #[]),2)
  else
    if 64<(v1.size : Int) then
      some ((ByteArray.mk #[]),3)
    else
      Aba (Aap k ([v0] : List Int)) fun v5 =>
      chk ((v5.length+(bI v1).length)*1≤140737488355328) <|
      Aba (AaW k (v5++(bI v1))) fun v6 =>
      some (v6,0)
def AdA (k : Nat) (v0 : ByteArray) (v1 : Int) (v2 : ByteArray) : Option Bool :=
  AeX (Acp k v1 v2) fun v4 v5 =>
  if v5=0 then
    some (Acj v4 v0)
  else
    some false
def AcF (k : Nat) : Option Bool :=
  AeX (Ab4 k ([5,6,7] : List Int) 4) fun v1 v2 =>
  chk ((0 : Int)≤32∧16*32≤281474976710656) <|
  AeX (Aau k (ofI (List.replicate (32 : Int).toNat (0 : Int))) ([] : List Int) 2) fun v3 v4 =>
  AeX (Acp k 7 (ByteArray.mk #[115,97,108,116])) fun v5 v6 =>
  if v2=0 then
    if v4=0 then
      if v6=0 then
        if v1=2 then
          if (v3.length : Int)=2 then
            idx v3 0 fun v7 =>
            idx v3 1 fun v8 =>
            if v7≠v8 then
              Aba (AdA k v5 7 (ByteArray.mk #[115,97,108,116])) fun v9 =>
              if v9=true then
                Aba (AdA k v5 8 (ByteArray.mk #[115,97,108,116])) fun v10 =>
                some (!v10)
              else
                some false
            else
              some false
          else
            some false
        else
          some false
      else
        some false
    else
      some false
  else
    some false
def Aft (k : Nat) (v0 : (List Int)) : Option ((List Int)×Int) :=
  some (v0,0)
def Aet (k : Nat) (v0 : (List Int)) : Option ((List Int)×Int) :=
  AeX (Aft k v0) fun v3 v4 =>
  some (v3,v4)
def AcM.J1 (k : Nat) (v3 : Int) : Option Int :=
  some v3
def AcM (k : Nat) (v0 : Int) (v1 : Int) : Option Int :=
  if v1<1 then
    some 0
  else
    chk (v1≠(0 : Int)) <|
    if Int.tmod v0 v1<0 then
      AcM.J1 k (IntKind.wrap .i64 (Int.tmod v0 v1+v1))
    else
      AcM.J1 k (Int.tmod v0 v1)
def AbF (k : Nat) (v0 : (List Int)) (v1 : Int) (v2 : Int) : Option (Int×Int) :=
  if (v0.length : Int)≤v1 then
    some (0,v1)
  else
    idx v0 (IntKind.wrap .i64 (IntKind.wrap .i64 (v1+1)-1)) fun v5 =>
    Aba (AcM k v5 v2) fun v6 =>
    some (v6,IntKind.wrap .i64 (v1+1))
def AbC (k : Nat) (v0 : (List Int)) (v1 : Int) (v2 : (List Int)) : Option (Int×Int) :=
  AeX (AbF k v0 v1 (v2.length : Int)) fun v5 v6 =>
  idx v2 v5 fun v7 =>
  some (v7,v6)
def AcN (k : Nat) (v0 : (List Int)) (v1 : Int) (v2 : Int) : Option (Bool×Int) :=
  AeX (AbF k v0 v1 v2) fun v5 v6 =>
  some ((v5==(IntKind.wrap .i64 (v2-1))),v6)
def AbS.J1 (k : Nat) (v10 : Int) (v12 : Int) (v14 : Int) (v16 : Int) (v18 : Int) (v20 : Int) (v22 : Int) (v24 : (List Int)) (v25 : Int) : Option ((List Int)×(List Int)×(List Int)×Int×Int×Int×Int×Int) :=
  chk ((0 : Int)≤0∧(0 : Int).toNat<([IntKind.wrap .i64 (1+v18),IntKind.wrap .i64 (1+v20)] : List Int).length) <|
  idx ([IntKind.wrap .i64 (1+v18),IntKind.wrap .i64 (1+v20)] : List Int) (0 : Int) fun v26 =>
  chk ((0 : Int)≤1∧(1 : Int).toNat<([IntKind.wrap .i64 (1+v18),IntKind.wrap .i64 (1+v20)] : List Int).length) <|
  idx ([IntKind.wrap .i64 (1+v18),IntKind.wrap .i64 (1+v20)] : List Int) (1 : Int) fun v27 =>
  ApN (if v27<v26 then v27 else v26) fun v28 =>
  chk ((0 : Int)≤1∧(1 : Int).toNat<([IntKind.wrap .i64 (1+v18),IntKind.wrap .i64 (1+v20)] : List Int).length) <|
  some (([0,1,2,3,4,5,6] : List Int).take (IntKind.wrap .i64 (2+v16)).toNat,v24,([IntKind.wrap .i64 (1+v18),IntKind.wrap .i64 (1+v20)] : List Int).set (1 : Int).toNat v28,v22,v10,v12,v14,v25)
def AbS (k : Nat) (v0 : (List Int)) (v1 : Int) : Option ((List Int)×(List Int)×(List Int)×Int×Int×Int×Int×Int) :=
  AeX (AbC k v0 v1 ([3,1,4,5,2] : List Int)) fun v10 v11 =>
  AeX (AbC k v0 v11 ([10,20,5,1] : List Int)) fun v12 v13 =>
  AeX (AbC k v0 v13 ([1,2,0,5] : List Int)) fun v14 v15 =>
  AeX (AbF k v0 v15 5) fun v16 v17 =>
  chk ((0 : Int)≤IntKind.wrap .i64 (2+v16)∧(IntKind.wrap .i64 (2+v16) : Int)≤(([0,1,2,3,4,5,6] : List Int).length : Int)) <|
  AeX (AbC k v0 v17 ([4,8,2] : List Int)) fun v18 v19 =>
  AeX (AbC k v0 v19 ([2,1,0] : List Int)) fun v20 v21 =>
  AeX (AbC k v0 v21 ([1,1,2] : List Int)) fun v22 v23 =>
  AeX (AcN k v0 v23 3) fun v29 v30 =>
  if v29=true then
    AbS.J1 k v10 v12 v14 v16 v18 v20 v22 ([0,1] : List Int) v30
  else
    AbS.J1 k v10 v12 v14 v16 v18 v20 v22 ([0] : List Int) v30
def AbK.J1 (k : Nat) (v17 : (List Int)) (v18 : (List Int)) (v19 : (List Int)) (v20 : Int) (v21 : Int) (v22 : Int) (v23 : Int) (v24 : Int) : Option ((List Int)×(List Int)×(List Int)×Int×Int×Int×Int×Int) :=
  some (v17,v18,v19,v20,v21,v22,v23,v24)
def AbK (k : Nat) (v0 : (List Int)) (v1 : Int) (v2 : (List Int)) (v3 : (List Int)) (v4 : (List Int)) (v5 : Int) (v6 : Int) (v7 : Int) (v8 : Int) : Option ((List Int)×(List Int)×(List Int)×Int×Int×Int×Int×Int) :=
  AeX (AbF k v0 v1 7) fun v25 v26 =>
  if v25=0 then
    AeX (AbF k v0 v26 5) fun v27 v28 =>
    if v27=0 then
      AbK.J1 k ([] : List Int) v3 v4 v5 v6 v7 v8 v28
    else
      if v27=1 then
        AbK.J1 k ([1,1] : List Int) v3 v4 v5 v6 v7 v8 v28
      else
        if v27=2 then
          AbK.J1 k ([-1] : List Int) v3 v4 v5 v6 v7 v8 v28
        else
          if v27=3 then
            AbK.J1 k ([64] : List Int) v3 v4 v5 v6 v7 v8 v28
          else
            if v27=4 then
              AbK.J1 k ([3,2] : List Int) v3 v4 v5 v6 v7 v8 v28
            else
              none
  else
    if v25=1 then
      AeX (AbC k v0 v26 ([0,-1,9,10] : List Int)) fun v29 v30 =>
      AbK.J1 k v2 v3 v4 v5 v29 v7 v8 v30
    else
      if v25=2 then
        AeX (AbC k v0 v26 ([0,-1,1000000,1000001] : List Int)) fun v31 v32 =>
        AbK.J1 k v2 v3 v4 v5 v6 v31 v8 v32
      else
        if v25=3 then
          AeX (AbC k v0 v26 ([-1,64,65] : List Int)) fun v33 v34 =>
          AbK.J1 k v2 v3 v4 v5 v6 v7 v33 v34
        else
          if v25=4 then
            AeX (AbF k v0 v26 3) fun v35 v36 =>
            if v35=0 then
              AbK.J1 k v2 ([] : List Int) v4 v5 v6 v7 v8 v36
            else
              if v35=1 then
                AbK.J1 k v2 ([64] : List Int) v4 v5 v6 v7 v8 v36
              else
                if v35=2 then
                  AbK.J1 k v2 ([1,0] : List Int) v4 v5 v6 v7 v8 v36
                else
                  none
          else
            if v25=5 then
              AeX (AbF k v0 v26 4) fun v37 v38 =>
              if v37=0 then
                AbK.J1 k v2 v3 ([] : List Int) v5 v6 v7 v8 v38
              else
                if v37=1 then
                  AbK.J1 k v2 v3 ([1,2] : List Int) v5 v6 v7 v8 v38
                else
                  if v37=2 then
                    AbK.J1 k v2 v3 ([0] : List Int) v5 v6 v7 v8 v38
                  else
                    if v37=3 then
                      AbK.J1 k v2 v3 ([1001] : List Int) v5 v6 v7 v8 v38
                    else
                      none
            else
              AeX (AbC k v0 v26 ([0,4,-1] : List Int)) fun v39 v40 =>
              AbK.J1 k v2 v3 v4 v39 v6 v7 v8 v40
def Acr (k : Nat) (v0 : Int) : Option Bool :=
  if 0≤v0 then
    some (decide (v0<64))
  else
    some false
def Aa8.J2 (k : Nat) (v2 : Int) (kb1 : Int→(List Bool)→Option (List Bool)) (v4 : (List Bool)) : Option (List Bool) :=
  kb1 (IntKind.wrap .i64 (v2+1)) v4
def Aa8.L1 (k : Nat) (v0 : (List Int)) : Nat→Int→(List Bool)→Option (List Bool)
  | 0,_,_=>none
  | n+1,v2,v3 =>
    if v2<(v0.length : Int) then
      idx v0 v2 fun v5 =>
      Aba (Acr k v5) fun v6 =>
      if v6=true then
        chk ((0 : Int)≤v5∧v5<64∧(v5).toNat<v3.length) <|
        Aa8.J2 k v2 (fun v2_ v3_=>Aa8.L1 k v0 n v2_ v3_) (v3.set (v5).toNat true)
      else
        Aa8.J2 k v2 (fun v2_ v3_=>Aa8.L1 k v0 n v2_ v3_) v3
    else
      chk (v3.length=64) <|
      chk ((List.replicate 64 false).length=64∧v3.length=64) <|
      chk (v3.length=64) <|
      some v3
def Aa8 (k : Nat) (v0 : (List Int)) : Option (List Bool) :=
  Aa8.L1 k v0 k 0 (List.replicate 64 false)
def Aao.J2 (k : Nat) (v2 : Int) (kb1 : Int→Option Bool) : Option Bool :=
  kb1 (IntKind.wrap .i64 (v2+1))
def Aao.L1 (k : Nat) (v0 : (List Int)) : Nat→Int→Option Bool
  | 0,_=>none
  | n+1,v2 =>
    if v2<(v0.length : Int) then
      idx v0 v2 fun v3 =>
      Aba (Acr k v3) fun v4 =>
      if (!v4)=true then
        some false
      else
        if 0<v2 then
          idx v0 (IntKind.wrap .i64 (v2-1)) fun v5 =>
          if v3≤v5 then
            some false
          else
            Aao.J2 k v2 (fun v2_=>Aao.L1 k v0 n v2_)
        else
          Aao.J2 k v2 (fun v2_=>Aao.L1 k v0 n v2_)
    else
      Aba (Aa8 k v0) fun v6 =>
      chk (v6.length=64) <|
      some (v6 !=(List.replicate 64 false))
def Aao (k : Nat) (v0 : (List Int)) : Option Bool :=
  Aao.L1 k v0 k 0
def AcC (k : Nat) (v0 : Int) (v1 : Int) (v2 : Int) : Option Bool :=
  if v1≤v0 then
    some (decide (v0≤v2))
  else
    some false
def Aak.J2 (k : Nat) (v4 : Int) (kb1 : Int→Option Bool) : Option Bool :=
  kb1 (IntKind.wrap .i64 (v4+1))
def Aak.L1 (k : Nat) (v0 : (List Int)) (v1 : Int) (v2 : Int) : Nat→Int→Option Bool
  | 0,_=>none
  | n+1,v4 =>
    if v4<(v0.length : Int) then
      idx v0 v4 fun v5 =>
      if v5<v1 then
        some false
      else
        if v2<v5 then
          some false
        else
          if 0<v4 then
            idx v0 (IntKind.wrap .i64 (v4-1)) fun v6 =>
            if v5≤v6 then
              some false
            else
              Aak.J2 k v4 (fun v4_=>Aak.L1 k v0 v1 v2 n v4_)
          else
            Aak.J2 k v4 (fun v4_=>Aak.L1 k v0 v1 v2 n v4_)
    else
      some true
def Aak (k : Nat) (v0 : (List Int)) (v1 : Int) (v2 : Int) : Option Bool :=
  Aak.L1 k v0 v1 v2 k 0
def Aa0.L1 (k : Nat) (v0 : (List Int)) (v1 : Int) : Nat→Int→Option Int
  | 0,_=>none
  | n+1,v3 =>
    if v3<(v0.length : Int) then
      idx v0 v3 fun v4 =>
      if v1=v4 then
        some v3
      else
        Aa0.L1 k v0 v1 n (IntKind.wrap .i64 (v3+1))
    else
      some (-1)
def Aa0 (k : Nat) (v0 : (List Int)) (v1 : Int) : Option Int :=
  Aa0.L1 k v0 v1 k 0
def Abb (k : Nat) (v0 : (List Int)) (v1 : Int) : Option Bool :=
  Aba (Aa0 k v0 v1) fun v3 =>
  some (decide (0≤v3))
def AfE (k : Nat) (v0 : Int) (v1 : (List AbD)) (v2 : (List Int)) (v3 : Int) (v4 : Int) (v5 : Int) : Option Bool :=
  Aba (AcC k v3 0 (IntKind.wrap .i64 (v0-1))) fun v7 =>
  if v7=true then
    Aba (AcC k v4 0 (IntKind.wrap .i64 (v0-1))) fun v8 =>
    if v8=true then
      if v3≠v4 then
        Aba (Abb k v2 v3) fun v9 =>
        if (!v9)=true then
          Aba (Abb k v2 v4) fun v10 =>
          some (!v10)
        else
          some false
      else
        some false
    else
      some false
  else
    some false
def Acn (k : Nat) (v0 : Int) : Option Bool :=
  some (v0 !=v0)
def AcO (k : Nat) (v0 : Int) (v1 : Int) : Option Int :=
  Aba (Acn k v0) fun v3 =>
  Aba (Acn k v1) fun v4 =>
  if v3=true then
    if v4=true then
      some 0
    else
      some (-1)
  else
    if v4=true then
      some 1
    else
      if v0<v1 then
        some (-1)
      else
        if v1<v0 then
          some 1
        else
          some 0
def Ab3.L1 (k : Nat) (v0 : (List Int)) : Nat→Int→Option Int
  | 0,_=>none
  | n+1,v2 =>
    if v2<(v0.length : Int) then
      idx v0 v2 fun v3 =>
      if v3≠0 then
        some v3
      else
        Ab3.L1 k v0 n (IntKind.wrap .i64 (v2+1))
    else
      some 0
def Ab3 (k : Nat) (v0 : (List Int)) : Option Int :=
  Ab3.L1 k v0 k 0
def AdY (k : Nat) (v0 : Int) (v1 : Int) (v2 : Int) (v3 : Int) (v4 : Int) (v5 : Int) : Option Int :=
  Aba (AcO k v0 v3) fun v7 =>
  Aba (AcO k v1 v4) fun v8 =>
  Aba (Ab3 k ([v7,v8] : List Int)) fun v9 =>
  some v9
def Aa3.J2 (k : Nat) (v6 : Int) (kb1 : Int→Option Int) : Option Int :=
  kb1 (IntKind.wrap .i64 (v6+1))
def Aa3.L1 (k : Nat) (v0 : Int) (v1 : (List AbD)) (v2 : (List Int)) : Nat→Int→Option Int
  | 0,_=>none
  | n+1,v6 =>
    if v6<(v1.length : Int) then
      idx v1 v6 fun v7 =>
      Aba (AfE k v0 v1 v2 v7.From v7.To v7.Level) fun v8 =>
      if (!v8)=true then
        some 14
      else
        Aba (AcC k v7.Level 1 3) fun v9 =>
        if (!v9)=true then
          some 14
        else
          if 0<v6 then
            idx v1 (IntKind.wrap .i64 (v6-1)) fun v10 =>
            Aba (AdY k v10.From v10.To v10.Level v7.From v7.To v7.Level) fun v11 =>
            if 0≤v11 then
              some 14
            else
              Aa3.J2 k v6 (fun v6_=>Aa3.L1 k v0 v1 v2 n v6_)
          else
            Aa3.J2 k v6 (fun v6_=>Aa3.L1 k v0 v1 v2 n v6_)
    else
      some 0
def Aa3 (k : Nat) (v0 : Int) (v1 : (List AbD)) (v2 : (List Int)) : Option Int :=
  Aba (AcC k v0 0 64) fun v4 =>
  if (!v4)=true then
    some 14
  else
    if 500<(v1.length : Int) then
      some 14
    else
      Aba (Aak k v2 0 (IntKind.wrap .i64 (v0-1))) fun v5 =>
      if (!v5)=true then
        some 14
      else
        Aa3.L1 k v0 v1 v2 k 0
def Aae.J2 (k : Nat) (v11 : Int) (kb1 : Int→Option Int) : Option Int :=
  kb1 (IntKind.wrap .i64 (v11+1))
def Aae.L1 (k : Nat) (v4 : (List Int)) : Nat→Int→Option Int
  | 0,_=>none
  | n+1,v11 =>
    if v11<(v4.length : Int) then
      idx v4 v11 fun v12 =>
      Aba (AcC k v12 1 1000) fun v13 =>
      if (!v13)=true then
        some 15
      else
        if 0<v11 then
          idx v4 (IntKind.wrap .i64 (v11-1)) fun v14 =>
          if v14<v12 then
            some 15
          else
            Aae.J2 k v11 (fun v11_=>Aae.L1 k v4 n v11_)
        else
          Aae.J2 k v11 (fun v11_=>Aae.L1 k v4 n v11_)
    else
      some 0
def Aae (k : Nat) (v0 : Int) (v1 : (List AbD)) (v2 : (List Int)) (v3 : (List Int)) (v4 : (List Int)) (v5 : Int) : Option Int :=
  Aba (Aa3 k v0 v1 v2) fun v7 =>
  if v7≠0 then
    some v7
  else
    if (v3.length : Int)=0 then
      some 15
    else
      Aba (Aak k v3 0 (IntKind.wrap .i64 (v0-1))) fun v8 =>
      if (!v8)=true then
        some 15
      else
        Aba (AcC k (v4.length : Int) 1 8) fun v9 =>
        if (!v9)=true then
          some 15
        else
          Aba (AcC k v5 1 3) fun v10 =>
          if (!v10)=true then
            some 15
          else
            Aae.L1 k v4 k 0
def Acd (k : Nat) (v0 : (List Int)) (v1 : (List Int)) (v2 : (List Int)) (v3 : Int) (v4 : Int) (v5 : Int) (v6 : Int) : Option Int :=
  Aba (Aao k v0) fun v8 =>
  if (!v8)=true then
    some 43
  else
    Aba (Aae k 64 ([] : List AbD) ([] : List Int) v1 v2 v3) fun v9 =>
    if v9≠0 then
      some v9
    else
      if v4<1 then
        some 40
      else
        if 9<v4 then
          some 40
        else
          if v5<1 then
            some 40
          else
            if 1000000<v5 then
              some 40
            else
              if v6<0 then
                some 40
              else
                if 64<v6 then
                  some 40
                else
                  some 0
def AaX.L2 (k : Nat) (v3 : Int) (v5 : Int) (kb1 : Int→(List Int)→Option (List Int)) : Nat→Int→(List Int)→Option (List Int)
  | 0,_,_=>none
  | n+1,v6,v7 =>
    if 0≤v6 then
      chk ((0 : Int)≤v6) <|
      chk ((v7.length+([IntKind.wrap .u8 (Int.fdiv (IntKind.wrap .u64 v5) (2 ^ (min v6.toNat 64)))] : List Int).length)*1≤140737488355328) <|
      AaX.L2 k v3 v5 kb1 n (IntKind.wrap .i64 (v6-8)) (v7++([IntKind.wrap .u8 (Int.fdiv (IntKind.wrap .u64 v5) (2 ^ (min v6.toNat 64)))] : List Int))
    else
      kb1 (IntKind.wrap .i64 (v3+1)) v7
def AaX.L1 (k : Nat) (v1 : (List Int)) : Nat→Int→(List Int)→Option (List Int)
  | 0,_,_=>none
  | n+1,v3,v4 =>
    if v3<(v1.length : Int) then
      idx v1 v3 fun v5 =>
      AaX.L2 k v3 v5 (fun v3_ v4_=>AaX.L1 k v1 n v3_ v4_) k 56 v4
    else
      some v4
def AaX (k : Nat) (v0 : (List Int)) (v1 : (List Int)) : Option (List Int) :=
  AaX.L1 k v1 k 0 v0
def AcA (k : Nat) (v0 : (List Int)) (v1 : (List Int)) : Option (List Int) :=
  Aba (AaX k v0 ([(v1.length : Int)] : List Int)) fun v3 =>
  Aba (AaX k v3 v1) fun v4 =>
  some v4
def Aay.L1 (k : Nat) (v0 : (List Int)) (v1 : (List Int)) (v2 : (List Int)) (v3 : Int) (v4 : Int) (v5 : Int) (v6 : Int) : Nat→Int→(List Int)→Option (ByteArray×Int)
  | 0,_,_=>none
  | n+1,v10,v11 =>
    if v10<(([v0,v1,v2,([v3,v4,v5,v6] : List Int)] : List (List Int)).length : Int) then
      idx ([v0,v1,v2,([v3,v4,v5,v6] : List Int)] : List (List Int)) v10 fun v12 =>
      Aba (AcA k v11 v12) fun v13 =>
      Aay.L1 k v0 v1 v2 v3 v4 v5 v6 n (IntKind.wrap .i64 (v10+1)) v13
    else
      Aba (AaW k v11) fun v14 =>
      some (v14,0)
def Aay (k : Nat) (v0 : (List Int)) (v1 : (List Int)) (v2 : (List Int)) (v3 : Int) (v4 : Int) (v5 : Int) (v6 : Int) : Option (ByteArray×Int) :=
  Aba (Acd k v0 v1 v2 v3 v4 v5 v6) fun v9 =>
  if v9≠0 then
    some ((ByteArray.mk #[]),v9)
  else
    chk ((([] : List Int).length+([116] : List Int).length)*1≤140737488355328) <|
    chk ((([116] : List Int).length+([114] : List Int).length)*1≤140737488355328) <|
    chk (((([116] : List Int)++([114] : List Int)).length+([117] : List Int).length)*1≤140737488355328) <|
    chk ((((([116] : List Int)++([114] : List Int))++([117] : List Int)).length+([115] : List Int).length)*1≤140737488355328) <|
    chk (((((([116] : List Int)++([114] : List Int))++([117] : List Int))++([115] : List Int)).length+([116] : List Int).length)*1≤140737488355328) <|
    chk ((((((([116] : List Int)++([114] : List Int))++([117] : List Int))++([115] : List Int))++([116] : List Int)).length+([102] : List Int).length)*1≤140737488355328) <|
    chk (((((((([116] : List Int)++([114] : List Int))++([117] : List Int))++([115] : List Int))++([116] : List Int))++([102] : List Int)).length+([108] : List Int).length)*1≤140737488355328) <|
    chk ((((((((([116] : List Int)++([114] : List Int))++([117] : List Int))++([115] : List Int))++([116] : List Int))++([102] : List Int))++([108] : List Int)).length+([111] : List Int).length)*1≤140737488355328) <|
    chk (((((((((([116] : List Int)++([114] : List Int))++([117] : List Int))++([115] : List Int))++([116] : List Int))++([102] : List Int))++([108] : List Int))++([111] : List Int)).length+([119] : List Int).length)*1≤140737488355328) <|
    Aay.L1 k v0 v1 v2 v3 v4 v5 v6 k 0 ((((((((([116] : List Int)++([114] : List Int))++([117] : List Int))++([115] : List Int))++([116] : List Int))++([102] : List Int))++([108] : List Int))++([111] : List Int))++([119] : List Int))
def Aaw.J2 (k : Nat) (v2 : Int) (kb1 : Int→Option Bool) : Option Bool :=
  kb1 (IntKind.wrap .i64 (v2+1))
def Aaw.L1 (k : Nat) (v0 : (List Int)) : Nat→Int→Option Bool
  | 0,_=>none
  | n+1,v2 =>
    if v2<(v0.length : Int) then
      idx v0 v2 fun v3 =>
      if v3<0 then
        some false
      else
        if 64≤v3 then
          some false
        else
          if 0<v2 then
            idx v0 (IntKind.wrap .i64 (v2-1)) fun v4 =>
            if v3≤v4 then
              some false
            else
              Aaw.J2 k v2 (fun v2_=>Aaw.L1 k v0 n v2_)
          else
            Aaw.J2 k v2 (fun v2_=>Aaw.L1 k v0 n v2_)
    else
      some true
def Aaw (k : Nat) (v0 : (List Int)) : Option Bool :=
  if (v0.length : Int)=0 then
    some false
  else
    if 64<(v0.length : Int) then
      some false
    else
      Aaw.L1 k v0 k 0
def Aa4.J2 (k : Nat) (v3 : Int) (kb1 : Int→Option Bool) : Option Bool :=
  kb1 (IntKind.wrap .i64 (v3+1))
def Aa4.L1 (k : Nat) (v0 : (List Int)) (v1 : Int) : Nat→Int→Option Bool
  | 0,_=>none
  | n+1,v3 =>
    if v3<(v0.length : Int) then
      idx v0 v3 fun v4 =>
      if v4<0 then
        some false
      else
        if v1≤v4 then
          some false
        else
          if 0<v3 then
            idx v0 (IntKind.wrap .i64 (v3-1)) fun v5 =>
            if v4≤v5 then
              some false
            else
              Aa4.J2 k v3 (fun v3_=>Aa4.L1 k v0 v1 n v3_)
          else
            Aa4.J2 k v3 (fun v3_=>Aa4.L1 k v0 v1 n v3_)
    else
      some true
def Aa4 (k : Nat) (v0 : (List Int)) (v1 : Int) : Option Bool :=
  Aa4.L1 k v0 v1 k 0
def Abo.L1 (k : Nat) (v0 : (List Int)) (v1 : Int) : Nat→Int→Option Bool
  | 0,_=>none
  | n+1,v3 =>
    if v3<(v0.length : Int) then
      idx v0 v3 fun v4 =>
      if v4=v1 then
        some true
      else
        Abo.L1 k v0 v1 n (IntKind.wrap .i64 (v3+1))
    else
      some false
def Abo (k : Nat) (v0 : (List Int)) (v1 : Int) : Option Bool :=
  Abo.L1 k v0 v1 k 0
def Adu (k : Nat) (v0 : Int) (v1 : Int) (v2 : Int) (v3 : Int) (v4 : Int) (v5 : Int) : Option Bool :=
  if v0<v3 then
    some true
  else
    if v0=v3 then
      some (decide (v1<v4))
    else
      some false
def Aan.J2 (k : Nat) (v5 : Int) (kb1 : Int→Option Int) (v7 : Bool) : Option Int :=
  if v7=true then
    some 14
  else
    kb1 (IntKind.wrap .i64 (v5+1))
def Aan.L1 (k : Nat) (v0 : Int) (v1 : (List AbD)) (v2 : (List Int)) : Nat→Int→Option Int
  | 0,_=>none
  | n+1,v5 =>
    if v5<(v1.length : Int) then
      idx v1 v5 fun v6 =>
      if v6.From<0 then
        some 14
      else
        if v0≤v6.From then
          some 14
        else
          if v6.To<0 then
            some 14
          else
            if v0≤v6.To then
              some 14
            else
              if v6.From=v6.To then
                some 14
              else
                if v6.Level<1 then
                  some 14
                else
                  if 3<v6.Level then
                    some 14
                  else
                    if 0<v5 then
                      idx v1 (IntKind.wrap .i64 (v5-1)) fun v8 =>
                      Aba (Adu k v8.From v8.To v8.Level v6.From v6.To v6.Level) fun v9 =>
                      if (!v9)=true then
                        Aan.J2 k v5 (fun v5_=>Aan.L1 k v0 v1 v2 n v5_) true
                      else
                        Aba (Abo k v2 v6.From) fun v10 =>
                        if v10=true then
                          Aan.J2 k v5 (fun v5_=>Aan.L1 k v0 v1 v2 n v5_) true
                        else
                          Aba (Abo k v2 v6.To) fun v11 =>
                          Aan.J2 k v5 (fun v5_=>Aan.L1 k v0 v1 v2 n v5_) v11
                    else
                      Aba (Abo k v2 v6.From) fun v12 =>
                      if v12=true then
                        Aan.J2 k v5 (fun v5_=>Aan.L1 k v0 v1 v2 n v5_) true
                      else
                        Aba (Abo k v2 v6.To) fun v13 =>
                        Aan.J2 k v5 (fun v5_=>Aan.L1 k v0 v1 v2 n v5_) v13
    else
      some 0
def Aan (k : Nat) (v0 : Int) (v1 : (List AbD)) (v2 : (List Int)) : Option Int :=
  if v0<0 then
    some 14
  else
    if 64<v0 then
      some 14
    else
      if 500<(v1.length : Int) then
        some 14
      else
        Aba (Aa4 k v2 v0) fun v4 =>
        if (!v4)=true then
          some 14
        else
          Aan.L1 k v0 v1 v2 k 0
def Aar.J2 (k : Nat) (v8 : Int) (kb1 : Int→Option Bool) : Option Bool :=
  kb1 (IntKind.wrap .i64 (v8+1))
def Aar.L1 (k : Nat) (v4 : (List Int)) : Nat→Int→Option Bool
  | 0,_=>none
  | n+1,v8 =>
    if v8<(v4.length : Int) then
      idx v4 v8 fun v9 =>
      if v9<1 then
        some false
      else
        if 1000<v9 then
          some false
        else
          if 0<v8 then
            idx v4 (IntKind.wrap .i64 (v8-1)) fun v10 =>
            if v10<v9 then
              some false
            else
              Aar.J2 k v8 (fun v8_=>Aar.L1 k v4 n v8_)
          else
            Aar.J2 k v8 (fun v8_=>Aar.L1 k v4 n v8_)
    else
      some true
def Aar (k : Nat) (v0 : Int) (v1 : (List AbD)) (v2 : (List Int)) (v3 : (List Int)) (v4 : (List Int)) (v5 : Int) : Option Bool :=
  if (v3.length : Int)=0 then
    some false
  else
    Aba (Aa4 k v3 v0) fun v7 =>
    if (!v7)=true then
      some false
    else
      if (v4.length : Int)<1 then
        some false
      else
        if 8<(v4.length : Int) then
          some false
        else
          if v5<1 then
            some false
          else
            if 3<v5 then
              some false
            else
              Aar.L1 k v4 k 0
def Acx (k : Nat) (v0 : Int) (v1 : (List AbD)) (v2 : (List Int)) (v3 : (List Int)) (v4 : (List Int)) (v5 : Int) : Option Int :=
  Aba (Aan k v0 v1 v2) fun v7 =>
  if v7≠0 then
    some 14
  else
    Aba (Aar k v0 v1 v2 v3 v4 v5) fun v8 =>
    if (!v8)=true then
      some 15
    else
      some 0
def Acw (k : Nat) (v0 : (List Int)) (v1 : (List Int)) (v2 : (List Int)) (v3 : Int) (v4 : Int) (v5 : Int) (v6 : Int) : Option Int :=
  Aba (Aaw k v0) fun v8 =>
  if (!v8)=true then
    some 43
  else
    Aba (Acx k 64 ([] : List AbD) ([] : List Int) v1 v2 v3) fun v9 =>
    if v9≠0 then
      some v9
    else
      if v4<1 then
        some 40
      else
        if 9<v4 then
          some 40
        else
          if v5<1 then
            some 40
          else
            if 1000000<v5 then
              some 40
            else
              if v6<0 then
                some 40
              else
                if 64<v6 then
                  some 40
                else
                  some 0
def Aa9.L1 (k : Nat) (v1 : Int) : Nat→Int→(List Int)→Option (List Int)
  | 0,_,_=>none
  | n+1,v3,v4 =>
    if 0≤v3 then
      chk ((0 : Int)≤IntKind.wrap .u64 (IntKind.wrap .i64 (8*v3))) <|
      chk ((v4.length+([IntKind.wrap .u8 (Int.fdiv (IntKind.wrap .u64 v1) (2 ^ (min ((IntKind.wrap .u64 (IntKind.wrap .i64 (8*v3))).toNat) 64)))] : List Int).length)*1≤140737488355328) <|
      Aa9.L1 k v1 n (IntKind.wrap .i64 (v3-1)) (v4++([IntKind.wrap .u8 (Int.fdiv (IntKind.wrap .u64 v1) (2 ^ (min ((IntKind.wrap .u64 (IntKind.wrap .i64 (8*v3))).toNat) 64)))] : List Int))
    else
      some v4
def Aa9 (k : Nat) (v0 : (List Int)) (v1 : Int) : Option (List Int) :=
  Aa9.L1 k v1 k 7 v0
def AbE.L1 (k : Nat) (v1 : (List Int)) : Nat→Int→(List Int)→Option (List Int)
  | 0,_,_=>none
  | n+1,v4,v5 =>
    if v4<(v1.length : Int) then
      idx v1 v4 fun v6 =>
      Aba (Aa9 k v5 v6) fun v7 =>
      AbE.L1 k v1 n (IntKind.wrap .i64 (v4+1)) v7
    else
      some v5
def AbE (k : Nat) (v0 : (List Int)) (v1 : (List Int)) : Option (List Int) :=
  Aba (Aa9 k v0 (v1.length : Int)) fun v3 =>
  AbE.L1 k v1 k 0 v3
def Abw (k : Nat) : Option (List Int) :=
  some ([1116352408,1899447441,3049323471,3921009573,961987163,1508970993,2453635748,2870763221,3624381080,310598401,607225278,1426881987,1925078388,2162078206,2614888103,3248222580,3835390401,4022224774,264347078,604807628,770255983,1249150122,1555081692,1996064986,2554220882,2821834349,2952996808,3210313671,3336571891,3584528711,113926993,338241895,666307205,773529912,1294757372,1396182291,1695183700,1986661051,2177026350,2456956037,2730485921,2820302411,3259730800,3345764771,3516065817,3600352804,4094571909,275423344,430227734,506948616,659060556,883997877,958139571,1322822218,1537002063,1747873779,1955562222,2024104815,2227730452,2361852424,2428436474,2756734187,3204031479,3329325298] : List Int)
def Aai (k : Nat) (v0 : Int) (v1 : Int) : Option Int :=
  chk ((0 : Int)≤v1) <|
  chk ((0 : Int)≤IntKind.wrap .u64 (32-v1)) <|
  some (AaF .or .u32 (Int.fdiv v0 (2 ^ (min v1.toNat 32))) (IntKind.wrap .u32 (v0*2 ^ (min ((IntKind.wrap .u64 (32-v1)).toNat) 32))))
def AaR.L4 (k : Nat) (v0 : (List Int)) : Nat→Int→(List Int)→Option (List Int)
  | 0,_,_=>none
  | n+1,v39,v40 =>
    if v39<8 then
      chk ((0 : Int)≤v39∧(v39).toNat<v40.length) <|
      idx v40 v39 fun v41 =>
      idx v0 v39 fun v42 =>
      chk ((0 : Int)≤v39∧(v39).toNat<v40.length) <|
      AaR.L4 k v0 n (IntKind.wrap .i64 (v39+1)) (v40.set (v39).toNat (IntKind.wrap .u32 (v41+v42)))
    else
      some v40
def AaR.L3 (k : Nat) (v0 : (List Int)) (v2 : (List Int)) (v12 : (List Int)) : Nat→Int→(List Int)→Option (List Int)
  | 0,_,_=>none
  | n+1,v21,v22 =>
    if v21<64 then
      idx v22 4 fun v23 =>
      Aba (Aai k v23 6) fun v24 =>
      Aba (Aai k v23 11) fun v25 =>
      Aba (Aai k v23 25) fun v26 =>
      idx v22 5 fun v27 =>
      idx v22 6 fun v28 =>
      idx v22 7 fun v29 =>
      idx v2 v21 fun v30 =>
      idx v12 v21 fun v31 =>
      idx v22 0 fun v32 =>
      Aba (Aai k v32 2) fun v33 =>
      Aba (Aai k v32 13) fun v34 =>
      Aba (Aai k v32 22) fun v35 =>
      idx v22 1 fun v36 =>
      idx v22 2 fun v37 =>
      idx v22 3 fun v38 =>
      AaR.L3 k v0 v2 v12 n (IntKind.wrap .i64 (v21+1)) ([IntKind.wrap .u32 (IntKind.wrap .u32 (IntKind.wrap .u32 (IntKind.wrap .u32 (IntKind.wrap .u32 (IntKind.wrap .u32 (v29+AaF .xor .u32 (AaF .xor .u32 v24 v25) v26)+AaF .xor .u32 (AaF .and .u32 v23 v27) (AaF .and .u32 (AaF .xor .u32 (IntKind.max .u32) v23) v28))+v30)+v31)+AaF .xor .u32 (AaF .xor .u32 v33 v34) v35)+AaF .xor .u32 (AaF .xor .u32 (AaF .and .u32 v32 v36) (AaF .and .u32 v32 v37)) (AaF .and .u32 v36 v37)),v32,v36,v37,IntKind.wrap .u32 (v38+IntKind.wrap .u32 (IntKind.wrap .u32 (IntKind.wrap .u32 (IntKind.wrap .u32 (v29+AaF .xor .u32 (AaF .xor .u32 v24 v25) v26)+AaF .xor .u32 (AaF .and .u32 v23 v27) (AaF .and .u32 (AaF .xor .u32 (IntKind.max .u32) v23) v28))+v30)+v31)),v23,v27,v28] : List Int)
    else
      AaR.L4 k v0 k 0 v22
def AaR.L2 (k : Nat) (v0 : (List Int)) (v2 : (List Int)) : Nat→Int→(List Int)→Option (List Int)
  | 0,_,_=>none
  | n+1,v11,v12 =>
    if v11<64 then
      chk ((0 : Int)≤(IntKind.wrap .i64 (v11-15))∧(IntKind.wrap .i64 (v11-15)).toNat<v12.length) <|
      idx v12 (IntKind.wrap .i64 (v11-15)) fun v13 =>
      Aba (Aai k v13 7) fun v14 =>
      chk ((0 : Int)≤(IntKind.wrap .i64 (v11-15))∧(IntKind.wrap .i64 (v11-15)).toNat<v12.length) <|
      Aba (Aai k v13 18) fun v15 =>
      chk ((0 : Int)≤(IntKind.wrap .i64 (v11-15))∧(IntKind.wrap .i64 (v11-15)).toNat<v12.length) <|
      chk ((0 : Int)≤(IntKind.wrap .i64 (v11-2))∧(IntKind.wrap .i64 (v11-2)).toNat<v12.length) <|
      idx v12 (IntKind.wrap .i64 (v11-2)) fun v16 =>
      Aba (Aai k v16 17) fun v17 =>
      chk ((0 : Int)≤(IntKind.wrap .i64 (v11-2))∧(IntKind.wrap .i64 (v11-2)).toNat<v12.length) <|
      Aba (Aai k v16 19) fun v18 =>
      chk ((0 : Int)≤(IntKind.wrap .i64 (v11-2))∧(IntKind.wrap .i64 (v11-2)).toNat<v12.length) <|
      chk ((0 : Int)≤(IntKind.wrap .i64 (v11-16))∧(IntKind.wrap .i64 (v11-16)).toNat<v12.length) <|
      idx v12 (IntKind.wrap .i64 (v11-16)) fun v19 =>
      chk ((0 : Int)≤(IntKind.wrap .i64 (v11-7))∧(IntKind.wrap .i64 (v11-7)).toNat<v12.length) <|
      idx v12 (IntKind.wrap .i64 (v11-7)) fun v20 =>
      chk ((0 : Int)≤v11∧(v11).toNat<v12.length) <|
      AaR.L2 k v0 v2 n (IntKind.wrap .i64 (v11+1)) (v12.set (v11).toNat (IntKind.wrap .u32 (IntKind.wrap .u32 (IntKind.wrap .u32 (v19+AaF .xor .u32 (AaF .xor .u32 v14 v15) (Int.fdiv v13 (2 ^ (3))))+v20)+AaF .xor .u32 (AaF .xor .u32 v17 v18) (Int.fdiv v16 (2 ^ (10))))))
    else
      chk (v0.length*4≤140737488355328) <|
      AaR.L3 k v0 v2 v12 k 0 v0
def AaR.L1 (k : Nat) (v0 : (List Int)) (v1 : (List Int)) (v2 : (List Int)) : Nat→Int→(List Int)→Option (List Int)
  | 0,_,_=>none
  | n+1,v5,v6 =>
    if v5<16 then
      idx v1 (IntKind.wrap .i64 (4*v5)) fun v7 =>
      idx v1 (IntKind.wrap .i64 (IntKind.wrap .i64 (4*v5)+1)) fun v8 =>
      idx v1 (IntKind.wrap .i64 (IntKind.wrap .i64 (4*v5)+2)) fun v9 =>
      idx v1 (IntKind.wrap .i64 (IntKind.wrap .i64 (4*v5)+3)) fun v10 =>
      chk ((0 : Int)≤v5∧(v5).toNat<v6.length) <|
      AaR.L1 k v0 v1 v2 n (IntKind.wrap .i64 (v5+1)) (v6.set (v5).toNat (AaF .or .u32 (AaF .or .u32 (AaF .or .u32 (IntKind.wrap .u32 ((IntKind.wrap .u32 v7)*2 ^ (24))) (IntKind.wrap .u32 ((IntKind.wrap .u32 v8)*2 ^ (16)))) (IntKind.wrap .u32 ((IntKind.wrap .u32 v9)*2 ^ (8)))) (IntKind.wrap .u32 v10)))
    else
      AaR.L2 k v0 v2 k 16 v6
def AaR (k : Nat) (v0 : (List Int)) (v1 : (List Int)) (v2 : (List Int)) : Option (List Int) :=
  chk ((0 : Int)≤64∧16*64≤281474976710656) <|
  ApN (List.replicate 64 0) fun v4 =>
  AaR.L1 k v0 v1 v2 k 0 v4
def Aac.L4 (k : Nat) (v6 : (List Int)) : Nat→Int→(List Int)→Option ByteArray
  | 0,_,_=>none
  | n+1,v9,v10 =>
    if v9<8 then
      idx v6 v9 fun v11 =>
      chk ((v10.length+([IntKind.wrap .u8 (Int.fdiv v11 (2 ^ (24))),IntKind.wrap .u8 (Int.fdiv v11 (2 ^ (16))),IntKind.wrap .u8 (Int.fdiv v11 (2 ^ (8))),IntKind.wrap .u8 v11] : List Int).length)*1≤140737488355328) <|
      Aac.L4 k v6 n (IntKind.wrap .i64 (v9+1)) (v10++([IntKind.wrap .u8 (Int.fdiv v11 (2 ^ (24))),IntKind.wrap .u8 (Int.fdiv v11 (2 ^ (16))),IntKind.wrap .u8 (Int.fdiv v11 (2 ^ (8))),IntKind.wrap .u8 v11] : List Int))
    else
      some (ofI v10)
def Aac.L3 (k : Nat) (v4 : (List Int)) (v5 : (List Int)) : Nat→(List Int)→Int→Option ByteArray
  | 0,_,_=>none
  | n+1,v6,v7 =>
    if v7<(v4.length : Int) then
      chk ((0 : Int)≤v7∧(v7 : Int)≤IntKind.wrap .i64 (v7+64)∧(IntKind.wrap .i64 (v7+64) : Int)≤(v4.length : Int)) <|
      Aba (AaR k v6 ((v4.take (IntKind.wrap .i64 (v7+64)).toNat).drop (v7).toNat) v5) fun v8 =>
      Aac.L3 k v4 v5 n v8 (IntKind.wrap .i64 (v7+64))
    else
      Aac.L4 k v6 k 0 ([] : List Int)
def Aac.L2 (k : Nat) (v0 : (List Int)) : Nat→Int→(List Int)→Option ByteArray
  | 0,_,_=>none
  | n+1,v3,v4 =>
    if 0≤v3 then
      chk ((0 : Int)≤IntKind.wrap .u64 (IntKind.wrap .i64 (8*v3))) <|
      chk ((v4.length+([IntKind.wrap .u8 (Int.fdiv (IntKind.wrap .u64 (IntKind.wrap .u64 (v0.length : Int)*8)) (2 ^ (min ((IntKind.wrap .u64 (IntKind.wrap .i64 (8*v3))).toNat) 64)))] : List Int).length)*1≤140737488355328) <|
      Aac.L2 k v0 n (IntKind.wrap .i64 (v3-1)) (v4++([IntKind.wrap .u8 (Int.fdiv (IntKind.wrap .u64 (IntKind.wrap .u64 (v0.length : Int)*8)) (2 ^ (min ((IntKind.wrap .u64 (IntKind.wrap .i64 (8*v3))).toNat) 64)))] : List Int))
    else
      Aba (Abw k) fun v5 =>
      Aac.L3 k v4 v5 k ([1779033703,3144134277,1013904242,2773480762,1359893119,2600822924,528734635,1541459225] : List Int) 0
def Aac.L1 (k : Nat) (v0 : (List Int)) : Nat→(List Int)→Option ByteArray
  | 0,_=>none
  | n+1,v2 =>
    if (Int.tmod (v2.length : Int) 64)≠56 then
      chk ((v2.length+([0] : List Int).length)*1≤140737488355328) <|
      Aac.L1 k v0 n (v2++([0] : List Int))
    else
      Aac.L2 k v0 k 7 v2
def Aac (k : Nat) (v0 : (List Int)) : Option ByteArray :=
  chk (v0.length*1≤140737488355328) <|
  chk ((v0.length+([128] : List Int).length)*1≤140737488355328) <|
  Aac.L1 k v0 k (v0++([128] : List Int))
def AcW (k : Nat) (v0 : (List Int)) (v1 : (List Int)) (v2 : (List Int)) (v3 : Int) (v4 : Int) (v5 : Int) (v6 : Int) : Option (ByteArray×Int) :=
  Aba (Acw k v0 v1 v2 v3 v4 v5 v6) fun v9 =>
  if v9≠0 then
    some ((ByteArray.mk #[]),v9)
  else
    chk ((bI (ByteArray.mk #[116,114,117,115,116,102,108,111,119])).length*1≤140737488355328) <|
    Aba (AbE k (bI (ByteArray.mk #[116,114,117,115,116,102,108,111,119])) v0) fun v10 =>
    Aba (AbE k v10 v1) fun v11 =>
    Aba (AbE k v11 v2) fun v12 =>
    Aba (AbE k v12 ([v3,v4,v5,v6] : List Int)) fun v13 =>
    Aba (Aac k v13) fun v14 =>
    some (v14,0)
def Aat.L1 (k : Nat) (v0 : (List Int)) (v1 : (List Int)) : Nat→Int→Option Bool
  | 0,_=>none
  | n+1,v3 =>
    if v3<(v0.length : Int) then
      idx v0 v3 fun v4 =>
      idx v1 v3 fun v5 =>
      if v4≠v5 then
        some false
      else
        Aat.L1 k v0 v1 n (IntKind.wrap .i64 (v3+1))
    else
      some true
def Aat (k : Nat) (v0 : (List Int)) (v1 : (List Int)) : Option Bool :=
  if (v0.length : Int)≠(v1.length : Int) then
    some false
  else
    Aat.L1 k v0 v1 k 0
def Aah.J1 (k : Nat) (v30 : ByteArray) (v31 : Int) (v32 : ByteArray) (v33 : Int) (v34 : ByteArray) (v35 : Int) (v36 : ByteArray) (v37 : Int) (v38 : ByteArray) (v39 : Int) (v40 : Bool) : Option Bool :=
  if v31=v33 then
    if (Acj v30 v32)=true then
      if v35=v37 then
        if (Acj v34 v36)=true then
          if v39=0 then
            if ((Acj v38 v30)==v40)=true then
              Aba (AcF k) fun v41 =>
              some v41
            else
              some false
          else
            some false
        else
          some false
      else
        some false
    else
      some false
  else
    some false
def Aah (k : Nat) (v0 : (List Int)) : Option Bool :=
  Aba (Ad9 k v0) fun v2 =>
  if (!v2)=true then
    Aba (AcF k) fun v3 =>
    some v3
  else
    AeX (Aet k v0) fun v4 v5 =>
    Aom (AbS k v4 v5) fun v6 v7 v8 v9 v10 v11 v12 v13 =>
    Aom (AbS k v4 v13) fun v14 v15 v16 v17 v18 v19 v20 v21 =>
    Aom (AbK k v4 v21 v6 v7 v8 v9 v10 v11 v12) fun v22 v23 v24 v25 v26 v27 v28 v29 =>
    AeX (Aay k v6 v7 v8 v9 v10 v11 v12) fun v30 v31 =>
    AeX (AcW k v6 v7 v8 v9 v10 v11 v12) fun v32 v33 =>
    AeX (Aay k v22 v23 v24 v25 v26 v27 v28) fun v34 v35 =>
    AeX (AcW k v22 v23 v24 v25 v26 v27 v28) fun v36 v37 =>
    AeX (Aay k v14 v15 v16 v17 v18 v19 v20) fun v38 v39 =>
    Aba (Aat k v6 v14) fun v42 =>
    if v42=true then
      Aba (Aat k v7 v15) fun v43 =>
      if v43=true then
        Aba (Aat k v8 v16) fun v44 =>
        if v44=true then
          if v9=v17 then
            if v10=v18 then
              if v11=v19 then
                Aah.J1 k v30 v31 v32 v33 v34 v35 v36 v37 v38 v39 (v12==v20)
              else
                Aah.J1 k v30 v31 v32 v33 v34 v35 v36 v37 v38 v39 false
            else
              Aah.J1 k v30 v31 v32 v33 v34 v35 v36 v37 v38 v39 false
          else
            Aah.J1 k v30 v31 v32 v33 v34 v35 v36 v37 v38 v39 false
        else
          Aah.J1 k v30 v31 v32 v33 v34 v35 v36 v37 v38 v39 false
      else
        Aah.J1 k v30 v31 v32 v33 v34 v35 v36 v37 v38 v39 false
    else
      Aah.J1 k v30 v31 v32 v33 v34 v35 v36 v37 v38 v39 false
theorem GK {P : List (List Nat×List Nat)→Prop} {c : List (List Nat×List Nat)→Bool} {l : List (List Nat×List Nat)} (g : ∀ l,c l=true→P l) (h : c l=true:=by kernel_rfl) : P l:=g l h
abbrev Q0 (l : List AbD) : AV := .lst false false (List.map AbD.av l)
abbrev Gi (l : List Int) : Aaj := .grow (List.map (AV.int .i64) l)
abbrev Ci (l : List Int) : Aaj := .cells (List.map (AV.int .i64) l)
theorem A2 {p0 p1 : Prop} (a0 : p0) (a1 : p1) : p0∧p1:=⟨a0,a1⟩
theorem A3 {p0 p1 p2 : Prop} (a0 : p0) (a1 : p1) (a2 : p2) : p0∧p1∧p2:=⟨a0,a1,a2⟩
theorem A4 {p0 p1 p2 p3 : Prop} (a0 : p0) (a1 : p1) (a2 : p2) (a3 : p3) : p0∧p1∧p2∧p3:=⟨a0,a1,a2,a3⟩
theorem A5 {p0 p1 p2 p3 p4 : Prop} (a0 : p0) (a1 : p1) (a2 : p2) (a3 : p3) (a4 : p4) : p0∧p1∧p2∧p3∧p4:=⟨a0,a1,a2,a3,a4⟩
theorem A6 {p0 p1 p2 p3 p4 p5 : Prop} (a0 : p0) (a1 : p1) (a2 : p2) (a3 : p3) (a4 : p4) (a5 : p5) : p0∧p1∧p2∧p3∧p4∧p5:=⟨a0,a1,a2,a3,a4,a5⟩
theorem A7 {p0 p1 p2 p3 p4 p5 p6 : Prop} (a0 : p0) (a1 : p1) (a2 : p2) (a3 : p3) (a4 : p4) (a5 : p5) (a6 : p6) : p0∧p1∧p2∧p3∧p4∧p5∧p6:=⟨a0,a1,a2,a3,a4,a5,a6⟩
theorem A8 {p0 p1 p2 p3 p4 p5 p6 p7 : Prop} (a0 : p0) (a1 : p1) (a2 : p2) (a3 : p3) (a4 : p4) (a5 : p5) (a6 : p6) (a7 : p7) : p0∧p1∧p2∧p3∧p4∧p5∧p6∧p7:=⟨a0,a1,a2,a3,a4,a5,a6,a7⟩
theorem A9 {p0 p1 p2 p3 p4 p5 p6 p7 p8 : Prop} (a0 : p0) (a1 : p1) (a2 : p2) (a3 : p3) (a4 : p4) (a5 : p5) (a6 : p6) (a7 : p7) (a8 : p8) : p0∧p1∧p2∧p3∧p4∧p5∧p6∧p7∧p8:=⟨a0,a1,a2,a3,a4,a5,a6,a7,a8⟩
end Go.TF
set_option maxRecDepth 100000
namespace Go.Proofs.YtomgdcnbceiggaaBaT
open Go Go.Abs Go.Proofs
theorem AmE : Try.prog.follows .mixedOrders=true:=by kernel_rfl
section
variable {n : Nat} {c0 : Cx} {w0 : World} {Q : AcK} {s : Nat→AV} {H : AaY} {N : Nat} {T : Act→World→Prop}
theorem SQ {id : Nat} {ops : List Oper} {draw : Bool} {y : Code} (mu : List Nat) (gs : List (Option (Nat×Bool)))
 (h : ∀ (G : Log→Prop) (K : (Nat→AV)→AaY→Nat→Prop),(∀ lg,(!draw||AdE ops lg)=true→G lg)→(∀ s' H' N',AW Try.prog n c0 w0 y Q s' H' N'→K s' H' N')→Adj Try.prog mu ops gs s H N [] (fun s' H' N' lg=>G lg∧K s' H' N'))
 (hok : AhL n ops gs=true:=by kernel_rfl) : AW Try.prog n c0 w0 (.seq (.region id ops.toArray draw) y) Q s H N:=AW.seqR AmE mu gs hok h
theorem RG {id : Nat} {ops : List Oper} {draw : Bool} (mu : List Nat) (gs : List (Option (Nat×Bool)))
 (h : ∀ (G : Log→Prop) (K : (Nat→AV)→AaY→Nat→Prop),(∀ lg,(!draw||AdE ops lg)=true→G lg)→(∀ s' H' N',Q .normal s' H' N'→K s' H' N')→Adj Try.prog mu ops gs s H N [] (fun s' H' N' lg=>G lg∧K s' H' N'))
 (hok : AhL n ops gs=true:=by kernel_rfl) : AW Try.prog n c0 w0 (.region id ops.toArray draw) Q s H N:=AW.region AmE mu gs hok h
theorem WK {x : Code} (l : List (Nat×AV)) (hl : List (Nat×Aaj)) (N' : Nat) (h1 : ∀ p ∈ l,s p.1=p.2) (h2 : ∀ p ∈ hl,H p.1=some p.2) (h : AW Try.prog n c0 w0 x Q (mkS l) (mkH hl) N') (hN : N≤N':=by simp) : AW Try.prog n c0 w0 x Q s H N:=AW.wk l hl N' h1 h2 hN h
theorem RN (h0 : Ab1 c0 0) (ρ : List (Nat×Nat)) (l : List (Nat×AV)) (o : List (Nat×Aaj)) (M : Nat)
 (h1 : ∀ p ∈ l,s p.1=Abs.ren (Adg ρ) p.2∧gd (fun i=>(Abs.Aec ρ i).isSome=true) p.2)
 (h2 : ∀ p ∈ o,H (Adg ρ p.1)=some (Afn (Adg ρ) p.2)∧gdO (fun i=>(Abs.Aec ρ i).isSome=true) p.2)
 (h : Abs.Can n c0 w0 (mkS l) (mkH o) M T) (hρ1 : (ρ.map (·.2)).Nodup:=by decide) (hρ2 : ∀ p ∈ ρ,p.1<M∧(p.1<0→p.1=p.2):=by decide) (hk : o.map (·.1)=ρ.map (·.1):=by rfl) : Abs.Can n c0 w0 s H N T:=Abs.Can.ren h0 ρ l o M hρ1 hρ2 (Nat.zero_le _) hk h1 h2 h
theorem RM {x : Code} (h0 : Ab1 c0 0) (ρ : List (Nat×Nat)) (l : List (Nat×AV)) (o : List (Nat×Aaj)) (M : Nat)
 (h1 : ∀ p ∈ l,s p.1=Abs.ren (Adg ρ) p.2∧gd (fun i=>(Abs.Aec ρ i).isSome=true) p.2)
 (h2 : ∀ p ∈ o,H (Adg ρ p.1)=some (Afn (Adg ρ) p.2)∧gdO (fun i=>(Abs.Aec ρ i).isSome=true) p.2)
 (h : AW Try.prog n c0 w0 x Q (mkS l) (mkH o) M) (hρ1 : (ρ.map (·.2)).Nodup:=by decide) (hρ2 : ∀ p ∈ ρ,p.1<M∧(p.1<0→p.1=p.2):=by decide) (hk : o.map (·.1)=ρ.map (·.1):=by rfl) : AW Try.prog n c0 w0 x Q s H N:=AW.rnm h0 ρ l o M hρ1 hρ2 (Nat.zero_le _) hk h1 h2 h
theorem AC {f : FuncId} {args : List AV} {K : CK} {args0 : List AV} {r : AV} {O' : List (Option Aaj)} (hF : AbA Try.prog f args0 [] r O') (hco : AjX H (nm []) args args0 [])
 (hk : K (ren (nm ([]++Aeb N (O'.length-([] : List Aaj).length))) r) (Ah8 (nm ([]++Aeb N (O'.length-([] : List Aaj).length))) H ([]++Aeb N (O'.length-([] : List Aaj).length)) O') (N+(O'.length-([] : List Aaj).length)) ([]++[]) ([]++Aeb N (O'.length-([] : List Aaj).length)))
 (hcal : AaT Try.prog f=true:=by simp) (hun : Anp [] [] [] O':=by simp) : AjV Try.prog f args H N K :=
 Aa6 hF hcal [] [] [] rfl hco trivial .nil (by simp) (by simp) (.inl rfl) (by simp) hun hk
theorem CT {t : Nat} {x y : Code} (hb : s t = .bool true) (h : AW Try.prog n c0 w0 x Q s H N) (ht : decide (t<n)=true:=by decide) : AW Try.prog n c0 w0 (.cond (.tmp t) x y) Q s H N:=AW.condT ht hb h
theorem CF {t : Nat} {x y : Code} (hb : s t = .bool false) (h : AW Try.prog n c0 w0 y Q s H N) (ht : decide (t<n)=true:=by decide) : AW Try.prog n c0 w0 (.cond (.tmp t) x y) Q s H N:=AW.condF ht hb h
theorem EN {f : FuncId} {fn : Func} {code : Code} {args : List AV} {O : List Aaj} {r : AV} {O' : List (Option Aaj)} (hf : Try.prog.funcs[f]? = some fn)
 (h : ∀ (c0 : Cx) (w0 : World) (Q : AcK),Ab1 c0 O.length→(∀ s H N,Aem Try.prog s H fn.results.toList r→(∀ i,i<O'.length→H i=nth O' i)→Q .ret s H N∧Q .normal s H N)→AW Try.prog fn.ntmps c0 w0 code Q (AlP args) (fun i=>O[i]?) O.length)
 (hb : fn.body=some code:=by rfl) (hm : args.length≤fn.ntmps:=by simp) (hin : Afm fn.ntmps fn.results.toList=true:=by decide)
 (len : O.length≤O'.length:=by simp) (ga : gdL (· < O.length) args:=by simp) (gO : ∀ o ∈ O,gdO (· < O.length) o:=by simp) (gr : gd (fun i=>(nth O' i).isSome=true) r:=by simp) (gO' : ∀ o,some o ∈ O'→gdO (fun i=>(nth O' i).isSome=true) o:=by simp) : AbA Try.prog f args O r O':=AbA.enter hf hb hm hin len ga gO gr gO' h
theorem NX {α : Type} {F : Nat→α→Prop} {L : α→List (Nat×AV)} {O : α→List (Nat×Aaj)} {M k k' : Nat} (y : α) (hF : F k' y) (h1 : ∀ p ∈ L y,s p.1=p.2) (h2 : ∀ p ∈ O y,H p.1=some p.2) (hk : k'<k:=by omega) (hN : N≤M:=by simp) :
 Abs.Can n c0 w0 s H N (fun a w=>∃ k' y,k'<k∧F k' y∧St n c0 w0 (mkS (L y)) (mkH (O y)) M a w):=Abs.Can.next y hk hF h1 h2 hN
theorem JN {α : Type} {F : α→Prop} {L : α→List (Nat×AV)} {O : α→List (Nat×Aaj)} {M : Nat} (y : α) (hF : F y) (h1 : ∀ p ∈ L y,s p.1=p.2) (h2 : ∀ p ∈ O y,H p.1=some p.2) (hN : N≤M:=by simp) :
 Abs.Can n c0 w0 s H N (fun a w=>∃ y,F y∧St n c0 w0 (mkS (L y)) (mkH (O y)) M a w):=Abs.Can.join y hF h1 h2 hN
end
@[simp↓] theorem Aqv {P : Program} {mu : List Nat} {d : Option Nat} {s : Nat→AV} {H : AaY} {N : Nat} {K : CK} {y : Operand} : bop P mu d s H N K (.move y)=K (ev s y) H N [] []:=bop.eq_1 ..
@[simp↓] theorem Aqw {P : Program} {mu : List Nat} {d : Option Nat} {s : Nat→AV} {H : AaY} {N : Nat} {K : CK} {y : Operand} : bop P mu d s H N K (.assign y)=K (ev s y) H N [] []:=bop.eq_2 ..
@[simp] theorem t0 : Ab7 Try.prog 0=some false∧AbM Try.prog 0=some 1:=by and_intros <;> kernel_rfl
@[simp] theorem t1 : Ab7 Try.prog 1=some false∧AbM Try.prog 1=some 1∧Abh Try.prog 1=some [AV.nilfn]∧AbZ Try.prog 1=some AV.nilfn:=by and_intros <;> kernel_rfl
@[simp] theorem t2 : Ab7 Try.prog 2=some false∧AbM Try.prog 2=some 1∧Abh Try.prog 2=some [AV.int .i64 0]∧AbZ Try.prog 2=some (AV.int .i64 0)∧AgC Try.prog 2=some IntKind.i64:=by and_intros <;> kernel_rfl
@[simp] theorem t3 : Ab7 Try.prog 3=some false∧AbM Try.prog 3=some 1∧Abh Try.prog 3=some [AV.int .i64 0]∧AbZ Try.prog 3=some (AV.int .i64 0)∧AgC Try.prog 3=some IntKind.i64:=by and_intros <;> kernel_rfl
@[simp] theorem t4 : Ab7 Try.prog 4=some false∧AbM Try.prog 4=some 1∧Abh Try.prog 4=some [AV.bool false]∧AbZ Try.prog 4=some (AV.bool false)∧Try.prog.underlying 4=some Go.TypeDesc.bool:=by and_intros <;> kernel_rfl
@[simp] theorem t5 : Ab7 Try.prog 5=some false∧AbM Try.prog 5=some 1∧Abh Try.prog 5=some [AV.int .u8 0]∧AbZ Try.prog 5=some (AV.int .u8 0)∧AgC Try.prog 5=some IntKind.u8:=by and_intros <;> kernel_rfl
@[simp] theorem t9 : Ahd Try.prog 9=true∧Ab7 Try.prog 9=some false∧AbM Try.prog 9=some 1∧Abh Try.prog 9=some [AV.str { data := { toList:=[] } }]∧AbZ Try.prog 9=some (AV.str { data := { toList:=[] } })∧AcU Try.prog 9=true:=by and_intros <;> kernel_rfl
@[simp] theorem t22 : Aaq Try.prog 22=some (3,1,8)∧Aj5 Try.prog 22=true∧Ab7 Try.prog 22=some false∧AbM Try.prog 22=some 1∧Abh Try.prog 22=some [AV.lst true true []]∧AbZ Try.prog 22=some (AV.lst true true [])∧AcU Try.prog 22=true∧Try.prog.underlying 22=some (Go.TypeDesc.slice 3):=by and_intros <;> kernel_rfl
@[simp] theorem t24 : Ab7 Try.prog 24=some true∧AbM Try.prog 24=some 3∧Abh Try.prog 24=some [AV.lst true true [],AV.lst true true [],AV.int .i64 0]∧AbZ Try.prog 24=some (AV.agg [AV.lst true true [],AV.lst true true [],AV.int .i64 0])∧AcD Try.prog 24=true:=by and_intros <;> kernel_rfl
@[simp] theorem t26 : Ab7 Try.prog 26=some true∧AbM Try.prog 26=some 7∧Abh Try.prog 26=some [AV.lst true true [],AV.lst true true [],AV.lst true true [],AV.int .i64 0,AV.int .i64 0,AV.int .i64 0,AV.int .i64 0]∧AbZ Try.prog 26=some (AV.agg [AV.lst true true [],AV.lst true true [],AV.lst true true [],AV.int .i64 0,AV.int .i64 0,AV.int .i64 0,AV.int .i64 0])∧AcD Try.prog 26=true:=by and_intros <;> kernel_rfl
@[simp] theorem t44 : Aaq Try.prog 44=some (5,1,1)∧Aj5 Try.prog 44=true∧Ab7 Try.prog 44=some false∧AbM Try.prog 44=some 1∧Abh Try.prog 44=some [AV.lst true true []]∧AbZ Try.prog 44=some (AV.lst true true [])∧Aj6 Try.prog 44=true∧AcU Try.prog 44=true∧Try.prog.underlying 44=some (Go.TypeDesc.slice 5):=by and_intros <;> kernel_rfl
@[simp] theorem t62 : Aaq Try.prog 63=some (22,1,24)∧Aj5 Try.prog 63=true∧Ab7 Try.prog 63=some false∧AbM Try.prog 63=some 1∧Abh Try.prog 63=some [AV.lst true true []]∧AbZ Try.prog 63=some (AV.lst true true [])∧AcU Try.prog 63=true∧Try.prog.underlying 63=some (Go.TypeDesc.slice 22):=by and_intros <;> kernel_rfl
@[simp] theorem t64 : Aaq Try.prog 65=some (128,3,24)∧Aj5 Try.prog 65=true∧Ab7 Try.prog 65=some false∧AbM Try.prog 65=some 1∧Abh Try.prog 65=some [AV.lst true true []]∧AbZ Try.prog 65=some (AV.lst true true [])∧AcU Try.prog 65=true∧Try.prog.underlying 65=some (Go.TypeDesc.slice 128):=by and_intros <;> kernel_rfl
@[simp] theorem t66 : Ab7 Try.prog 67=some true∧AbM Try.prog 67=some 3∧Abh Try.prog 67=some [AV.int .i64 0,AV.lst true true [],AV.lst true true []]∧AbZ Try.prog 67=some (AV.agg [AV.int .i64 0,AV.lst true true [],AV.lst true true []])∧AcD Try.prog 67=true:=by and_intros <;> kernel_rfl
@[simp] theorem t78 : Ab7 Try.prog 81=some true∧AbM Try.prog 81=some 2∧Abh Try.prog 81=some [AV.lst true true [],AV.int .i64 0]∧AbZ Try.prog 81=some (AV.agg [AV.lst true true [],AV.int .i64 0])∧AcD Try.prog 81=true:=by and_intros <;> kernel_rfl
@[simp] theorem t84 : Ab7 Try.prog 87=some true∧AbM Try.prog 87=some 64∧Abh Try.prog 87=some [AV.bool false,AV.bool false,AV.bool false,AV.bool false,AV.bool false,AV.bool false,AV.bool false,AV.bool false,AV.bool false,AV.bool false,AV.bool false,AV.bool false,AV.bool false,AV.bool false,AV.bool false,AV.bool false,AV.bool false,AV.bool false,AV.bool false,AV.bool false,AV.bool false,AV.bool false,AV.bool false,AV.bool false,AV.bool false,AV.bool false,AV.bool false,AV.bool false,AV.bool false,AV.bool false,AV.bool false,AV.bool false,AV.bool false,AV.bool false,AV.bool false,AV.bool false,AV.bool false,AV.bool false,AV.bool false,AV.bool false,AV.bool false,AV.bool false,AV.bool false,AV.bool false,AV.bool false,AV.bool false,AV.bool false,AV.bool false,AV.bool false,AV.bool false,AV.bool false,AV.bool false,AV.bool false,AV.bool false,AV.bool false,AV.bool false,AV.bool false,AV.bool false,AV.bool false,AV.bool false,AV.bool false,AV.bool false,AV.bool false,AV.bool false]∧AdF Try.prog 87=some (64,1)∧AbZ Try.prog 87=some (AV.agg [AV.bool false,AV.bool false,AV.bool false,AV.bool false,AV.bool false,AV.bool false,AV.bool false,AV.bool false,AV.bool false,AV.bool false,AV.bool false,AV.bool false,AV.bool false,AV.bool false,AV.bool false,AV.bool false,AV.bool false,AV.bool false,AV.bool false,AV.bool false,AV.bool false,AV.bool false,AV.bool false,AV.bool false,AV.bool false,AV.bool false,AV.bool false,AV.bool false,AV.bool false,AV.bool false,AV.bool false,AV.bool false,AV.bool false,AV.bool false,AV.bool false,AV.bool false,AV.bool false,AV.bool false,AV.bool false,AV.bool false,AV.bool false,AV.bool false,AV.bool false,AV.bool false,AV.bool false,AV.bool false,AV.bool false,AV.bool false,AV.bool false,AV.bool false,AV.bool false,AV.bool false,AV.bool false,AV.bool false,AV.bool false,AV.bool false,AV.bool false,AV.bool false,AV.bool false,AV.bool false,AV.bool false,AV.bool false,AV.bool false,AV.bool false])∧AcD Try.prog 87=true∧AkZ Try.prog 87=some (64,Abg.bool):=by and_intros <;> kernel_rfl
@[simp] theorem t89 : Ab7 Try.prog 93=some false∧AbM Try.prog 93=some 1∧Abh Try.prog 93=some [AV.int .u64 0]∧AbZ Try.prog 93=some (AV.int .u64 0)∧AgC Try.prog 93=some IntKind.u64:=by and_intros <;> kernel_rfl
@[simp] theorem t90 : Ab7 Try.prog 94=some false∧AbM Try.prog 94=some 1∧Abh Try.prog 94=some [AV.int .u64 0]∧AbZ Try.prog 94=some (AV.int .u64 0)∧AgC Try.prog 94=some IntKind.u64:=by and_intros <;> kernel_rfl
@[simp] theorem t91 : Ab7 Try.prog 95=some false∧AbM Try.prog 95=some 1∧Abh Try.prog 95=some [AV.int .u32 0]∧AbZ Try.prog 95=some (AV.int .u32 0)∧AgC Try.prog 95=some IntKind.u32:=by and_intros <;> kernel_rfl
@[simp] theorem t93 : Ab7 Try.prog 97=some true∧AbM Try.prog 97=some 8∧Abh Try.prog 97=some [AV.int .u32 0,AV.int .u32 0,AV.int .u32 0,AV.int .u32 0,AV.int .u32 0,AV.int .u32 0,AV.int .u32 0,AV.int .u32 0]∧AdF Try.prog 97=some (8,1)∧AbZ Try.prog 97=some (AV.agg [AV.int .u32 0,AV.int .u32 0,AV.int .u32 0,AV.int .u32 0,AV.int .u32 0,AV.int .u32 0,AV.int .u32 0,AV.int .u32 0])∧AcD Try.prog 97=true∧AkZ Try.prog 97=some (8,Abg.int .u32):=by and_intros <;> kernel_rfl
@[simp] theorem t94 : Ab7 Try.prog 98=some true∧AbM Try.prog 98=some 64∧Abh Try.prog 98=some [AV.int .u32 0,AV.int .u32 0,AV.int .u32 0,AV.int .u32 0,AV.int .u32 0,AV.int .u32 0,AV.int .u32 0,AV.int .u32 0,AV.int .u32 0,AV.int .u32 0,AV.int .u32 0,AV.int .u32 0,AV.int .u32 0,AV.int .u32 0,AV.int .u32 0,AV.int .u32 0,AV.int .u32 0,AV.int .u32 0,AV.int .u32 0,AV.int .u32 0,AV.int .u32 0,AV.int .u32 0,AV.int .u32 0,AV.int .u32 0,AV.int .u32 0,AV.int .u32 0,AV.int .u32 0,AV.int .u32 0,AV.int .u32 0,AV.int .u32 0,AV.int .u32 0,AV.int .u32 0,AV.int .u32 0,AV.int .u32 0,AV.int .u32 0,AV.int .u32 0,AV.int .u32 0,AV.int .u32 0,AV.int .u32 0,AV.int .u32 0,AV.int .u32 0,AV.int .u32 0,AV.int .u32 0,AV.int .u32 0,AV.int .u32 0,AV.int .u32 0,AV.int .u32 0,AV.int .u32 0,AV.int .u32 0,AV.int .u32 0,AV.int .u32 0,AV.int .u32 0,AV.int .u32 0,AV.int .u32 0,AV.int .u32 0,AV.int .u32 0,AV.int .u32 0,AV.int .u32 0,AV.int .u32 0,AV.int .u32 0,AV.int .u32 0,AV.int .u32 0,AV.int .u32 0,AV.int .u32 0]∧AdF Try.prog 98=some (64,1)∧AbZ Try.prog 98=some (AV.agg [AV.int .u32 0,AV.int .u32 0,AV.int .u32 0,AV.int .u32 0,AV.int .u32 0,AV.int .u32 0,AV.int .u32 0,AV.int .u32 0,AV.int .u32 0,AV.int .u32 0,AV.int .u32 0,AV.int .u32 0,AV.int .u32 0,AV.int .u32 0,AV.int .u32 0,AV.int .u32 0,AV.int .u32 0,AV.int .u32 0,AV.int .u32 0,AV.int .u32 0,AV.int .u32 0,AV.int .u32 0,AV.int .u32 0,AV.int .u32 0,AV.int .u32 0,AV.int .u32 0,AV.int .u32 0,AV.int .u32 0,AV.int .u32 0,AV.int .u32 0,AV.int .u32 0,AV.int .u32 0,AV.int .u32 0,AV.int .u32 0,AV.int .u32 0,AV.int .u32 0,AV.int .u32 0,AV.int .u32 0,AV.int .u32 0,AV.int .u32 0,AV.int .u32 0,AV.int .u32 0,AV.int .u32 0,AV.int .u32 0,AV.int .u32 0,AV.int .u32 0,AV.int .u32 0,AV.int .u32 0,AV.int .u32 0,AV.int .u32 0,AV.int .u32 0,AV.int .u32 0,AV.int .u32 0,AV.int .u32 0,AV.int .u32 0,AV.int .u32 0,AV.int .u32 0,AV.int .u32 0,AV.int .u32 0,AV.int .u32 0,AV.int .u32 0,AV.int .u32 0,AV.int .u32 0,AV.int .u32 0])∧AcD Try.prog 98=true∧AkZ Try.prog 98=some (64,Abg.int .u32):=by and_intros <;> kernel_rfl
@[simp] theorem t96 : Aaq Try.prog 102=some (95,1,4)∧Aj5 Try.prog 102=true∧Ab7 Try.prog 102=some false∧AbM Try.prog 102=some 1∧Abh Try.prog 102=some [AV.lst true true []]∧AbZ Try.prog 102=some (AV.lst true true [])∧AcU Try.prog 102=true∧Try.prog.underlying 102=some (Go.TypeDesc.slice 95):=by and_intros <;> kernel_rfl
@[simp] theorem Ar1 : Ab7 Try.prog 128=some true∧AbM Try.prog 128=some 3∧Abh Try.prog 128=some [AV.int .i64 0,AV.int .i64 0,AV.int .i64 0]∧AbZ Try.prog 128=some (AV.agg [AV.int .i64 0,AV.int .i64 0,AV.int .i64 0])∧AcD Try.prog 128=true∧Anq Try.prog 128=some [Abg.int .i64,Abg.int .i64,Abg.int .i64]:=by and_intros <;> kernel_rfl
@[simp] theorem Ar0 : Aav Try.prog 24 0=some (0,1)∧Aby Try.prog 24 0=some 0∧AcH Try.prog 24 0=some (0,none)∧Aav Try.prog 24 1=some (1,1)∧Aby Try.prog 24 1=some 1∧AcH Try.prog 24 1=some (1,none)∧Aav Try.prog 24 2=some (2,1)∧Aby Try.prog 24 2=some 2∧AcH Try.prog 24 2=some (2,none):=by and_intros <;> kernel_rfl
@[simp] theorem Arz : Aav Try.prog 26 0=some (0,1)∧Aby Try.prog 26 0=some 0∧AcH Try.prog 26 0=some (0,none)∧Aav Try.prog 26 1=some (1,3)∧Aby Try.prog 26 1=some 1∧AcH Try.prog 26 1=some (1,some 3)∧Aav Try.prog 26 2=some (4,1)∧Aby Try.prog 26 2=some 4∧AcH Try.prog 26 2=some (4,none)∧Aav Try.prog 26 3=some (5,1)∧Aby Try.prog 26 3=some 5∧AcH Try.prog 26 3=some (5,none)∧Aav Try.prog 26 4=some (6,1)∧Aby Try.prog 26 4=some 6∧AcH Try.prog 26 4=some (6,none):=by and_intros <;> kernel_rfl
@[simp] theorem Ary : Aav Try.prog 67 0=some (0,1)∧Aby Try.prog 67 0=some 0∧AcH Try.prog 67 0=some (0,none)∧Aav Try.prog 67 1=some (1,1)∧Aby Try.prog 67 1=some 1∧AcH Try.prog 67 1=some (1,none)∧Aav Try.prog 67 2=some (2,1)∧Aby Try.prog 67 2=some 2∧AcH Try.prog 67 2=some (2,none):=by and_intros <;> kernel_rfl
@[simp] theorem Arx : Aav Try.prog 81 0=some (0,1)∧Aby Try.prog 81 0=some 0∧AcH Try.prog 81 0=some (0,none)∧Aav Try.prog 81 1=some (1,1)∧Aby Try.prog 81 1=some 1∧AcH Try.prog 81 1=some (1,none):=by and_intros <;> kernel_rfl
@[simp] theorem Arw : Aav Try.prog 97 0=some (0,1)∧Aav Try.prog 97 1=some (1,1)∧Aav Try.prog 97 2=some (2,1)∧Aav Try.prog 97 3=some (3,1)∧Aav Try.prog 97 4=some (4,1)∧Aav Try.prog 97 5=some (5,1)∧Aav Try.prog 97 6=some (6,1)∧Aav Try.prog 97 7=some (7,1):=by and_intros <;> kernel_rfl
@[simp] theorem Arv : Aav Try.prog 98 0=some (0,1)∧Aav Try.prog 98 1=some (1,1)∧Aav Try.prog 98 2=some (2,1)∧Aav Try.prog 98 3=some (3,1)∧Aav Try.prog 98 4=some (4,1)∧Aav Try.prog 98 5=some (5,1)∧Aav Try.prog 98 6=some (6,1)∧Aav Try.prog 98 7=some (7,1)∧Aav Try.prog 98 8=some (8,1)∧Aav Try.prog 98 9=some (9,1)∧Aav Try.prog 98 10=some (10,1)∧Aav Try.prog 98 11=some (11,1)∧Aav Try.prog 98 12=some (12,1)∧Aav Try.prog 98 13=some (13,1)∧Aav Try.prog 98 14=some (14,1)∧Aav Try.prog 98 15=some (15,1)∧Aav Try.prog 98 16=some (16,1)∧Aav Try.prog 98 17=some (17,1)∧Aav Try.prog 98 18=some (18,1)∧Aav Try.prog 98 19=some (19,1)∧Aav Try.prog 98 20=some (20,1)∧Aav Try.prog 98 21=some (21,1)∧Aav Try.prog 98 22=some (22,1)∧Aav Try.prog 98 23=some (23,1)∧Aav Try.prog 98 24=some (24,1)∧Aav Try.prog 98 25=some (25,1)∧Aav Try.prog 98 26=some (26,1)∧Aav Try.prog 98 27=some (27,1)∧Aav Try.prog 98 28=some (28,1)∧Aav Try.prog 98 29=some (29,1)∧Aav Try.prog 98 30=some (30,1)∧Aav Try.prog 98 31=some (31,1)∧Aav Try.prog 98 32=some (32,1)∧Aav Try.prog 98 33=some (33,1)∧Aav Try.prog 98 34=some (34,1)∧Aav Try.prog 98 35=some (35,1)∧Aav Try.prog 98 36=some (36,1)∧Aav Try.prog 98 37=some (37,1)∧Aav Try.prog 98 38=some (38,1)∧Aav Try.prog 98 39=some (39,1):=by and_intros <;> kernel_rfl
@[simp] theorem Aru : Aav Try.prog 98 40=some (40,1)∧Aav Try.prog 98 41=some (41,1)∧Aav Try.prog 98 42=some (42,1)∧Aav Try.prog 98 43=some (43,1)∧Aav Try.prog 98 44=some (44,1)∧Aav Try.prog 98 45=some (45,1)∧Aav Try.prog 98 46=some (46,1)∧Aav Try.prog 98 47=some (47,1)∧Aav Try.prog 98 48=some (48,1)∧Aav Try.prog 98 49=some (49,1)∧Aav Try.prog 98 50=some (50,1)∧Aav Try.prog 98 51=some (51,1)∧Aav Try.prog 98 52=some (52,1)∧Aav Try.prog 98 53=some (53,1)∧Aav Try.prog 98 54=some (54,1)∧Aav Try.prog 98 55=some (55,1)∧Aav Try.prog 98 56=some (56,1)∧Aav Try.prog 98 57=some (57,1)∧Aav Try.prog 98 58=some (58,1)∧Aav Try.prog 98 59=some (59,1)∧Aav Try.prog 98 60=some (60,1)∧Aav Try.prog 98 61=some (61,1)∧Aav Try.prog 98 62=some (62,1)∧Aav Try.prog 98 63=some (63,1):=by and_intros <;> kernel_rfl
@[simp] theorem Art : Aav Try.prog 128 0=some (0,1)∧Aby Try.prog 128 0=some 0∧AcH Try.prog 128 0=some (0,none)∧Aav Try.prog 128 1=some (1,1)∧Aby Try.prog 128 1=some 1∧AcH Try.prog 128 1=some (1,none)∧Aav Try.prog 128 2=some (2,1)∧Aby Try.prog 128 2=some 2∧AcH Try.prog 128 2=some (2,none):=by and_intros <;> kernel_rfl
@[simp] theorem c0 : AaT Try.prog 4=true∧AaT Try.prog 7=true∧AaT Try.prog 9=true∧AaT Try.prog 10=true∧AaT Try.prog 11=true∧AaT Try.prog 12=true∧AaT Try.prog 13=true∧AaT Try.prog 14=true∧AaT Try.prog 15=true∧AaT Try.prog 16=true∧AaT Try.prog 17=true∧AaT Try.prog 24=true∧AaT Try.prog 26=true∧AaT Try.prog 28=true∧AaT Try.prog 30=true∧AaT Try.prog 34=true∧AaT Try.prog 35=true∧AaT Try.prog 36=true∧AaT Try.prog 37=true∧AaT Try.prog 38=true∧AaT Try.prog 39=true∧AaT Try.prog 40=true∧AaT Try.prog 41=true∧AaT Try.prog 42=true∧AaT Try.prog 43=true∧AaT Try.prog 44=true∧AaT Try.prog 45=true∧AaT Try.prog 46=true∧AaT Try.prog 65=true∧AaT Try.prog 66=true:=by and_intros <;> kernel_rfl
@[simp] theorem c30 : AaT Try.prog 67=true∧AaT Try.prog 68=true∧AaT Try.prog 69=true∧AaT Try.prog 70=true∧AaT Try.prog 71=true∧AaT Try.prog 72=true∧AaT Try.prog 73=true∧AaT Try.prog 74=true∧AaT Try.prog 75=true∧AaT Try.prog 76=true∧AaT Try.prog 77=true∧AaT Try.prog 78=true∧AaT Try.prog 79=true∧AaT Try.prog 80=true∧AaT Try.prog 105=true∧AaT Try.prog 106=true∧AaT Try.prog 107=true∧AaT Try.prog 108=true∧AaT Try.prog 109=true∧AaT Try.prog 110=true∧AaT Try.prog 111=true∧AaT Try.prog 112=true∧AaT Try.prog 113=true∧AaT Try.prog 121=true∧AaT Try.prog 122=true∧AaT Try.prog 123=true∧AaT Try.prog 128=true∧AaT Try.prog 129=true:=by and_intros <;> kernel_rfl
def dlt {β : Type} : List (Nat×β)→List Nat→List (Nat×β)→List (Nat×β)
 | [],_,al=>al
 | p::l,dl,al=>if dl.contains p.1 then dlt l dl al else p::dlt l dl al
section
variable {n : Nat} {c0 : Cx} {w0 : World} {Q : AcK} {N : Nat} {l0 l1 : List (Nat×AV)} {o0 o1 : List (Nat×Aaj)} {Φ : Prop}
abbrev Kt (n : Nat) (c0 : Cx) (w0 : World) (y : Code) (Q : AcK) (l0 : List (Nat×AV)) (o0 : List (Nat×Aaj)) (K : (Nat→AV)→AaY→Nat→Prop) : Prop:=∀ s' H' N',AW Try.prog n c0 w0 y Q s' H' N'→K s' H' N'
theorem SR {id : Nat} {ops : List Oper} {draw : Bool} {y : Code} (mu : List Nat) (gs : List (Option (Nat×Bool)))
 (h : ∀ (G : Log→Prop) (K : (Nat→AV)→AaY→Nat→Prop),(∀ lg,(!draw||AdE ops lg)=true→G lg)→Kt n c0 w0 y Q l0 o0 K→Adj Try.prog mu ops gs (mkS l0) (mkH o0) N [] (fun s' H' N' lg=>G lg∧K s' H' N'))
 (hok : AhL n ops gs=true:=by kernel_rfl) : AW Try.prog n c0 w0 (.seq (.region id ops.toArray draw) y) Q (mkS l0) (mkH o0) N:=AW.seqR AmE mu gs hok h
theorem TL {A : Prop} {G : Log→Prop} {c : Log→Bool} {y : Code} {K : (Nat→AV)→AaY→Nat→Prop} (F : Φ) (g : ∀ lg,c lg=true→G lg) (r : Kt n c0 w0 y Q l0 o0 K) (dl : List Nat) (al : List (Nat×AV)) (dh : List Nat) (ah : List (Nat×Aaj)) (M : Nat) (k : AW Try.prog n c0 w0 y Q (mkS l1) (mkH o1) M)
 (e1 : dlt l0 dl al=l1:=by simp only [dlt,List.contains_cons,List.contains_nil,Nat.reduceBEq,Bool.or_false,Bool.or_true,Bool.or_self,Bool.false_eq_true,reduceIte] <;> rfl) (e2 : dlt o0 dh ah=o1:=by simp only [dlt,List.contains_cons,List.contains_nil,Nat.reduceBEq,Bool.or_false,Bool.or_true,Bool.or_self,Bool.false_eq_true,reduceIte] <;> rfl)
 (h : Φ→(∀ lg,c lg=true→G lg)→(∀ s' H' N',(∀ p ∈ l1,s' p.1=p.2)→(∀ p ∈ o1,H' p.1=some p.2)→N'≤M→K s' H' N')→A:=by intro F g r; try simp [F]; and_intros <;> first | exact g _ (by kernel_rfl) | exact r _ _ _ (by simp [F]) (by simp [F]) (by simp) | omega | (simp [F,maxLen] <;> omega)) : A :=
 h F g fun _ _ _ h1 h2 h3=>r _ _ _ (WK l1 o1 M h1 h2 k h3)
theorem SW {id : Nat} {ops : List Oper} {draw : Bool} {y : Code} (F : Φ) (mu : List Nat) (gs : List (Option (Nat×Bool))) (dl : List Nat) (al : List (Nat×AV)) (dh : List Nat) (ah : List (Nat×Aaj)) (M : Nat) (k : AW Try.prog n c0 w0 y Q (mkS l1) (mkH o1) M)
 (e1 : dlt l0 dl al=l1:=by simp only [dlt,List.contains_cons,List.contains_nil,Nat.reduceBEq,Bool.or_false,Bool.or_true,Bool.or_self,Bool.false_eq_true,reduceIte] <;> rfl) (e2 : dlt o0 dh ah=o1:=by simp only [dlt,List.contains_cons,List.contains_nil,Nat.reduceBEq,Bool.or_false,Bool.or_true,Bool.or_self,Bool.false_eq_true,reduceIte] <;> rfl)
 (h : ∀ (G : Log→Prop) (K : (Nat→AV)→AaY→Nat→Prop),Φ→(∀ lg,(!draw||AdE ops lg)=true→G lg)→(∀ s' H' N',(∀ p ∈ l1,s' p.1=p.2)→(∀ p ∈ o1,H' p.1=some p.2)→N'≤M→K s' H' N')→Adj Try.prog mu ops gs (mkS l0) (mkH o0) N [] (fun s' H' N' lg=>G lg∧K s' H' N'):=by intro G K F g r; try simp [F]; and_intros <;> first | exact g _ (by kernel_rfl) | exact r _ _ _ (by simp [F]) (by simp [F]) (by simp) | omega | (simp [F,maxLen] <;> omega))
 (hok : AhL n ops gs=true:=by kernel_rfl) : AW Try.prog n c0 w0 (.seq (.region id ops.toArray draw) y) Q (mkS l0) (mkH o0) N :=
 SQ mu gs (fun G K g r=>h G K F g fun _ _ _ h1 h2 h3=>r _ _ _ (WK l1 o1 M h1 h2 k h3)) hok
theorem CL {id : Nat} {ops : List Oper} {draw : Bool} {y : Code} {Ψ : Prop} (F : Φ) (mu : List Nat) (gs : List (Option (Nat×Bool))) (hc : Ψ) (dl : List Nat) (al : List (Nat×AV)) (dh : List Nat) (ah : List (Nat×Aaj)) (M : Nat) (k : AW Try.prog n c0 w0 y Q (mkS l1) (mkH o1) M)
 (e1 : dlt l0 dl al=l1:=by simp only [dlt,List.contains_cons,List.contains_nil,Nat.reduceBEq,Bool.or_false,Bool.or_true,Bool.or_self,Bool.false_eq_true,reduceIte] <;> rfl) (e2 : dlt o0 dh ah=o1:=by simp only [dlt,List.contains_cons,List.contains_nil,Nat.reduceBEq,Bool.or_false,Bool.or_true,Bool.or_self,Bool.false_eq_true,reduceIte] <;> rfl)
 (h : ∀ (G : Log→Prop) (K : (Nat→AV)→AaY→Nat→Prop),Φ→Ψ→(∀ lg,(!draw||AdE ops lg)=true→G lg)→(∀ s' H' N',(∀ p ∈ l1,s' p.1=p.2)→(∀ p ∈ o1,H' p.1=some p.2)→N'≤M→K s' H' N')→Adj Try.prog mu ops gs (mkS l0) (mkH o0) N [] (fun s' H' N' lg=>G lg∧K s' H' N'):=by intro G K F hc g r; try simp [F]; and_intros; (try any_goals (first | omega | (simp [F,maxLen] <;> omega))); refine AC hc (by first | exact .nil | (repeat' first | exact .nil | refine .cons (.same (by simp [F])) ?_)) ?_; try simp [F]; and_intros <;> first | exact g _ (by kernel_rfl) | exact r _ _ _ (by simp [F]) (by simp [F]) (by simp) | omega | (simp [F,maxLen] <;> omega))
 (hok : AhL n ops gs=true:=by kernel_rfl) : AW Try.prog n c0 w0 (.seq (.region id ops.toArray draw) y) Q (mkS l0) (mkH o0) N :=
 SQ mu gs (fun G K g r=>h G K F hc g fun _ _ _ h1 h2 h3=>r _ _ _ (WK l1 o1 M h1 h2 k h3)) hok
end
end Go.Proofs.YtomgdcnbceiggaaBaT
namespace Go.TF
open Go Go.Abs
end Go.TF
