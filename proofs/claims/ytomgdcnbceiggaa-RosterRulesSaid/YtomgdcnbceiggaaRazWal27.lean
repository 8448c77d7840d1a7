import Derived.Test.YtomgdcnbceiggaaRazLay26
import Derived.Test.YtomgdcnbceiggaaRazLay22
import Derived.Test.YtomgdcnbceiggaaProg
import Derived.KernelRfl
set_option linter.unusedVariables false
set_option maxRecDepth 100000
namespace Go.TF
open Go Go.Abs
abbrev Iz (n : Int) : AV := .int .i64 n
abbrev Lz (l : List Int) : AV := .lst false false (l.map (.int .i64))
abbrev Lb (l : List Int) : AV := .lst false false (l.map (.int .u8))
abbrev Lw (l : List Int) : AV := .lst false false (l.map (.int .u32))
structure Aam where
  From : Int
  To : Int
  Level : Int
@[simp] def Aam.av (x : Aam) : AV:=AV.agg [AV.int .i64 x.From,AV.int .i64 x.To,AV.int .i64 x.Level]
@[simp] theorem Aam.okEls (l : List Aam) : okEls 3 (l.map Aam.av)↔True:=iff_true_intro (AcV.2 fun x hx=>by
  simp only [List.mem_map] at hx
  obtain ⟨b,_,rfl⟩:=hx
  simp)
@[simp] theorem Aam.ids (S : Nat→Prop) (l : List Aam) : Aat S (l.map Aam.av)↔True:=iff_true_intro (Ahh (by simp) l)
def Ac9 (k : Nat) (v0 : (List Int)) : Option Bool :=
  some (decide ((v0.length : Int)≤400))
def Ab9 (k : Nat) (v0 : Int) : Option Bool :=
  if 0≤v0 then
    some (decide (v0<64))
  else
    some false
def Aaj.J2 (k : Nat) (v2 : Int) (kb1 : Int→(List Bool)→Option (List Bool)) (v4 : (List Bool)) : Option (List Bool) :=
  kb1 (IntKind.wrap .i64 (v2+1)) v4
def Aaj.L1 (k : Nat) (v0 : (List Int)) : Nat→Int→(List Bool)→Option (List Bool)
  | 0,_,_=>none
  | n+1,v2,v3 =>
    if v2<(v0.length : Int) then
      idx v0 v2 fun v5 =>
      Abn (Ab9 k v5) fun v6 =>
      if v6=true then
        chk ((0 : Int)≤v5∧v5<64∧(v5).toNat<v3.length) <|
        Aaj.J2 k v2 (fun v2_ v3_=>Aaj.L1 k v0 n v2_ v3_) (v3.set (v5).toNat true)
      else
        Aaj.J2 k v2 (fun v2_ v3_=>Aaj.L1 k v0 n v2_ v3_) v3
    else
      chk (v3.length=64) <|
      chk ((List.replicate 64 false).length=64∧v3.length=64) <|
      chk (v3.length=64) <|
      some v3
def Aaj (k : Nat) (v0 : (List Int)) : Option (List Bool) :=
  Aaj.L1 k v0 k 0 (List.replicate 64 false)
def AaR.J2 (k : Nat) (v2 : Int) (kb1 : Int→Option Bool) : Option Bool :=
  kb1 (IntKind.wrap .i64 (v2+1))
def AaR.L1 (k : Nat) (v0 : (List Int)) : Nat→Int→Option Bool
  | 0,_=>none
  | n+1,v2 =>
    if v2<(v0.length : Int) then
      idx v0 v2 fun v3 =>
      Abn (Ab9 k v3) fun v4 =>
      if (!v4)=true then
        some false
      else
        if 0<v2 then
          idx v0 (IntKind.wrap .i64 (v2-1)) fun v5 =>
          if v3≤v5 then
            some false
          else
            AaR.J2 k v2 (fun v2_=>AaR.L1 k v0 n v2_)
        else
          AaR.J2 k v2 (fun v2_=>AaR.L1 k v0 n v2_)
    else
      Abn (Aaj k v0) fun v6 =>
      chk (v6.length=64) <|
      some (v6 !=(List.replicate 64 false))
def AaR (k : Nat) (v0 : (List Int)) : Option Bool :=
  AaR.L1 k v0 k 0
def Aaf.L1 (k : Nat) (v0 : (List Int)) : Nat→Int→(List Int)→Option ((List Int)×Int)
  | 0,_,_=>none
  | n+1,v4,v5 =>
    if v4<(v0.length : Int) then
      idx v0 v4 fun v6 =>
      chk ((0 : Int)≤(IntKind.wrap .i64 (Int.tdiv v6 32))∧(IntKind.wrap .i64 (Int.tdiv v6 32)).toNat<v5.length) <|
      idx v5 (IntKind.wrap .i64 (Int.tdiv v6 32)) fun v7 =>
      chk ((0 : Int)≤Int.tmod v6 32) <|
      chk ((0 : Int)≤(IntKind.wrap .i64 (Int.tdiv v6 32))∧(IntKind.wrap .i64 (Int.tdiv v6 32)).toNat<v5.length) <|
      Aaf.L1 k v0 n (IntKind.wrap .i64 (v4+1)) (v5.set (IntKind.wrap .i64 (Int.tdiv v6 32)).toNat (AcZ .or .i64 v7 (IntKind.wrap .i64 (1*2 ^ (min ((Int.tmod v6 32).toNat) 64)))))
    else
      some (v5,0)
def Aaf (k : Nat) (v0 : (List Int)) : Option ((List Int)×Int) :=
  Abn (AaR k v0) fun v3 =>
  if (!v3)=true then
    some (([] : List Int),43)
  else
    Aaf.L1 k v0 k 0 ([0,0] : List Int)
def AbP (k : Nat) (v0 : Int) : Option Bool :=
  if v0<0 then
    some true
  else
    some (decide (4294967296≤v0))
def AaC.L1 (k : Nat) (v0 : (List Int)) : Nat→Int→Option Int
  | 0,_=>none
  | n+1,v2 =>
    if v2<(v0.length : Int) then
      idx v0 v2 fun v3 =>
      Abn (AbP k v3) fun v4 =>
      if v4=true then
        some v2
      else
        AaC.L1 k v0 n (IntKind.wrap .i64 (v2+1))
    else
      some (-1)
def AaC (k : Nat) (v0 : (List Int)) : Option Int :=
  AaC.L1 k v0 k 0
def AaT (k : Nat) (v0 : (List Int)) : Option Bool :=
  Abn (AaC k v0) fun v2 =>
  some (decide (0≤v2))
def AaH.J3 (k : Nat) (v3 : Int) (kb2 : Int→(List Int)→Option ((List Int)×Int)) (v5 : (List Int)) : Option ((List Int)×Int) :=
  kb2 (IntKind.wrap .i64 (v3+1)) v5
def AaH.L2 (k : Nat) (v0 : (List Int)) : Nat→Int→(List Int)→Option ((List Int)×Int)
  | 0,_,_=>none
  | n+1,v3,v4 =>
    if v3<64 then
      idx v0 (IntKind.wrap .i64 (Int.tdiv v3 32)) fun v6 =>
      chk ((0 : Int)≤Int.tmod v3 32) <|
      if (AcZ .and .i64 (Int.fdiv v6 (2 ^ (min ((Int.tmod v3 32).toNat) 64))) 1)=1 then
        chk ((v4.length+([v3] : List Int).length)*8≤140737488355328) <|
        AaH.J3 k v3 (fun v3_ v4_=>AaH.L2 k v0 n v3_ v4_) (v4++([v3] : List Int))
      else
        AaH.J3 k v3 (fun v3_ v4_=>AaH.L2 k v0 n v3_ v4_) v4
    else
      some (v4,0)
def AaH.J1 (k : Nat) (v0 : (List Int)) : Option ((List Int)×Int) :=
  AaH.L2 k v0 k 0 ([] : List Int)
def AaH (k : Nat) (v0 : (List Int)) : Option ((List Int)×Int) :=
  if (v0.length : Int)≠2 then
    some (([] : List Int),43)
  else
    Abn (AaT k v0) fun v7 =>
    if v7=true then
      some (([] : List Int),43)
    else
      idx v0 0 fun v8 =>
      if v8=0 then
        idx v0 1 fun v9 =>
        if v9=0 then
          some (([] : List Int),43)
        else
          AaH.J1 k v0
      else
        AaH.J1 k v0
def AaX.L1 (k : Nat) (v0 : (List Int)) (v1 : (List Int)) : Nat→Int→Option Bool
  | 0,_=>none
  | n+1,v3 =>
    if v3<(v0.length : Int) then
      idx v0 v3 fun v4 =>
      idx v1 v3 fun v5 =>
      if v4≠v5 then
        some false
      else
        AaX.L1 k v0 v1 n (IntKind.wrap .i64 (v3+1))
    else
      some true
def AaX (k : Nat) (v0 : (List Int)) (v1 : (List Int)) : Option Bool :=
  if (v0.length : Int)≠(v1.length : Int) then
    some false
  else
    AaX.L1 k v0 v1 k 0
def Abe (k : Nat) : Option Bool :=
  AeN (Aaf k ([0,3,33] : List Int)) fun v1 v2 =>
  AeN (AaH k v1) fun v3 v4 =>
  if v2=0 then
    if v4=0 then
      Abn (AaX k v1 ([9,2] : List Int)) fun v5 =>
      if v5=true then
        Abn (AaX k v3 ([0,3,33] : List Int)) fun v6 =>
        some v6
      else
        some false
    else
      some false
  else
    some false
def Aeg (k : Nat) (v0 : (List Int)) : Option ((List Int)×Int) :=
  some (v0,0)
def Adn (k : Nat) (v0 : (List Int)) : Option ((List Int)×Int) :=
  AeN (Aeg k v0) fun v3 v4 =>
  some (v3,v4)
def Abj.J1 (k : Nat) (v3 : Int) : Option Int :=
  some v3
def Abj (k : Nat) (v0 : Int) (v1 : Int) : Option Int :=
  if v1<1 then
    some 0
  else
    chk (v1≠(0 : Int)) <|
    if Int.tmod v0 v1<0 then
      Abj.J1 k (IntKind.wrap .i64 (Int.tmod v0 v1+v1))
    else
      Abj.J1 k (Int.tmod v0 v1)
def Aan (k : Nat) (v0 : (List Int)) (v1 : Int) (v2 : Int) : Option (Int×Int) :=
  if (v0.length : Int)≤v1 then
    some (0,v1)
  else
    idx v0 (IntKind.wrap .i64 (IntKind.wrap .i64 (v1+1)-1)) fun v5 =>
    Abn (Abj k v5 v2) fun v6 =>
    some (v6,IntKind.wrap .i64 (v1+1))
def Aal (k : Nat) (v0 : (List Int)) (v1 : Int) (v2 : (List Int)) : Option (Int×Int) :=
  AeN (Aan k v0 v1 (v2.length : Int)) fun v5 v6 =>
  idx v2 v5 fun v7 =>
  some (v7,v6)
def Abk (k : Nat) (v0 : (List Int)) (v1 : Int) (v2 : Int) : Option (Bool×Int) :=
  AeN (Aan k v0 v1 v2) fun v5 v6 =>
  some ((v5==(IntKind.wrap .i64 (v2-1))),v6)
def Aa2.J1 (k : Nat) (v10 : Int) (v12 : Int) (v14 : Int) (v16 : Int) (v18 : Int) (v20 : Int) (v22 : Int) (v24 : (List Int)) (v25 : Int) : Option ((List Int)×(List Int)×(List Int)×Int×Int×Int×Int×Int) :=
  chk ((0 : Int)≤0∧(0 : Int).toNat<([IntKind.wrap .i64 (1+v18),IntKind.wrap .i64 (1+v20)] : List Int).length) <|
  idx ([IntKind.wrap .i64 (1+v18),IntKind.wrap .i64 (1+v20)] : List Int) (0 : Int) fun v26 =>
  chk ((0 : Int)≤1∧(1 : Int).toNat<([IntKind.wrap .i64 (1+v18),IntKind.wrap .i64 (1+v20)] : List Int).length) <|
  idx ([IntKind.wrap .i64 (1+v18),IntKind.wrap .i64 (1+v20)] : List Int) (1 : Int) fun v27 =>
  Al9 (if v27<v26 then v27 else v26) fun v28 =>
  chk ((0 : Int)≤1∧(1 : Int).toNat<([IntKind.wrap .i64 (1+v18),IntKind.wrap .i64 (1+v20)] : List Int).length) <|
  some (([0,1,2,3,4,5,6] : List Int).take (IntKind.wrap .i64 (2+v16)).toNat,v24,([IntKind.wrap .i64 (1+v18),IntKind.wrap .i64 (1+v20)] : List Int).set (1 : Int).toNat v28,v22,v10,v12,v14,v25)
def Aa2 (k : Nat) (v0 : (List Int)) (v1 : Int) : Option ((List Int)×(List Int)×(List Int)×Int×Int×Int×Int×Int) :=
  AeN (Aal k v0 v1 ([3,1,4,5,2] : List Int)) fun v10 v11 =>
  AeN (Aal k v0 v11 ([10,20,5,1] : List Int)) fun v12 v13 =>
  AeN (Aal k v0 v13 ([1,2,0,5] : List Int)) fun v14 v15 =>
  AeN (Aan k v0 v15 5) fun v16 v17 =>
  chk ((0 : Int)≤IntKind.wrap .i64 (2+v16)∧(IntKind.wrap .i64 (2+v16) : Int)≤(([0,1,2,3,4,5,6] : List Int).length : Int)) <|
  AeN (Aal k v0 v17 ([4,8,2] : List Int)) fun v18 v19 =>
  AeN (Aal k v0 v19 ([2,1,0] : List Int)) fun v20 v21 =>
  AeN (Aal k v0 v21 ([1,1,2] : List Int)) fun v22 v23 =>
  AeN (Abk k v0 v23 3) fun v29 v30 =>
  if v29=true then
    Aa2.J1 k v10 v12 v14 v16 v18 v20 v22 ([0,1] : List Int) v30
  else
    Aa2.J1 k v10 v12 v14 v16 v18 v20 v22 ([0] : List Int) v30
def Aap.J1 (k : Nat) (v17 : (List Int)) (v18 : (List Int)) (v19 : (List Int)) (v20 : Int) (v21 : Int) (v22 : Int) (v23 : Int) (v24 : Int) : Option ((List Int)×(List Int)×(List Int)×Int×Int×Int×Int×Int) :=
  some (v17,v18,v19,v20,v21,v22,v23,v24)
def Aap (k : Nat) (v0 : (List Int)) (v1 : Int) (v2 : (List Int)) (v3 : (List Int)) (v4 : (List Int)) (v5 : Int) (v6 : Int) (v7 : Int) (v8 : Int) : Option ((List Int)×(List Int)×(List Int)×Int×Int×Int×Int×Int) :=
  AeN (Aan k v0 v1 7) fun v25 v26 =>
  if v25=0 then
    AeN (Aan k v0 v26 5) fun v27 v28 =>
    if v27=0 then
      Aap.J1 k ([] : List Int) v3 v4 v5 v6 v7 v8 v28
    else
      if v27=1 then
        Aap.J1 k ([1,1] : List Int) v3 v4 v5 v6 v7 v8 v28
      else
        if v27=2 then
          Aap.J1 k ([-1] : List Int) v3 v4 v5 v6 v7 v8 v28
        else
          if v27=3 then
            Aap.J1 k ([64] : List Int) v3 v4 v5 v6 v7 v8 v28
          else
            if v27=4 then
              Aap.J1 k ([3,2] : List Int) v3 v4 v5 v6 v7 v8 v28
            else
              none
  else
    if v25=1 then
      AeN (Aal k v0 v26 ([0,-1,9,10] : List Int)) fun v29 v30 =>
      Aap.J1 k v2 v3 v4 v5 v29 v7 v8 v30
    else
      if v25=2 then
        AeN (Aal k v0 v26 ([0,-1,1000000,1000001] : List Int)) fun v31 v32 =>
        Aap.J1 k v2 v3 v4 v5 v6 v31 v8 v32
      else
        if v25=3 then
          AeN (Aal k v0 v26 ([-1,64,65] : List Int)) fun v33 v34 =>
          Aap.J1 k v2 v3 v4 v5 v6 v7 v33 v34
        else
          if v25=4 then
            AeN (Aan k v0 v26 3) fun v35 v36 =>
            if v35=0 then
              Aap.J1 k v2 ([] : List Int) v4 v5 v6 v7 v8 v36
            else
              if v35=1 then
                Aap.J1 k v2 ([64] : List Int) v4 v5 v6 v7 v8 v36
              else
                if v35=2 then
                  Aap.J1 k v2 ([1,0] : List Int) v4 v5 v6 v7 v8 v36
                else
                  none
          else
            if v25=5 then
              AeN (Aan k v0 v26 4) fun v37 v38 =>
              if v37=0 then
                Aap.J1 k v2 v3 ([] : List Int) v5 v6 v7 v8 v38
              else
                if v37=1 then
                  Aap.J1 k v2 v3 ([1,2] : List Int) v5 v6 v7 v8 v38
                else
                  if v37=2 then
                    Aap.J1 k v2 v3 ([0] : List Int) v5 v6 v7 v8 v38
                  else
                    if v37=3 then
                      Aap.J1 k v2 v3 ([1001] : List Int) v5 v6 v7 v8 v38
                    else
                      none
            else
              AeN (Aal k v0 v26 ([0,4,-1] : List Int)) fun v39 v40 =>
              Aap.J1 k v2 v3 v4 v39 v6 v7 v8 v40
def Abb (k : Nat) (v0 : Int) (v1 : Int) (v2 : Int) : Option Bool :=
  if v1≤v0 then
    some (decide (v0≤v2))
  else
    some false
def AaP.J2 (k : Nat) (v4 : Int) (kb1 : Int→Option Bool) : Option Bool :=
  kb1 (IntKind.wrap .i64 (v4+1))
def AaP.L1 (k : Nat) (v0 : (List Int)) (v1 : Int) (v2 : Int) : Nat→Int→Option Bool
  | 0,_=>none
  | n+1,v4 =>
    if v4<(v0.length : Int) then
      idx v0 v4 fun v5 =>
      if v5<v1 then
        some false
      else
        if v2<v5 then
          some false
        else
          if 0<v4 then
            idx v0 (IntKind.wrap .i64 (v4-1)) fun v6 =>
            if v5≤v6 then
              some false
            else
              AaP.J2 k v4 (fun v4_=>AaP.L1 k v0 v1 v2 n v4_)
          else
            AaP.J2 k v4 (fun v4_=>AaP.L1 k v0 v1 v2 n v4_)
    else
      some true
def AaP (k : Nat) (v0 : (List Int)) (v1 : Int) (v2 : Int) : Option Bool :=
  AaP.L1 k v0 v1 v2 k 0
def Aaa.L1 (k : Nat) (v0 : (List Int)) (v1 : Int) : Nat→Int→Option Int
  | 0,_=>none
  | n+1,v3 =>
    if v3<(v0.length : Int) then
      idx v0 v3 fun v4 =>
      if v1=v4 then
        some v3
      else
        Aaa.L1 k v0 v1 n (IntKind.wrap .i64 (v3+1))
    else
      some (-1)
def Aaa (k : Nat) (v0 : (List Int)) (v1 : Int) : Option Int :=
  Aaa.L1 k v0 v1 k 0
def Aay (k : Nat) (v0 : (List Int)) (v1 : Int) : Option Bool :=
  Abn (Aaa k v0 v1) fun v3 =>
  some (decide (0≤v3))
def Ad5 (k : Nat) (v0 : Int) (v1 : (List Aam)) (v2 : (List Int)) (v3 : Int) (v4 : Int) (v5 : Int) : Option Bool :=
  Abn (Abb k v3 0 (IntKind.wrap .i64 (v0-1))) fun v7 =>
  if v7=true then
    Abn (Abb k v4 0 (IntKind.wrap .i64 (v0-1))) fun v8 =>
    if v8=true then
      if v3≠v4 then
        Abn (Aay k v2 v3) fun v9 =>
        if (!v9)=true then
          Abn (Aay k v2 v4) fun v10 =>
          some (!v10)
        else
          some false
      else
        some false
    else
      some false
  else
    some false
def Ab7 (k : Nat) (v0 : Int) : Option Bool :=
  some (v0 !=v0)
def Abl (k : Nat) (v0 : Int) (v1 : Int) : Option Int :=
  Abn (Ab7 k v0) fun v3 =>
  Abn (Ab7 k v1) fun v4 =>
  if v3=true then
    if v4=true then
      some 0
    else
      some (-1)
  else
    if v4=true then
      some 1
    else
      if v0<v1 then
        some (-1)
      else
        if v1<v0 then
          some 1
        else
          some 0
def AbW.L1 (k : Nat) (v0 : (List Int)) : Nat→Int→Option Int
  | 0,_=>none
  | n+1,v2 =>
    if v2<(v0.length : Int) then
      idx v0 v2 fun v3 =>
      if v3≠0 then
        some v3
      else
        AbW.L1 k v0 n (IntKind.wrap .i64 (v2+1))
    else
      some 0
def AbW (k : Nat) (v0 : (List Int)) : Option Int :=
  AbW.L1 k v0 k 0
def Ach (k : Nat) (v0 : Int) (v1 : Int) (v2 : Int) (v3 : Int) (v4 : Int) (v5 : Int) : Option Int :=
  Abn (Abl k v0 v3) fun v7 =>
  Abn (Abl k v1 v4) fun v8 =>
  Abn (AbW k ([v7,v8] : List Int)) fun v9 =>
  some v9
def Aad.J2 (k : Nat) (v6 : Int) (kb1 : Int→Option Int) : Option Int :=
  kb1 (IntKind.wrap .i64 (v6+1))
def Aad.L1 (k : Nat) (v0 : Int) (v1 : (List Aam)) (v2 : (List Int)) : Nat→Int→Option Int
  | 0,_=>none
  | n+1,v6 =>
    if v6<(v1.length : Int) then
      idx v1 v6 fun v7 =>
      Abn (Ad5 k v0 v1 v2 v7.From v7.To v7.Level) fun v8 =>
      if (!v8)=true then
        some 14
      else
        Abn (Abb k v7.Level 1 3) fun v9 =>
        if (!v9)=true then
          some 14
        else
          if 0<v6 then
            idx v1 (IntKind.wrap .i64 (v6-1)) fun v10 =>
            Abn (Ach k v10.From v10.To v10.Level v7.From v7.To v7.Level) fun v11 =>
            if 0≤v11 then
              some 14
            else
              Aad.J2 k v6 (fun v6_=>Aad.L1 k v0 v1 v2 n v6_)
          else
            Aad.J2 k v6 (fun v6_=>Aad.L1 k v0 v1 v2 n v6_)
    else
      some 0
def Aad (k : Nat) (v0 : Int) (v1 : (List Aam)) (v2 : (List Int)) : Option Int :=
  Abn (Abb k v0 0 64) fun v4 =>
  if (!v4)=true then
    some 14
  else
    if 500<(v1.length : Int) then
      some 14
    else
      Abn (AaP k v2 0 (IntKind.wrap .i64 (v0-1))) fun v5 =>
      if (!v5)=true then
        some 14
      else
        Aad.L1 k v0 v1 v2 k 0
def AaK.J2 (k : Nat) (v11 : Int) (kb1 : Int→Option Int) : Option Int :=
  kb1 (IntKind.wrap .i64 (v11+1))
def AaK.L1 (k : Nat) (v4 : (List Int)) : Nat→Int→Option Int
  | 0,_=>none
  | n+1,v11 =>
    if v11<(v4.length : Int) then
      idx v4 v11 fun v12 =>
      Abn (Abb k v12 1 1000) fun v13 =>
      if (!v13)=true then
        some 15
      else
        if 0<v11 then
          idx v4 (IntKind.wrap .i64 (v11-1)) fun v14 =>
          if v14<v12 then
            some 15
          else
            AaK.J2 k v11 (fun v11_=>AaK.L1 k v4 n v11_)
        else
          AaK.J2 k v11 (fun v11_=>AaK.L1 k v4 n v11_)
    else
      some 0
def AaK (k : Nat) (v0 : Int) (v1 : (List Aam)) (v2 : (List Int)) (v3 : (List Int)) (v4 : (List Int)) (v5 : Int) : Option Int :=
  Abn (Aad k v0 v1 v2) fun v7 =>
  if v7≠0 then
    some v7
  else
    if (v3.length : Int)=0 then
      some 15
    else
      Abn (AaP k v3 0 (IntKind.wrap .i64 (v0-1))) fun v8 =>
      if (!v8)=true then
        some 15
      else
        Abn (Abb k (v4.length : Int) 1 8) fun v9 =>
        if (!v9)=true then
          some 15
        else
          Abn (Abb k v5 1 3) fun v10 =>
          if (!v10)=true then
            some 15
          else
            AaK.L1 k v4 k 0
def AbD (k : Nat) (v0 : (List Int)) (v1 : (List Int)) (v2 : (List Int)) (v3 : Int) (v4 : Int) (v5 : Int) (v6 : Int) : Option Int :=
  Abn (AaR k v0) fun v8 =>
  if (!v8)=true then
    some 43
  else
    Abn (AaK k 64 ([] : List Aam) ([] : List Int) v1 v2 v3) fun v9 =>
    if v9≠0 then
      some v9
    else
      if v4<1 then
        some 40
      else
        if 9<v4 then
          some 40
        else
          if v5<1 then
            some 40
          else
            if 1000000<v5 then
              some 40
            else
              if v6<0 then
                some 40
              else
                if 64<v6 then
                  some 40
                else
                  some 0
def AaY.J2 (k : Nat) (v2 : Int) (kb1 : Int→Option Bool) : Option Bool :=
  kb1 (IntKind.wrap .i64 (v2+1))
def AaY.L1 (k : Nat) (v0 : (List Int)) : Nat→Int→Option Bool
  | 0,_=>none
  | n+1,v2 =>
    if v2<(v0.length : Int) then
      idx v0 v2 fun v3 =>
      if v3<0 then
        some false
      else
        if 64≤v3 then
          some false
        else
          if 0<v2 then
            idx v0 (IntKind.wrap .i64 (v2-1)) fun v4 =>
            if v3≤v4 then
              some false
            else
              AaY.J2 k v2 (fun v2_=>AaY.L1 k v0 n v2_)
          else
            AaY.J2 k v2 (fun v2_=>AaY.L1 k v0 n v2_)
    else
      some true
def AaY (k : Nat) (v0 : (List Int)) : Option Bool :=
  if (v0.length : Int)=0 then
    some false
  else
    if 64<(v0.length : Int) then
      some false
    else
      AaY.L1 k v0 k 0
def Aag.J2 (k : Nat) (v3 : Int) (kb1 : Int→Option Bool) : Option Bool :=
  kb1 (IntKind.wrap .i64 (v3+1))
def Aag.L1 (k : Nat) (v0 : (List Int)) (v1 : Int) : Nat→Int→Option Bool
  | 0,_=>none
  | n+1,v3 =>
    if v3<(v0.length : Int) then
      idx v0 v3 fun v4 =>
      if v4<0 then
        some false
      else
        if v1≤v4 then
          some false
        else
          if 0<v3 then
            idx v0 (IntKind.wrap .i64 (v3-1)) fun v5 =>
            if v4≤v5 then
              some false
            else
              Aag.J2 k v3 (fun v3_=>Aag.L1 k v0 v1 n v3_)
          else
            Aag.J2 k v3 (fun v3_=>Aag.L1 k v0 v1 n v3_)
    else
      some true
def Aag (k : Nat) (v0 : (List Int)) (v1 : Int) : Option Bool :=
  Aag.L1 k v0 v1 k 0
def AbK.L1 (k : Nat) (v0 : (List Int)) (v1 : Int) : Nat→Int→Option Bool
  | 0,_=>none
  | n+1,v3 =>
    if v3<(v0.length : Int) then
      idx v0 v3 fun v4 =>
      if v4=v1 then
        some true
      else
        AbK.L1 k v0 v1 n (IntKind.wrap .i64 (v3+1))
    else
      some false
def AbK (k : Nat) (v0 : (List Int)) (v1 : Int) : Option Bool :=
  AbK.L1 k v0 v1 k 0
def Acx (k : Nat) (v0 : Int) (v1 : Int) (v2 : Int) (v3 : Int) (v4 : Int) (v5 : Int) : Option Bool :=
  if v0<v3 then
    some true
  else
    if v0=v3 then
      some (decide (v1<v4))
    else
      some false
def AaS.J2 (k : Nat) (v5 : Int) (kb1 : Int→Option Int) (v7 : Bool) : Option Int :=
  if v7=true then
    some 14
  else
    kb1 (IntKind.wrap .i64 (v5+1))
def AaS.L1 (k : Nat) (v0 : Int) (v1 : (List Aam)) (v2 : (List Int)) : Nat→Int→Option Int
  | 0,_=>none
  | n+1,v5 =>
    if v5<(v1.length : Int) then
      idx v1 v5 fun v6 =>
      if v6.From<0 then
        some 14
      else
        if v0≤v6.From then
          some 14
        else
          if v6.To<0 then
            some 14
          else
            if v0≤v6.To then
              some 14
            else
              if v6.From=v6.To then
                some 14
              else
                if v6.Level<1 then
                  some 14
                else
                  if 3<v6.Level then
                    some 14
                  else
                    if 0<v5 then
                      idx v1 (IntKind.wrap .i64 (v5-1)) fun v8 =>
                      Abn (Acx k v8.From v8.To v8.Level v6.From v6.To v6.Level) fun v9 =>
                      if (!v9)=true then
                        AaS.J2 k v5 (fun v5_=>AaS.L1 k v0 v1 v2 n v5_) true
                      else
                        Abn (AbK k v2 v6.From) fun v10 =>
                        if v10=true then
                          AaS.J2 k v5 (fun v5_=>AaS.L1 k v0 v1 v2 n v5_) true
                        else
                          Abn (AbK k v2 v6.To) fun v11 =>
                          AaS.J2 k v5 (fun v5_=>AaS.L1 k v0 v1 v2 n v5_) v11
                    else
                      Abn (AbK k v2 v6.From) fun v12 =>
                      if v12=true then
                        AaS.J2 k v5 (fun v5_=>AaS.L1 k v0 v1 v2 n v5_) true
                      else
                        Abn (AbK k v2 v6.To) fun v13 =>
                        AaS.J2 k v5 (fun v5_=>AaS.L1 k v0 v1 v2 n v5_) v13
    else
      some 0
def AaS (k : Nat) (v0 : Int) (v1 : (List Aam)) (v2 : (List Int)) : Option Int :=
  if v0<0 then
    some 14
  else
    if 64<v0 then
      some 14
    else
      if 500<(v1.length : Int) then
        some 14
      else
        Abn (Aag k v2 v0) fun v4 =>
        if (!v4)=true then
          some 14
        else
          AaS.L1 k v0 v1 v2 k 0
def AaU.J2 (k : Nat) (v8 : Int) (kb1 : Int→Option Bool) : Option Bool :=
  kb1 (IntKind.wrap .i64 (v8+1))
def AaU.L1 (k : Nat) (v4 : (List Int)) : Nat→Int→Option Bool
  | 0,_=>none
  | n+1,v8 =>
    if v8<(v4.length : Int) then
      idx v4 v8 fun v9 =>
      if v9<1 then
        some false
      else
        if 1000<v9 then
          some false
        else
          if 0<v8 then
            idx v4 (IntKind.wrap .i64 (v8-1)) fun v10 =>
            if v10<v9 then
              some false
            else
              AaU.J2 k v8 (fun v8_=>AaU.L1 k v4 n v8_)
          else
            AaU.J2 k v8 (fun v8_=>AaU.L1 k v4 n v8_)
    else
      some true
def AaU (k : Nat) (v0 : Int) (v1 : (List Aam)) (v2 : (List Int)) (v3 : (List Int)) (v4 : (List Int)) (v5 : Int) : Option Bool :=
  if (v3.length : Int)=0 then
    some false
  else
    Abn (Aag k v3 v0) fun v7 =>
    if (!v7)=true then
      some false
    else
      if (v4.length : Int)<1 then
        some false
      else
        if 8<(v4.length : Int) then
          some false
        else
          if v5<1 then
            some false
          else
            if 3<v5 then
              some false
            else
              AaU.L1 k v4 k 0
def AcE (k : Nat) (v0 : Int) (v1 : (List Aam)) (v2 : (List Int)) (v3 : (List Int)) (v4 : (List Int)) (v5 : Int) : Option Int :=
  Abn (AaS k v0 v1 v2) fun v7 =>
  if v7≠0 then
    some 14
  else
    Abn (AaU k v0 v1 v2 v3 v4 v5) fun v8 =>
    if (!v8)=true then
      some 15
    else
      some 0
def Abd (k : Nat) (v0 : (List Int)) (v1 : (List Int)) (v2 : (List Int)) (v3 : Int) (v4 : Int) (v5 : Int) (v6 : Int) : Option Int :=
  Abn (AaY k v0) fun v8 =>
  if (!v8)=true then
    some 43
  else
    Abn (AcE k 64 ([] : List Aam) ([] : List Int) v1 v2 v3) fun v9 =>
    if v9≠0 then
      some v9
    else
      if v4<1 then
        some 40
      else
        if 9<v4 then
          some 40
        else
          if v5<1 then
            some 40
          else
            if 1000000<v5 then
              some 40
            else
              if v6<0 then
                some 40
              else
                if 64<v6 then
                  some 40
                else
                  some 0
def AbV (k : Nat) (v0 : (List Int)) (v1 : (List Int)) (v2 : (List Int)) (v3 : (List Int)) (v4 : Int) (v5 : Int) (v6 : Int) (v7 : Int) : Option Bool :=
  Abn (Ac9 k v0) fun v9 =>
  if (!v9)=true then
    Abn (Abe k) fun v10 =>
    some v10
  else
    if 300<IntKind.wrap .i64 (IntKind.wrap .i64 ((v1.length : Int)+(v2.length : Int))+(v3.length : Int)) then
      Abn (Abe k) fun v11 =>
      some v11
    else
      AeN (Adn k v0) fun v12 v13 =>
      Ak4 (Aa2 k v12 v13) fun v14 v15 v16 v17 v18 v19 v20 v21 =>
      Ak4 (Aap k v12 v21 v14 v15 v16 v17 v18 v19 v20) fun v22 v23 v24 v25 v26 v27 v28 v29 =>
      Ak4 (Aap k v12 v29 v22 v23 v24 v25 v26 v27 v28) fun v30 v31 v32 v33 v34 v35 v36 v37 =>
      Abn (AbD k v14 v15 v16 v17 v18 v19 v20) fun v38 =>
      if v38=0 then
        Abn (AbD k v22 v23 v24 v25 v26 v27 v28) fun v39 =>
        Abn (Abd k v22 v23 v24 v25 v26 v27 v28) fun v40 =>
        if v39=v40 then
          Abn (AbD k v30 v31 v32 v33 v34 v35 v36) fun v41 =>
          Abn (Abd k v30 v31 v32 v33 v34 v35 v36) fun v42 =>
          if v41=v42 then
            Abn (AbD k v1 v2 v3 v4 v5 v6 v7) fun v43 =>
            Abn (Abd k v1 v2 v3 v4 v5 v6 v7) fun v44 =>
            if v43=v44 then
              Abn (Abe k) fun v45 =>
              some v45
            else
              some false
          else
            some false
        else
          some false
      else
        some false
theorem GK {P : List (List Nat×List Nat)→Prop} {c : List (List Nat×List Nat)→Bool} {l : List (List Nat×List Nat)} (g : ∀ l,c l=true→P l) (h : c l=true:=by kernel_rfl) : P l:=g l h
abbrev Q0 (l : List Aam) : AV := .lst false false (List.map Aam.av l)
abbrev Gi (l : List Int) : AaQ := .grow (List.map (AV.int .i64) l)
abbrev Ci (l : List Int) : AaQ := .cells (List.map (AV.int .i64) l)
theorem A2 {p0 p1 : Prop} (a0 : p0) (a1 : p1) : p0∧p1:=⟨a0,a1⟩
theorem A3 {p0 p1 p2 : Prop} (a0 : p0) (a1 : p1) (a2 : p2) : p0∧p1∧p2:=⟨a0,a1,a2⟩
theorem A4 {p0 p1 p2 p3 : Prop} (a0 : p0) (a1 : p1) (a2 : p2) (a3 : p3) : p0∧p1∧p2∧p3:=⟨a0,a1,a2,a3⟩
theorem A5 {p0 p1 p2 p3 p4 : Prop} (a0 : p0) (a1 : p1) (a2 : p2) (a3 : p3) (a4 : p4) : p0∧p1∧p2∧p3∧p4:=⟨a0,a1,a2,a3,a4⟩
theorem A6 {p0 p1 p2 p3 p4 p5 : Prop} (a0 : p0) (a1 : p1) (a2 : p2) (a3 : p3) (a4 : p4) (a5 : p5) : p0∧p1∧p2∧p3∧p4∧p5:=⟨a0,a1,a2,a3,a4,a5⟩
theorem A7 {p0 p1 p2 p3 p4 p5 p6 : Prop} (a0 : p0) (a1 : p1) (a2 : p2) (a3 : p3) (a4 : p4) (a5 : p5) (a6 : p6) : p0∧p1∧p2∧p3∧p4∧p5∧p6:=⟨a0,a1,a2,a3,a4,a5,a6⟩
theorem A8 {p0 p1 p2 p3 p4 p5 p6 p7 : Prop} (a0 : p0) (a1 : p1) (a2 : p2) (a3 : p3) (a4 : p4) (a5 : p5) (a6 : p6) (a7 : p7) : p0∧p1∧p2∧p3∧p4∧p5∧p6∧p7:=⟨a0,a1,a2,a3,a4,a5,a6,a7⟩
theorem A9 {p0 p1 p2 p3 p4 p5 p6 p7 p8 : Prop} (a0 : p0) (a1 : p1) (a2 : p2) (a3 : p3) (a4 : p4) (a5 : p5) (a6 : p6) (a7 : p7) (a8 : p8) : p0∧p1∧p2∧p3∧p4∧p5∧p6∧p7∧p8:=⟨a0,a1,a2,a3,a4,a5,a6,a7,a8⟩
end Go.TF
set_option maxRecDepth 100000
namespace Go.Proofs.YtomgdcnbceiggaaRaT
open Go Go.Abs Go.Proofs
theorem Akk : Try.prog.follows .mixedOrders=true:=by kernel_rfl
section
variable {n : Nat} {c0 : Cx} {w0 : World} {Q : Abo} {s : Nat→AV} {H : AaI} {N : Nat} {T : Act→World→Prop}
theorem SQ {id : Nat} {ops : List Oper} {draw : Bool} {y : Code} (mu : List Nat) (gs : List (Option (Nat×Bool)))
 (h : ∀ (G : Log→Prop) (K : (Nat→AV)→AaI→Nat→Prop),(∀ lg,(!draw||AdR ops lg)=true→G lg)→(∀ s' H' N',AW Try.prog n c0 w0 y Q s' H' N'→K s' H' N')→AdG Try.prog mu ops gs s H N [] (fun s' H' N' lg=>G lg∧K s' H' N'))
 (hok : Ahw n ops gs=true:=by kernel_rfl) : AW Try.prog n c0 w0 (.seq (.region id ops.toArray draw) y) Q s H N:=AW.seqR Akk mu gs hok h
theorem RG {id : Nat} {ops : List Oper} {draw : Bool} (mu : List Nat) (gs : List (Option (Nat×Bool)))
 (h : ∀ (G : Log→Prop) (K : (Nat→AV)→AaI→Nat→Prop),(∀ lg,(!draw||AdR ops lg)=true→G lg)→(∀ s' H' N',Q .normal s' H' N'→K s' H' N')→AdG Try.prog mu ops gs s H N [] (fun s' H' N' lg=>G lg∧K s' H' N'))
 (hok : Ahw n ops gs=true:=by kernel_rfl) : AW Try.prog n c0 w0 (.region id ops.toArray draw) Q s H N:=AW.region Akk mu gs hok h
theorem WK {x : Code} (l : List (Nat×AV)) (hl : List (Nat×AaQ)) (N' : Nat) (h1 : ∀ p ∈ l,s p.1=p.2) (h2 : ∀ p ∈ hl,H p.1=some p.2) (h : AW Try.prog n c0 w0 x Q (mkS l) (mkH hl) N') (hN : N≤N':=by simp) : AW Try.prog n c0 w0 x Q s H N:=AW.wk l hl N' h1 h2 hN h
theorem RN (h0 : AbT c0 0) (ρ : List (Nat×Nat)) (l : List (Nat×AV)) (o : List (Nat×AaQ)) (M : Nat)
 (h1 : ∀ p ∈ l,s p.1=Abs.ren (Acn ρ) p.2∧gd (fun i=>(Abs.AdZ ρ i).isSome=true) p.2)
 (h2 : ∀ p ∈ o,H (Acn ρ p.1)=some (Aeb (Acn ρ) p.2)∧gdO (fun i=>(Abs.AdZ ρ i).isSome=true) p.2)
 (h : Abs.Can n c0 w0 (mkS l) (mkH o) M T) (hρ1 : (ρ.map (·.2)).Nodup:=by decide) (hρ2 : ∀ p ∈ ρ,p.1<M∧(p.1<0→p.1=p.2):=by decide) (hk : o.map (·.1)=ρ.map (·.1):=by rfl) : Abs.Can n c0 w0 s H N T:=Abs.Can.ren h0 ρ l o M hρ1 hρ2 (Nat.zero_le _) hk h1 h2 h
theorem RM {x : Code} (h0 : AbT c0 0) (ρ : List (Nat×Nat)) (l : List (Nat×AV)) (o : List (Nat×AaQ)) (M : Nat)
 (h1 : ∀ p ∈ l,s p.1=Abs.ren (Acn ρ) p.2∧gd (fun i=>(Abs.AdZ ρ i).isSome=true) p.2)
 (h2 : ∀ p ∈ o,H (Acn ρ p.1)=some (Aeb (Acn ρ) p.2)∧gdO (fun i=>(Abs.AdZ ρ i).isSome=true) p.2)
 (h : AW Try.prog n c0 w0 x Q (mkS l) (mkH o) M) (hρ1 : (ρ.map (·.2)).Nodup:=by decide) (hρ2 : ∀ p ∈ ρ,p.1<M∧(p.1<0→p.1=p.2):=by decide) (hk : o.map (·.1)=ρ.map (·.1):=by rfl) : AW Try.prog n c0 w0 x Q s H N:=AW.rnm h0 ρ l o M hρ1 hρ2 (Nat.zero_le _) hk h1 h2 h
theorem AC {f : FuncId} {args : List AV} {K : CK} {args0 : List AV} {r : AV} {O' : List (Option AaQ)} (hF : Aa0 Try.prog f args0 [] r O') (hco : Ahm H (nm []) args args0 [])
 (hk : K (ren (nm ([]++AdY N (O'.length-([] : List AaQ).length))) r) (AgX (nm ([]++AdY N (O'.length-([] : List AaQ).length))) H ([]++AdY N (O'.length-([] : List AaQ).length)) O') (N+(O'.length-([] : List AaQ).length)) ([]++[]) ([]++AdY N (O'.length-([] : List AaQ).length)))
 (hcal : AaN Try.prog f=true:=by simp) (hun : AkU [] [] [] O':=by simp) : Ahk Try.prog f args H N K :=
 Aa5 hF hcal [] [] [] rfl hco trivial .nil (by simp) (by simp) (.inl rfl) (by simp) hun hk
theorem CT {t : Nat} {x y : Code} (hb : s t = .bool true) (h : AW Try.prog n c0 w0 x Q s H N) (ht : decide (t<n)=true:=by decide) : AW Try.prog n c0 w0 (.cond (.tmp t) x y) Q s H N:=AW.condT ht hb h
theorem CF {t : Nat} {x y : Code} (hb : s t = .bool false) (h : AW Try.prog n c0 w0 y Q s H N) (ht : decide (t<n)=true:=by decide) : AW Try.prog n c0 w0 (.cond (.tmp t) x y) Q s H N:=AW.condF ht hb h
theorem EN {f : FuncId} {fn : Func} {code : Code} {args : List AV} {O : List AaQ} {r : AV} {O' : List (Option AaQ)} (hf : Try.prog.funcs[f]? = some fn)
 (h : ∀ (c0 : Cx) (w0 : World) (Q : Abo),AbT c0 O.length→(∀ s H N,Adh Try.prog s H fn.results.toList r→(∀ i,i<O'.length→H i=nth O' i)→Q .ret s H N∧Q .normal s H N)→AW Try.prog fn.ntmps c0 w0 code Q (AjD args) (fun i=>O[i]?) O.length)
 (hb : fn.body=some code:=by rfl) (hm : args.length≤fn.ntmps:=by simp) (hin : Aea fn.ntmps fn.results.toList=true:=by decide)
 (len : O.length≤O'.length:=by simp) (ga : gdL (· < O.length) args:=by simp) (gO : ∀ o ∈ O,gdO (· < O.length) o:=by simp) (gr : gd (fun i=>(nth O' i).isSome=true) r:=by simp) (gO' : ∀ o,some o ∈ O'→gdO (fun i=>(nth O' i).isSome=true) o:=by simp) : Aa0 Try.prog f args O r O':=Aa0.enter hf hb hm hin len ga gO gr gO' h
theorem NX {α : Type} {F : Nat→α→Prop} {L : α→List (Nat×AV)} {O : α→List (Nat×AaQ)} {M k k' : Nat} (y : α) (hF : F k' y) (h1 : ∀ p ∈ L y,s p.1=p.2) (h2 : ∀ p ∈ O y,H p.1=some p.2) (hk : k'<k:=by omega) (hN : N≤M:=by simp) :
 Abs.Can n c0 w0 s H N (fun a w=>∃ k' y,k'<k∧F k' y∧St n c0 w0 (mkS (L y)) (mkH (O y)) M a w):=Abs.Can.next y hk hF h1 h2 hN
theorem JN {α : Type} {F : α→Prop} {L : α→List (Nat×AV)} {O : α→List (Nat×AaQ)} {M : Nat} (y : α) (hF : F y) (h1 : ∀ p ∈ L y,s p.1=p.2) (h2 : ∀ p ∈ O y,H p.1=some p.2) (hN : N≤M:=by simp) :
 Abs.Can n c0 w0 s H N (fun a w=>∃ y,F y∧St n c0 w0 (mkS (L y)) (mkH (O y)) M a w):=Abs.Can.join y hF h1 h2 hN
end
@[simp↓] theorem Amm {P : Program} {mu : List Nat} {d : Option Nat} {s : Nat→AV} {H : AaI} {N : Nat} {K : CK} {y : Operand} : bop P mu d s H N K (.move y)=K (ev s y) H N [] []:=bop.eq_1 ..
@[simp↓] theorem Amn {P : Program} {mu : List Nat} {d : Option Nat} {s : Nat→AV} {H : AaI} {N : Nat} {K : CK} {y : Operand} : bop P mu d s H N K (.assign y)=K (ev s y) H N [] []:=bop.eq_2 ..
@[simp] theorem t0 : Ab4 Try.prog 0=some false∧Aa4 Try.prog 0=some 1:=by and_intros <;> kernel_rfl
@[simp] theorem t1 : Ab4 Try.prog 1=some false∧Aa4 Try.prog 1=some 1∧AbZ Try.prog 1=some [AV.nilfn]∧AbJ Try.prog 1=some AV.nilfn:=by and_intros <;> kernel_rfl
@[simp] theorem t2 : Ab4 Try.prog 2=some false∧Aa4 Try.prog 2=some 1∧AbZ Try.prog 2=some [AV.int .i64 0]∧AbJ Try.prog 2=some (AV.int .i64 0)∧Ago Try.prog 2=some IntKind.i64:=by and_intros <;> kernel_rfl
@[simp] theorem t3 : Ab4 Try.prog 3=some false∧Aa4 Try.prog 3=some 1∧AbZ Try.prog 3=some [AV.int .i64 0]∧AbJ Try.prog 3=some (AV.int .i64 0)∧Ago Try.prog 3=some IntKind.i64:=by and_intros <;> kernel_rfl
@[simp] theorem t4 : Ab4 Try.prog 4=some false∧Aa4 Try.prog 4=some 1∧AbZ Try.prog 4=some [AV.bool false]∧AbJ Try.prog 4=some (AV.bool false)∧Try.prog.underlying 4=some Go.TypeDesc.bool:=by and_intros <;> kernel_rfl
@[simp] theorem t5 : Ab4 Try.prog 5=some false∧Aa4 Try.prog 5=some 1∧AbZ Try.prog 5=some [AV.int .u8 0]∧AbJ Try.prog 5=some (AV.int .u8 0)∧Ago Try.prog 5=some IntKind.u8:=by and_intros <;> kernel_rfl
@[simp] theorem t22 : AaV Try.prog 22=some (3,1,8)∧Aiz Try.prog 22=true∧Ab4 Try.prog 22=some false∧Aa4 Try.prog 22=some 1∧AbZ Try.prog 22=some [AV.lst true true []]∧AbJ Try.prog 22=some (AV.lst true true [])∧AcB Try.prog 22=true∧Try.prog.underlying 22=some (Go.TypeDesc.slice 3):=by and_intros <;> kernel_rfl
@[simp] theorem t24 : Ab4 Try.prog 24=some true∧Aa4 Try.prog 24=some 3∧AbZ Try.prog 24=some [AV.lst true true [],AV.lst true true [],AV.int .i64 0]∧AbJ Try.prog 24=some (AV.agg [AV.lst true true [],AV.lst true true [],AV.int .i64 0])∧Abw Try.prog 24=true:=by and_intros <;> kernel_rfl
@[simp] theorem t26 : Ab4 Try.prog 26=some true∧Aa4 Try.prog 26=some 7∧AbZ Try.prog 26=some [AV.lst true true [],AV.lst true true [],AV.lst true true [],AV.int .i64 0,AV.int .i64 0,AV.int .i64 0,AV.int .i64 0]∧AbJ Try.prog 26=some (AV.agg [AV.lst true true [],AV.lst true true [],AV.lst true true [],AV.int .i64 0,AV.int .i64 0,AV.int .i64 0,AV.int .i64 0])∧Abw Try.prog 26=true:=by and_intros <;> kernel_rfl
@[simp] theorem t59 : AaV Try.prog 63=some (22,1,24)∧Aiz Try.prog 63=true∧Ab4 Try.prog 63=some false∧Aa4 Try.prog 63=some 1∧AbZ Try.prog 63=some [AV.lst true true []]∧AbJ Try.prog 63=some (AV.lst true true [])∧AcB Try.prog 63=true∧Try.prog.underlying 63=some (Go.TypeDesc.slice 22):=by and_intros <;> kernel_rfl
@[simp] theorem t60 : AaV Try.prog 65=some (128,3,24)∧Aiz Try.prog 65=true∧Ab4 Try.prog 65=some false∧Aa4 Try.prog 65=some 1∧AbZ Try.prog 65=some [AV.lst true true []]∧AbJ Try.prog 65=some (AV.lst true true [])∧AcB Try.prog 65=true∧Try.prog.underlying 65=some (Go.TypeDesc.slice 128):=by and_intros <;> kernel_rfl
@[simp] theorem t62 : Ab4 Try.prog 67=some true∧Aa4 Try.prog 67=some 3∧AbZ Try.prog 67=some [AV.int .i64 0,AV.lst true true [],AV.lst true true []]∧AbJ Try.prog 67=some (AV.agg [AV.int .i64 0,AV.lst true true [],AV.lst true true []])∧Abw Try.prog 67=true:=by and_intros <;> kernel_rfl
@[simp] theorem t70 : Ab4 Try.prog 81=some true∧Aa4 Try.prog 81=some 2∧AbZ Try.prog 81=some [AV.lst true true [],AV.int .i64 0]∧AbJ Try.prog 81=some (AV.agg [AV.lst true true [],AV.int .i64 0])∧Abw Try.prog 81=true:=by and_intros <;> kernel_rfl
@[simp] theorem t74 : Ab4 Try.prog 87=some true∧Aa4 Try.prog 87=some 64∧AbZ Try.prog 87=some [AV.bool false,AV.bool false,AV.bool false,AV.bool false,AV.bool false,AV.bool false,AV.bool false,AV.bool false,AV.bool false,AV.bool false,AV.bool false,AV.bool false,AV.bool false,AV.bool false,AV.bool false,AV.bool false,AV.bool false,AV.bool false,AV.bool false,AV.bool false,AV.bool false,AV.bool false,AV.bool false,AV.bool false,AV.bool false,AV.bool false,AV.bool false,AV.bool false,AV.bool false,AV.bool false,AV.bool false,AV.bool false,AV.bool false,AV.bool false,AV.bool false,AV.bool false,AV.bool false,AV.bool false,AV.bool false,AV.bool false,AV.bool false,AV.bool false,AV.bool false,AV.bool false,AV.bool false,AV.bool false,AV.bool false,AV.bool false,AV.bool false,AV.bool false,AV.bool false,AV.bool false,AV.bool false,AV.bool false,AV.bool false,AV.bool false,AV.bool false,AV.bool false,AV.bool false,AV.bool false,AV.bool false,AV.bool false,AV.bool false,AV.bool false]∧Ac3 Try.prog 87=some (64,1)∧AbJ Try.prog 87=some (AV.agg [AV.bool false,AV.bool false,AV.bool false,AV.bool false,AV.bool false,AV.bool false,AV.bool false,AV.bool false,AV.bool false,AV.bool false,AV.bool false,AV.bool false,AV.bool false,AV.bool false,AV.bool false,AV.bool false,AV.bool false,AV.bool false,AV.bool false,AV.bool false,AV.bool false,AV.bool false,AV.bool false,AV.bool false,AV.bool false,AV.bool false,AV.bool false,AV.bool false,AV.bool false,AV.bool false,AV.bool false,AV.bool false,AV.bool false,AV.bool false,AV.bool false,AV.bool false,AV.bool false,AV.bool false,AV.bool false,AV.bool false,AV.bool false,AV.bool false,AV.bool false,AV.bool false,AV.bool false,AV.bool false,AV.bool false,AV.bool false,AV.bool false,AV.bool false,AV.bool false,AV.bool false,AV.bool false,AV.bool false,AV.bool false,AV.bool false,AV.bool false,AV.bool false,AV.bool false,AV.bool false,AV.bool false,AV.bool false,AV.bool false,AV.bool false])∧Abw Try.prog 87=true∧AjA Try.prog 87=some (64,Aa8.bool):=by and_intros <;> kernel_rfl
@[simp] theorem t78 : Ab4 Try.prog 128=some true∧Aa4 Try.prog 128=some 3∧AbZ Try.prog 128=some [AV.int .i64 0,AV.int .i64 0,AV.int .i64 0]∧AbJ Try.prog 128=some (AV.agg [AV.int .i64 0,AV.int .i64 0,AV.int .i64 0])∧Abw Try.prog 128=true∧AkV Try.prog 128=some [Aa8.int .i64,Aa8.int .i64,Aa8.int .i64]:=by and_intros <;> kernel_rfl
@[simp] theorem t92 : AcW Try.prog 24 0=some (0,1)∧AbR Try.prog 24 0=some 0∧Abg Try.prog 24 0=some (0,none)∧AcW Try.prog 24 1=some (1,1)∧AbR Try.prog 24 1=some 1∧Abg Try.prog 24 1=some (1,none)∧AcW Try.prog 24 2=some (2,1)∧AbR Try.prog 24 2=some 2∧Abg Try.prog 24 2=some (2,none):=by and_intros <;> kernel_rfl
@[simp] theorem t93 : AcW Try.prog 26 0=some (0,1)∧AbR Try.prog 26 0=some 0∧Abg Try.prog 26 0=some (0,none)∧AcW Try.prog 26 1=some (1,3)∧AbR Try.prog 26 1=some 1∧Abg Try.prog 26 1=some (1,some 3)∧AcW Try.prog 26 2=some (4,1)∧AbR Try.prog 26 2=some 4∧Abg Try.prog 26 2=some (4,none)∧AcW Try.prog 26 3=some (5,1)∧AbR Try.prog 26 3=some 5∧Abg Try.prog 26 3=some (5,none)∧AcW Try.prog 26 4=some (6,1)∧AbR Try.prog 26 4=some 6∧Abg Try.prog 26 4=some (6,none):=by and_intros <;> kernel_rfl
@[simp] theorem t97 : AcW Try.prog 67 0=some (0,1)∧AbR Try.prog 67 0=some 0∧Abg Try.prog 67 0=some (0,none)∧AcW Try.prog 67 1=some (1,1)∧AbR Try.prog 67 1=some 1∧Abg Try.prog 67 1=some (1,none)∧AcW Try.prog 67 2=some (2,1)∧AbR Try.prog 67 2=some 2∧Abg Try.prog 67 2=some (2,none):=by and_intros <;> kernel_rfl
@[simp] theorem t98 : AcW Try.prog 81 0=some (0,1)∧AbR Try.prog 81 0=some 0∧Abg Try.prog 81 0=some (0,none)∧AcW Try.prog 81 1=some (1,1)∧AbR Try.prog 81 1=some 1∧Abg Try.prog 81 1=some (1,none):=by and_intros <;> kernel_rfl
@[simp] theorem Am3 : AcW Try.prog 128 0=some (0,1)∧AbR Try.prog 128 0=some 0∧Abg Try.prog 128 0=some (0,none)∧AcW Try.prog 128 1=some (1,1)∧AbR Try.prog 128 1=some 1∧Abg Try.prog 128 1=some (1,none)∧AcW Try.prog 128 2=some (2,1)∧AbR Try.prog 128 2=some 2∧Abg Try.prog 128 2=some (2,none):=by and_intros <;> kernel_rfl
@[simp] theorem c0 : AaN Try.prog 3=true∧AaN Try.prog 7=true∧AaN Try.prog 8=true∧AaN Try.prog 9=true∧AaN Try.prog 10=true∧AaN Try.prog 11=true∧AaN Try.prog 12=true∧AaN Try.prog 13=true∧AaN Try.prog 17=true∧AaN Try.prog 24=true∧AaN Try.prog 26=true∧AaN Try.prog 28=true∧AaN Try.prog 30=true∧AaN Try.prog 32=true∧AaN Try.prog 33=true∧AaN Try.prog 34=true∧AaN Try.prog 35=true∧AaN Try.prog 36=true∧AaN Try.prog 37=true∧AaN Try.prog 38=true∧AaN Try.prog 64=true∧AaN Try.prog 65=true∧AaN Try.prog 66=true∧AaN Try.prog 67=true∧AaN Try.prog 68=true∧AaN Try.prog 69=true∧AaN Try.prog 70=true∧AaN Try.prog 71=true∧AaN Try.prog 72=true∧AaN Try.prog 105=true:=by and_intros <;> kernel_rfl
@[simp] theorem c30 : AaN Try.prog 106=true∧AaN Try.prog 107=true∧AaN Try.prog 108=true∧AaN Try.prog 109=true∧AaN Try.prog 110=true∧AaN Try.prog 121=true∧AaN Try.prog 122=true∧AaN Try.prog 123=true∧AaN Try.prog 128=true∧AaN Try.prog 129=true:=by and_intros <;> kernel_rfl
end Go.Proofs.YtomgdcnbceiggaaRaT
namespace Go.TF
open Go Go.Abs
end Go.TF
