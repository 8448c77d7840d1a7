import Derived.Test.YtelffnegemdicaaPmzLay28
import Derived.Test.YtelffnegemdicaaPmzLay22
import Derived.Test.YtelffnegemdicaaProg
import Derived.KernelRfl
set_option linter.unusedVariables false
set_option maxRecDepth 100000
namespace Go.TF
open Go Go.Abs
abbrev Iz (n : Int) : AV := .int .i64 n
abbrev Lz (l : List Int) : AV := .lst false false (l.map (.int .i64))
abbrev Lb (l : List Int) : AV := .lst false false (l.map (.int .u8))
abbrev Lw (l : List Int) : AV := .lst false false (l.map (.int .u32))
structure AaB where
  From : Int
  To : Int
  Level : Int
@[simp] def AaB.av (x : AaB) : AV:=AV.agg [AV.int .i64 x.From,AV.int .i64 x.To,AV.int .i64 x.Level]
@[simp] theorem AaB.okEls (l : List AaB) : okEls 3 (l.map AaB.av)↔True:=iff_true_intro (AcW.2 fun x hx=>by
  simp only [List.mem_map] at hx
  obtain ⟨b,_,rfl⟩:=hx
  simp)
@[simp] theorem AaB.gdF (S : Nat→Prop) (l : List AaB) : gdL S (AaK (l.map AaB.av))↔True:=iff_true_intro (AiA (by simp) l)
@[simp] theorem AaB.frF (l : List AaB) : Aci (AaK (l.map AaB.av))=true:=AfG (by simp) l
@[simp] theorem AaB.renF (σ : Nat→Nat) (l : List AaB) : Adg σ (AaK (l.map AaB.av))=AaK (l.map AaB.av):=Agi (by simp) l
@[simp] theorem AaB.lenF (l : List AaB) : (AaK (l.map AaB.av)).length=l.length*3:=AcR (F:=AaB.av) (fun _=>rfl) l
@[simp↓] theorem AaB.oneF (l : List AaB) : (AaK (l.map AaB.av)).all AV.one=true:=Ahy (by simp) l
@[simp] theorem AaB.setR (σ : Nat→Nat) (l : List AaB) (i : Nat) (f0 : Int) (f1 : Int) (f2 : Int) : Adg σ (AaK ((l.map AaB.av).set i (AV.agg [AV.int .i64 f0,AV.int .i64 f1,AV.int .i64 f2])))=AaK ((l.map AaB.av).set i (AV.agg [AV.int .i64 f0,AV.int .i64 f1,AV.int .i64 f2])):=by
  have h:=AaB.renF σ (l.set i (AaB.mk f0 f1 f2))
  rw [List.map_set] at h; exact h
@[simp] theorem AaB.setG (S : Nat→Prop) (l : List AaB) (i : Nat) (f0 : Int) (f1 : Int) (f2 : Int) : gdL S (AaK ((l.map AaB.av).set i (AV.agg [AV.int .i64 f0,AV.int .i64 f1,AV.int .i64 f2])))↔True:=by
  have h:=AaB.gdF S (l.set i (AaB.mk f0 f1 f2))
  rw [List.map_set] at h; exact h
@[simp] theorem AaB.setF (l : List AaB) (i : Nat) (f0 : Int) (f1 : Int) (f2 : Int) : Aci (AaK ((l.map AaB.av).set i (AV.agg [AV.int .i64 f0,AV.int .i64 f1,AV.int .i64 f2])))=true:=by
  have h:=AaB.frF (l.set i (AaB.mk f0 f1 f2))
  rw [List.map_set] at h; exact h
@[simp] theorem AaB.len_take (i : Nat) (l : List AaB) : (AaK (List.take i (l.map AaB.av))).length=(l.take i).length*3:=by rw [← List.map_take]; exact AaB.lenF _
@[simp] theorem AaB.one_take (i : Nat) (l : List AaB) : (∀ x : AV,x ∈ AaK (List.take i (l.map AaB.av))→x.one=true)↔True:=iff_true_intro (List.all_eq_true.1 (by rw [← List.map_take]; exact AaB.oneF _))
@[simp] theorem AaB.len_drop (i : Nat) (l : List AaB) : (AaK (List.drop i (l.map AaB.av))).length=(l.drop i).length*3:=by rw [← List.map_drop]; exact AaB.lenF _
@[simp] theorem AaB.ids (S : Nat→Prop) (l : List AaB) : AbK S (l.map AaB.av)↔True:=iff_true_intro (Af6 (by simp) l)
structure AaC where
  From : Int
  To : Int
  Cap : Int
@[simp] def AaC.av (x : AaC) : AV:=AV.agg [AV.int .i64 x.From,AV.int .i64 x.To,AV.int .i64 x.Cap]
@[simp] theorem AaC.okEls (l : List AaC) : okEls 3 (l.map AaC.av)↔True:=iff_true_intro (AcW.2 fun x hx=>by
  simp only [List.mem_map] at hx
  obtain ⟨b,_,rfl⟩:=hx
  simp)
@[simp] theorem AaC.gdF (S : Nat→Prop) (l : List AaC) : gdL S (AaK (l.map AaC.av))↔True:=iff_true_intro (AiA (by simp) l)
@[simp] theorem AaC.frF (l : List AaC) : Aci (AaK (l.map AaC.av))=true:=AfG (by simp) l
@[simp] theorem AaC.renF (σ : Nat→Nat) (l : List AaC) : Adg σ (AaK (l.map AaC.av))=AaK (l.map AaC.av):=Agi (by simp) l
@[simp] theorem AaC.lenF (l : List AaC) : (AaK (l.map AaC.av)).length=l.length*3:=AcR (F:=AaC.av) (fun _=>rfl) l
@[simp↓] theorem AaC.oneF (l : List AaC) : (AaK (l.map AaC.av)).all AV.one=true:=Ahy (by simp) l
@[simp] theorem AaC.ids (S : Nat→Prop) (l : List AaC) : AbK S (l.map AaC.av)↔True:=iff_true_intro (Af6 (by simp) l)
structure AaA where
  arc : Int
  back : Bool
@[simp] def AaA.av (x : AaA) : AV:=AV.agg [AV.int .i64 x.arc,AV.bool x.back]
@[simp] theorem AaA.okEls (l : List AaA) : okEls 2 (l.map AaA.av)↔True:=iff_true_intro (AcW.2 fun x hx=>by
  simp only [List.mem_map] at hx
  obtain ⟨b,_,rfl⟩:=hx
  simp)
@[simp] theorem AaA.gdF (S : Nat→Prop) (l : List AaA) : gdL S (AaK (l.map AaA.av))↔True:=iff_true_intro (AiA (by simp) l)
@[simp] theorem AaA.frF (l : List AaA) : Aci (AaK (l.map AaA.av))=true:=AfG (by simp) l
@[simp] theorem AaA.renF (σ : Nat→Nat) (l : List AaA) : Adg σ (AaK (l.map AaA.av))=AaK (l.map AaA.av):=Agi (by simp) l
@[simp] theorem AaA.lenF (l : List AaA) : (AaK (l.map AaA.av)).length=l.length*2:=AcR (F:=AaA.av) (fun _=>rfl) l
@[simp↓] theorem AaA.oneF (l : List AaA) : (AaK (l.map AaA.av)).all AV.one=true:=Ahy (by simp) l
@[simp] theorem AaA.mpR (σ : Nat→Nat) (k : IntKind) (l : List (Int×AaA)) : AdH σ (.mp (mpA (AV.int k) AaA.av l)) = .mp (mpA (AV.int k) AaA.av l):=AgO σ _ _ l (by simp) (by simp)
@[simp] theorem AaA.mpG (S : Nat→Prop) (k : IntKind) (l : List (Int×AaA)) : gdO S (.mp (mpA (AV.int k) AaA.av l))↔True:=Ah9 S _ _ l (by simp) (by simp)
@[simp] theorem AaA.mpF (k : IntKind) (l : List (Int×AaA)) : Afi (.mp (mpA (AV.int k) AaA.av l))=true:=Akp _ _ l (by simp) (by simp)
@[simp] theorem AaA.mpPR (σ : Nat→Nat) (k : IntKind) (l : List (Int×AaA)) (i : Int) (f0 : Int) (f1 : Bool) : AdH σ (.mp (AcP (mpA (AV.int k) AaA.av l) (AV.int k i) (AV.agg [AV.int .i64 f0,AV.bool f1]))) = .mp (AcP (mpA (AV.int k) AaA.av l) (AV.int k i) (AV.agg [AV.int .i64 f0,AV.bool f1])):=by
  have h:=AaA.mpR σ k (AbF l i (AaA.mk f0 f1))
  rw [Af4] at h; exact h
@[simp] theorem AaA.mpPG (S : Nat→Prop) (k : IntKind) (l : List (Int×AaA)) (i : Int) (f0 : Int) (f1 : Bool) : gdO S (.mp (AcP (mpA (AV.int k) AaA.av l) (AV.int k i) (AV.agg [AV.int .i64 f0,AV.bool f1])))↔True:=by
  have h:=AaA.mpG S k (AbF l i (AaA.mk f0 f1))
  rw [Af4] at h; exact h
@[simp] theorem AaA.ids (S : Nat→Prop) (l : List AaA) : AbK S (l.map AaA.av)↔True:=iff_true_intro (Af6 (by simp) l)
def Aer (k : Nat) (v0 : (List Int)) : Option Bool :=
  some (decide ((v0.length : Int)≤400))
def AcZ (k : Nat) (v0 : Int) (v1 : Int) (v2 : Int) : Option Bool :=
  if v1≤v0 then
    some (decide (v0≤v2))
  else
    some false
def AcN (k : Nat) (v0 : Int) (v1 : (List AaB)) (v2 : (List Int)) (v3 : Int) (v4 : Int) (v5 : Int) : Option Bool :=
  Abl (AcZ k v3 1 3) fun v7 =>
  if v7=true then
    Abl (AcZ k v4 0 (IntKind.wrap .i64 (v0-1))) fun v8 =>
    if v8=true then
      Abl (AcZ k v5 0 (IntKind.wrap .i64 (v0-1))) fun v9 =>
      if v9=true then
        some (v4 !=v5)
      else
        some false
    else
      some false
  else
    some false
def Ab9 (k : Nat) (v0 : Int) : Option Int :=
  some (IntKind.wrap .i64 (2+IntKind.wrap .i64 (2*v0)))
def AaL.J2 (k : Nat) (v9 : Int) (kb1 : Int→(List AaC)→Option (Int×(List AaC))) (v11 : (List AaC)) : Option (Int×(List AaC)) :=
  kb1 (IntKind.wrap .i64 (v9+1)) v11
def AaL.J4 (k : Nat) (v14 : Int) (kb3 : Int→(List AaC)→Option (Int×(List AaC))) (v16 : (List AaC)) : Option (Int×(List AaC)) :=
  kb3 (IntKind.wrap .i64 (v14+1)) v16
def AaL.J6 (k : Nat) (v14 : Int) (v15 : (List AaC)) (v20 : Int) (kb3 : Int→(List AaC)→Option (Int×(List AaC))) (v21 : Int) : Option (Int×(List AaC)) :=
  chk ((v15.length+([(AaC.mk v20 v21 1)] : List AaC).length)*24≤140737488355328) <|
  AaL.J4 k v14 kb3 (v15++([(AaC.mk v20 v21 1)] : List AaC))
def AaL.J5 (k : Nat) (v5 : Int) (v14 : Int) (v15 : (List AaC)) (v17 : AaB) (v19 : Int) (kb3 : Int→(List AaC)→Option (Int×(List AaC))) (v20 : Int) : Option (Int×(List AaC)) :=
  if v17.To=v5 then
    AaL.J6 k v14 v15 v20 kb3 1
  else
    AaL.J6 k v14 v15 v20 kb3 v19
def AaL.L3 (k : Nat) (v1 : (List AaB)) (v3 : Int) (v4 : Int) (v5 : Int) (v8 : Int) : Nat→Int→(List AaC)→Option (Int×(List AaC))
  | 0,_,_=>none
  | n+1,v14,v15 =>
    if v14<(v1.length : Int) then
      idx v1 v14 fun v17 =>
      if v17.Level<v3 then
        AaL.J4 k v14 (fun v14_ v15_=>AaL.L3 k v1 v3 v4 v5 v8 n v14_ v15_) v15
      else
        if v17.To=v4 then
          AaL.J4 k v14 (fun v14_ v15_=>AaL.L3 k v1 v3 v4 v5 v8 n v14_ v15_) v15
        else
          if v17.From=v5 then
            AaL.J4 k v14 (fun v14_ v15_=>AaL.L3 k v1 v3 v4 v5 v8 n v14_ v15_) v15
          else
            Abl (Ab9 k v17.From) fun v18 =>
            Abl (Ab9 k v17.To) fun v19 =>
            if v17.From=v4 then
              AaL.J5 k v5 v14 v15 v17 v19 (fun v14_ v15_=>AaL.L3 k v1 v3 v4 v5 v8 n v14_ v15_) 0
            else
              AaL.J5 k v5 v14 v15 v17 v19 (fun v14_ v15_=>AaL.L3 k v1 v3 v4 v5 v8 n v14_ v15_) (IntKind.wrap .i64 (v18+1))
    else
      some (v8,v15)
def AaL.L1 (k : Nat) (v0 : Int) (v1 : (List AaB)) (v3 : Int) (v4 : Int) (v5 : Int) (v8 : Int) : Nat→Int→(List AaC)→Option (Int×(List AaC))
  | 0,_,_=>none
  | n+1,v9,v10 =>
    if v9<v0 then
      if v9≠v4 then
        if v9≠v5 then
          Abl (Ab9 k v9) fun v12 =>
          Abl (Ab9 k v9) fun v13 =>
          chk ((v10.length+([(AaC.mk v12 (IntKind.wrap .i64 (v13+1)) 1)] : List AaC).length)*24≤140737488355328) <|
          AaL.J2 k v9 (fun v9_ v10_=>AaL.L1 k v0 v1 v3 v4 v5 v8 n v9_ v10_) (v10++([(AaC.mk v12 (IntKind.wrap .i64 (v13+1)) 1)] : List AaC))
        else
          AaL.J2 k v9 (fun v9_ v10_=>AaL.L1 k v0 v1 v3 v4 v5 v8 n v9_ v10_) v10
      else
        AaL.J2 k v9 (fun v9_ v10_=>AaL.L1 k v0 v1 v3 v4 v5 v8 n v9_ v10_) v10
    else
      AaL.L3 k v1 v3 v4 v5 v8 k 0 v10
def AaL (k : Nat) (v0 : Int) (v1 : (List AaB)) (v2 : (List Int)) (v3 : Int) (v4 : Int) (v5 : Int) : Option (Int×(List AaC)) :=
  Abl (Ab9 k v0) fun v8 =>
  AaL.L1 k v0 v1 v3 v4 v5 v8 k 0 ([] : List AaC)
def AdA (k : Nat) (v0 : Int) (v1 : Int) (v2 : Int) (v3 : Int) (v4 : (List AaC)) : Option Bool :=
  Abl (AcZ k v0 0 (IntKind.wrap .i64 (v3-1))) fun v6 =>
  if (!v6)=true then
    some true
  else
    Abl (AcZ k v1 0 (IntKind.wrap .i64 (v3-1))) fun v7 =>
    if (!v7)=true then
      some true
    else
      if v0=v1 then
        some true
      else
        if v1=0 then
          some true
        else
          if v0=1 then
            some true
          else
            Abl (AcZ k v2 0 1048576) fun v8 =>
            some (!v8)
def AaO.L1 (k : Nat) (v0 : (List AaC)) (v1 : Int) (v2 : (List AaC)) : Nat→Int→Option Int
  | 0,_=>none
  | n+1,v4 =>
    if v4<(v0.length : Int) then
      idx v0 v4 fun v5 =>
      Abl (AdA k v5.From v5.To v5.Cap v1 v2) fun v6 =>
      if v6=true then
        some v4
      else
        AaO.L1 k v0 v1 v2 n (IntKind.wrap .i64 (v4+1))
    else
      some (-1)
def AaO (k : Nat) (v0 : (List AaC)) (v1 : Int) (v2 : (List AaC)) : Option Int :=
  AaO.L1 k v0 v1 v2 k 0
def Aa1 (k : Nat) (v0 : (List AaC)) (v1 : Int) (v2 : (List AaC)) : Option Bool :=
  Abl (AaO k v0 v1 v2) fun v4 =>
  some (decide (0≤v4))
def Ac3 (k : Nat) (v0 : Int) (v1 : (List AaC)) : Option Int :=
  Abl (AcZ k v0 2 130) fun v3 =>
  if (!v3)=true then
    some 16
  else
    if 1200<(v1.length : Int) then
      some 16
    else
      Abl (Aa1 k v1 v0 v1) fun v4 =>
      if v4=true then
        some 16
      else
        some 0
def AbO (k : Nat) (v0 : (List Int)) : Option (List Int) :=
  chk (v0.length*8≤140737488355328) <| some v0
def AbS.S (v4 : (List (List AaA))) (x : Int) (e : AaA) (F : (List (List AaA))→Option (List (List AaA))) : Option (List (List AaA)) :=
  chk ((0 : Int)≤x∧x.toNat<v4.length) <|
  idx v4 x fun l =>
  chk ((l.length+([e] : List AaA).length)*16≤140737488355328) <|
  F (v4.set x.toNat (l++[e]))
def AbS.L1 (k : Nat) (v1 : (List AaC)) : Nat→Int→(List (List AaA))→Option (List (List AaA))
  | 0,_,_=>none
  | n+1,v3,v4 =>
    if v3<(v1.length : Int) then
      idx v1 v3 fun v5 =>
      AbS.S v4 v5.From ⟨v3,false⟩ fun v6 =>
      AbS.S v6 v5.To ⟨v3,true⟩ fun v7 =>
      AbS.L1 k v1 n (IntKind.wrap .i64 (v3+1)) v7
    else
      some v4
def AbS (k : Nat) (v0 : Int) (v1 : (List AaC)) (v2 : (List Int)) : Option (List (List AaA)) :=
  chk ((0 : Int)≤v0∧24*v0≤281474976710656) <|
  AbS.L1 k v1 k 0 (List.replicate v0.toNat ([] : List AaA))
def Abh (k : Nat) (v0 : Int) (v1 : (List AaC)) (v2 : (List Int)) (v3 : (List (List AaA))) (v4 : Int) (v5 : Bool) : Option (Int×Int) :=
  idx v1 v4 fun v8 =>
  if v5=true then
    idx v2 v4 fun v9 =>
    some (v9,v8.From)
  else
    idx v2 v4 fun v10 =>
    some (IntKind.wrap .i64 (v8.Cap-v10),v8.To)
def AaH.J3 (k : Nat) (v11 : Int) (kb2 : Nat→Int→(List (Int×AaA))→(List Int)→Option (List (Int×AaA))) (v14 : (List (Int×AaA))) (v15 : (List Int)) (v16 : Nat) : Option (List (Int×AaA)) :=
  kb2 v16 (IntKind.wrap .i64 (v11+1)) v14 v15
def AaH.J4 (k : Nat) (v10 : Nat) (v11 : Int) (v12 : (List (Int×AaA))) (v13 : (List Int)) (v17 : AaA) (v18 : Int) (v19 : Int) (kb2 : Nat→Int→(List (Int×AaA))→(List Int)→Option (List (Int×AaA))) (v20 : Bool) : Option (List (Int×AaA)) :=
  if 0<v18 then
    if (!v20)=true then
      chk (((v13.drop v10).length+([v19] : List Int).length)*8≤140737488355328∧v10≤v13.length) <|
      AaH.J3 k v11 kb2 (AbF v12 v19 v17) ((v13.drop v10)++([v19] : List Int)) 0
    else
      AaH.J3 k v11 kb2 v12 v13 v10
  else
    AaH.J3 k v11 kb2 v12 v13 v10
def AaH.L2 (k : Nat) (v0 : Int) (v1 : (List AaC)) (v2 : (List Int)) (v3 : (List (List AaA))) (v9 : (List AaA)) (kb1 : Nat→(List (Int×AaA))→(List Int)→Option (List (Int×AaA))) : Nat→Nat→Int→(List (Int×AaA))→(List Int)→Option (List (Int×AaA))
  | 0,_,_,_,_=>none
  | n+1,v10,v11,v12,v13 =>
    if v11<(v9.length : Int) then
      idx v9 v11 fun v17 =>
      AgX (Abh k v0 v1 v2 v3 v17.arc v17.back) fun v18 v19 =>
      Aik (Afa v12 v19) (fun v21 =>
        AaH.J4 k v10 v11 v12 v13 v17 v18 v19 (fun v10_ v11_ v12_ v13_=>AaH.L2 k v0 v1 v2 v3 v9 kb1 n v10_ v11_ v12_ v13_) true
      ) <|
      AaH.J4 k v10 v11 v12 v13 v17 v18 v19 (fun v10_ v11_ v12_ v13_=>AaH.L2 k v0 v1 v2 v3 v9 kb1 n v10_ v11_ v12_ v13_) false
    else
      chk (0<v13.length∧(1 : Int)≤(((v13.length-v10) : Nat) : Int)) <|
      kb1 (v10+(1 : Int).toNat) v12 v13
def AaH.L1 (k : Nat) (v0 : Int) (v1 : (List AaC)) (v2 : (List Int)) (v3 : (List (List AaA))) : Nat→Nat→(List (Int×AaA))→(List Int)→Option (List (Int×AaA))
  | 0,_,_,_=>none
  | n+1,v5,v6,v7 =>
    if 0<(((v7.length-v5) : Nat) : Int) then
      chk ((0 : Int)≤0∧(0 : Int).toNat<(v7.length-v5)∧v5+(0 : Int).toNat<v7.length) <|
      idx v7 ((v5+(0 : Int).toNat : Nat) : Int) fun v8 =>
      idx v3 v8 fun v9 =>
      AaH.L2 k v0 v1 v2 v3 v9 (fun v5_ v6_ v7_=>AaH.L1 k v0 v1 v2 v3 n v5_ v6_ v7_) k v5 0 v6 v7
    else
      some v6
def AaH (k : Nat) (v0 : Int) (v1 : (List AaC)) (v2 : (List Int)) (v3 : (List (List AaA))) : Option (List (Int×AaA)) :=
  AaH.L1 k v0 v1 v2 v3 k 0 (AbF ([] : (List (Int×AaA))) 0 (AaA.mk (-1) false)) ([0] : List Int)
def AaI.J3 (k : Nat) (v0 : Int) (v1 : (List AaC)) (v2 : (List Int)) (v3 : (List (List AaA))) (v8 : Int) (v10 : (List AaA)) (kb2 : Int→Int→(List AaA)→Option (Bool×(List Int))) (v11 : Int) (v12 : Bool) : Option (Bool×(List Int)) :=
  AgX (Abh k v0 v1 v2 v3 v11 v12) fun v13 v14 =>
  chk ((v10.length+([(AaA.mk v11 v12)] : List AaA).length)*16≤140737488355328) <|
  ApL (if v13<v8 then v13 else v8) fun v15 =>
  idx v1 v11 fun v16 =>
  if v12=true then
    kb2 v15 v16.To (v10++([(AaA.mk v11 v12)] : List AaA))
  else
    kb2 v15 v16.From (v10++([(AaA.mk v11 v12)] : List AaA))
def AaI.J5 (k : Nat) (v18 : Int) (kb4 : Int→(List Int)→Option (Bool×(List Int))) (v20 : (List Int)) : Option (Bool×(List Int)) :=
  kb4 (IntKind.wrap .i64 (v18+1)) v20
def AaI.L4 (k : Nat) (v8 : Int) (v10 : (List AaA)) : Nat→Int→(List Int)→Option (Bool×(List Int))
  | 0,_,_=>none
  | n+1,v18,v19 =>
    if v18<(v10.length : Int) then
      idx v10 v18 fun v21 =>
      if v21.back=true then
        chk ((0 : Int)≤v21.arc∧(v21.arc).toNat<v19.length) <|
        idx v19 v21.arc fun v22 =>
        chk ((0 : Int)≤v21.arc∧(v21.arc).toNat<v19.length) <|
        AaI.J5 k v18 (fun v18_ v19_=>AaI.L4 k v8 v10 n v18_ v19_) (v19.set (v21.arc).toNat (IntKind.wrap .i64 (v22-v8)))
      else
        chk ((0 : Int)≤v21.arc∧(v21.arc).toNat<v19.length) <|
        idx v19 v21.arc fun v23 =>
        chk ((0 : Int)≤v21.arc∧(v21.arc).toNat<v19.length) <|
        AaI.J5 k v18 (fun v18_ v19_=>AaI.L4 k v8 v10 n v18_ v19_) (v19.set (v21.arc).toNat (IntKind.wrap .i64 (v23+v8)))
    else
      some (true,v19)
def AaI.L2 (k : Nat) (v0 : Int) (v1 : (List AaC)) (v2 : (List Int)) (v3 : (List (List AaA))) (v6 : (List (Int×AaA))) : Nat→Int→Int→(List AaA)→Option (Bool×(List Int))
  | 0,_,_,_=>none
  | n+1,v8,v9,v10 =>
    if v9≠0 then
      Aik (Afa v6 v9) (fun v17 =>
        AaI.J3 k v0 v1 v2 v3 v8 v10 (fun v8_ v9_ v10_=>AaI.L2 k v0 v1 v2 v3 v6 n v8_ v9_ v10_) v17.arc v17.back
      ) <|
      AaI.J3 k v0 v1 v2 v3 v8 v10 (fun v8_ v9_ v10_=>AaI.L2 k v0 v1 v2 v3 v6 n v8_ v9_ v10_) 0 false
    else
      AaI.L4 k v8 v10 k 0 v2
def AaI.J1 (k : Nat) (v0 : Int) (v1 : (List AaC)) (v2 : (List Int)) (v3 : (List (List AaA))) (v6 : (List (Int×AaA))) (v7 : Bool) : Option (Bool×(List Int)) :=
  if (!v7)=true then
    some (false,v2)
  else
    AaI.L2 k v0 v1 v2 v3 v6 k 1048576 1 ([] : List AaA)
def AaI (k : Nat) (v0 : Int) (v1 : (List AaC)) (v2 : (List Int)) (v3 : (List (List AaA))) : Option (Bool×(List Int)) :=
  Abl (AaH k v0 v1 v2 v3) fun v6 =>
  Aik (Afa v6 1) (fun v24 =>
    AaI.J1 k v0 v1 v2 v3 v6 true
  ) <|
  AaI.J1 k v0 v1 v2 v3 v6 false
def Ab3.L1 (k : Nat) (v0 : Int) (v1 : (List AaC)) (v5 : (List (List AaA))) : Nat→(List Int)→Option (List Int)
  | 0,_=>none
  | n+1,v6 =>
    AgX (AaI k v0 v1 v6 v5) fun v7 v8 =>
    chk (v8.length=v6.length) <|
    if v7=true then
      Ab3.L1 k v0 v1 v5 n v8
    else
      some v8
def Ab3 (k : Nat) (v0 : Int) (v1 : (List AaC)) (v2 : (List Int)) : Option (List Int) :=
  Abl (AbO k v2) fun v4 =>
  Abl (AbS k v0 v1 v4) fun v5 =>
  Ab3.L1 k v0 v1 v5 k v4
def Aes (k : Nat) (v0 : Int) (v1 : (List AaC)) : Option ((List Int)×Int) :=
  Abl (Ac3 k v0 v1) fun v4 =>
  if v4≠0 then
    some (([] : List Int),v4)
  else
    chk ((0 : Int)≤(v1.length : Int)∧16*(v1.length : Int)≤281474976710656) <|
    Abl (Ab3 k v0 v1 (List.replicate ((v1.length : Int)).toNat (0 : Int))) fun v5 =>
    some (v5,0)
def AbL.L1 (k : Nat) (v1 : (List AaC)) (v2 : (List Int)) : Nat→Int→(List Int)→Option (List Int)
  | 0,_,_=>none
  | n+1,v4,v5 =>
    if v4<(v1.length : Int) then
      idx v1 v4 fun v6 =>
      chk ((0 : Int)≤v6.From∧(v6.From).toNat<v5.length) <|
      idx v5 v6.From fun v7 =>
      idx v2 v4 fun v8 =>
      chk ((0 : Int)≤v6.From∧(v6.From).toNat<v5.length) <|
      chk ((0 : Int)≤v6.To∧(v6.To).toNat<(v5.set (v6.From).toNat (IntKind.wrap .i64 (v7+v8))).length) <|
      idx (v5.set (v6.From).toNat (IntKind.wrap .i64 (v7+v8))) v6.To fun v9 =>
      chk ((0 : Int)≤v6.To∧(v6.To).toNat<(v5.set (v6.From).toNat (IntKind.wrap .i64 (v7+v8))).length) <|
      AbL.L1 k v1 v2 n (IntKind.wrap .i64 (v4+1)) ((v5.set (v6.From).toNat (IntKind.wrap .i64 (v7+v8))).set (v6.To).toNat (IntKind.wrap .i64 (v9-v8)))
    else
      some v5
def AbL (k : Nat) (v0 : Int) (v1 : (List AaC)) (v2 : (List Int)) : Option (List Int) :=
  chk ((0 : Int)≤v0∧16*v0≤281474976710656) <|
  AbL.L1 k v1 v2 k 0 (List.replicate (v0).toNat (0 : Int))
def Adk (k : Nat) (v0 : Int) : Option Bool :=
  some (v0 !=0)
def AaW.L1 (k : Nat) (v0 : (List Int)) : Nat→Int→Option Int
  | 0,_=>none
  | n+1,v2 =>
    if v2<(v0.length : Int) then
      idx v0 v2 fun v3 =>
      Abl (Adk k v3) fun v4 =>
      if v4=true then
        some v2
      else
        AaW.L1 k v0 n (IntKind.wrap .i64 (v2+1))
    else
      some (-1)
def AaW (k : Nat) (v0 : (List Int)) : Option Int :=
  AaW.L1 k v0 k 0
def AbD (k : Nat) (v0 : (List Int)) : Option Bool :=
  Abl (AaW k v0) fun v2 =>
  some (decide (0≤v2))
def Abb.L1 (k : Nat) (v0 : Int) (v1 : (List AaC)) (v2 : (List Int)) : Nat→Int→Option Bool
  | 0,_=>none
  | n+1,v5 =>
    if v5<(v1.length : Int) then
      idx v1 v5 fun v6 =>
      idx v2 v5 fun v7 =>
      Abl (AcZ k v7 0 v6.Cap) fun v8 =>
      if (!v8)=true then
        some false
      else
        Abb.L1 k v0 v1 v2 n (IntKind.wrap .i64 (v5+1))
    else
      Abl (AbL k v0 v1 v2) fun v9 =>
      chk ((2 : Int)≤((v9.length : Nat) : Int)) <|
      Abl (AbD k (v9.drop ((2 : Int).toNat))) fun v10 =>
      some (!v10)
def Abb (k : Nat) (v0 : Int) (v1 : (List AaC)) (v2 : (List Int)) : Option Bool :=
  Abl (Ac3 k v0 v1) fun v4 =>
  if v4≠0 then
    some false
  else
    if (v2.length : Int)≠(v1.length : Int) then
      some false
    else
      Abb.L1 k v0 v1 v2 k 0
def Ac2 (k : Nat) (v0 : Int) (v1 : (List AaC)) (v2 : (List Int)) : Option Int :=
  Abl (Abb k v0 v1 v2) fun v4 =>
  if (!v4)=true then
    some 0
  else
    Abl (AbL k v0 v1 v2) fun v5 =>
    chk ((0 : Int)≤0∧(0 : Int).toNat<v5.length) <|
    idx v5 (0 : Int) fun v6 =>
    some v6
def Aee (k : Nat) (v0 : Int) (v1 : Int) (v2 : Int) (v3 : Int) : Option Bool :=
  some (v0==v3)
def Aaf.L1 (k : Nat) (v0 : (List AaC)) (v1 : Int) : Nat→Int→Option Int
  | 0,_=>none
  | n+1,v3 =>
    if v3<(v0.length : Int) then
      idx v0 v3 fun v4 =>
      Abl (Aee k v4.From v4.To v4.Cap v1) fun v5 =>
      if v5=true then
        some v3
      else
        Aaf.L1 k v0 v1 n (IntKind.wrap .i64 (v3+1))
    else
      some (-1)
def Aaf (k : Nat) (v0 : (List AaC)) (v1 : Int) : Option Int :=
  Aaf.L1 k v0 v1 k 0
def AcI (k : Nat) (v0 : (List Int)) : Option (List Int) :=
  chk (v0.length*8≤140737488355328) <| some v0
def AaV.J4 (k : Nat) (v12 : (List Int)) (v17 : Int) (v18 : Int) (v19 : AaC) (kb2 : (List Int)→(List Int)→(List (Int×Int))→Int→Option ((List (List Int))×Int)) (v20 : (List Int)) (v21 : (List (Int×Int))) : Option ((List (List Int))×Int) :=
  kb2 (v12.set (v17).toNat (IntKind.wrap .i64 (v18-1))) v20 (AbF v21 v19.To (v20.length : Int)) v19.To
def AaV.L6 (k : Nat) (v1 : (List AaC)) (v12 : (List Int)) (v13 : (List Int)) (v17 : Int) (v18 : Int) (v19 : AaC) (v22 : Int) (kb2 : (List Int)→(List Int)→(List (Int×Int))→Int→Option ((List (List Int))×Int)) : Nat→Int→(List (Int×Int))→Option ((List (List Int))×Int)
  | 0,_,_=>none
  | n+1,v24,v25 =>
    if v24<((((v13++([v17] : List Int)).length-((v22).toNat)) : Nat) : Int) then
      chk ((0 : Int)≤v24∧(v24).toNat<((v13++([v17] : List Int)).length-((v22).toNat))∧(v22).toNat+(v24).toNat<(v13++([v17] : List Int)).length) <|
      idx (v13++([v17] : List Int)) (((v22).toNat+(v24).toNat : Nat) : Int) fun v26 =>
      idx v1 v26 fun v27 =>
      AaV.L6 k v1 v12 v13 v17 v18 v19 v22 kb2 n (IntKind.wrap .i64 (v24+1)) (ApI v25 v27.To)
    else
      chk (0<(v13++([v17] : List Int)).length∧(0 : Int)<v22∧(0 : Int)≤v22∧(v22 : Int)≤(((v13++([v17] : List Int)).length : Nat) : Int)) <|
      AaV.J4 k v12 v17 v18 v19 kb2 ((v13++([v17] : List Int)).take ((v22).toNat)) v25
def AaV.J5 (k : Nat) (v1 : (List AaC)) (v12 : (List Int)) (v13 : (List Int)) (v14 : (List (Int×Int))) (v17 : Int) (v18 : Int) (v19 : AaC) (kb2 : (List Int)→(List Int)→(List (Int×Int))→Int→Option ((List (List Int))×Int)) (v22 : Int) (v23 : Bool) : Option ((List (List Int))×Int) :=
  if v23=true then
    chk (0<(v13++([v17] : List Int)).length∧(0 : Int)≤v22∧(v22 : Int)≤(((v13++([v17] : List Int)).length : Nat) : Int)) <|
    AaV.L6 k v1 v12 v13 v17 v18 v19 v22 kb2 k 0 v14
  else
    AaV.J4 k v12 v17 v18 v19 kb2 (v13++([v17] : List Int)) v14
def AaV.J3 (k : Nat) (v1 : (List AaC)) (v12 : (List Int)) (v13 : (List Int)) (v14 : (List (Int×Int))) (kb2 : (List Int)→(List Int)→(List (Int×Int))→Int→Option ((List (List Int))×Int)) (v17 : Int) : Option ((List (List Int))×Int) :=
  chk ((0 : Int)≤v17∧(v17).toNat<v12.length) <|
  idx v12 v17 fun v18 =>
  chk ((0 : Int)≤v17∧(v17).toNat<v12.length) <|
  chk ((v13.length+([v17] : List Int).length)*8≤140737488355328) <|
  idx v1 v17 fun v19 =>
  Aik (Afa v14 v19.To) (fun v28 =>
    AaV.J5 k v1 v12 v13 v14 v17 v18 v19 kb2 v28 true
  ) <|
  AaV.J5 k v1 v12 v13 v14 v17 v18 v19 kb2 0 false
def AaV.J8 (k : Nat) (v29 : Int) (kb7 : Int→Option ((List (List Int))×Int)) : Option ((List (List Int))×Int) :=
  kb7 (IntKind.wrap .i64 (v29+1))
def AaV.L7 (k : Nat) (v1 : (List AaC)) (v12 : (List Int)) (v13 : (List Int)) (v14 : (List (Int×Int))) (v15 : Int) (kb2 : (List Int)→(List Int)→(List (Int×Int))→Int→Option ((List (List Int))×Int)) : Nat→Int→Option ((List (List Int))×Int)
  | 0,_=>none
  | n+1,v29 =>
    if v29<(v1.length : Int) then
      idx v1 v29 fun v30 =>
      if v30.From≠v15 then
        AaV.J8 k v29 (fun v29_=>AaV.L7 k v1 v12 v13 v14 v15 kb2 n v29_)
      else
        chk ((0 : Int)≤v29∧(v29).toNat<v12.length) <|
        idx v12 v29 fun v31 =>
        if v31=0 then
          AaV.J8 k v29 (fun v29_=>AaV.L7 k v1 v12 v13 v14 v15 kb2 n v29_)
        else
          AaV.J3 k v1 v12 v13 v14 kb2 v29
    else
      AaV.J3 k v1 v12 v13 v14 kb2 v29
def AaV.L2 (k : Nat) (v1 : (List AaC)) (v9 : Int) (v11 : (List (List Int))) (kb1 : Int→(List Int)→(List (List Int))→Option ((List (List Int))×Int)) : Nat→(List Int)→(List Int)→(List (Int×Int))→Int→Option ((List (List Int))×Int)
  | 0,_,_,_,_=>none
  | n+1,v12,v13,v14,v15 =>
    if v15≠1 then
      Abl (Aaf k v1 v15) fun v16 =>
      AaV.L7 k v1 v12 v13 v14 v15 (fun v12_ v13_ v14_ v15_=>AaV.L2 k v1 v9 v11 kb1 n v12_ v13_ v14_ v15_) k v16
    else
      Abl (AcI k v13) fun v32 =>
      chk ((v11.length+([v32] : List (List Int)).length)*24≤140737488355328) <|
      kb1 (IntKind.wrap .i64 (v9+1)) v12 (v11++([v32] : List (List Int)))
def AaV.L1 (k : Nat) (v1 : (List AaC)) (v8 : Int) : Nat→Int→(List Int)→(List (List Int))→Option ((List (List Int))×Int)
  | 0,_,_,_=>none
  | n+1,v9,v10,v11 =>
    if v9<v8 then
      AaV.L2 k v1 v9 v11 (fun v9_ v10_ v11_=>AaV.L1 k v1 v8 n v9_ v10_ v11_) k v10 ([] : List Int) (AbF ([] : (List (Int×Int))) 0 0) 0
    else
      some (v11,0)
def AaV (k : Nat) (v0 : Int) (v1 : (List AaC)) (v2 : (List Int)) : Option ((List (List Int))×Int) :=
  Abl (Ac3 k v0 v1) fun v5 =>
  if v5≠0 then
    some (([] : List (List Int)),v5)
  else
    Abl (Abb k v0 v1 v2) fun v6 =>
    if (!v6)=true then
      some (([] : List (List Int)),17)
    else
      Abl (AbO k v2) fun v7 =>
      Abl (Ac2 k v0 v1 v2) fun v8 =>
      AaV.L1 k v1 v8 k 0 v7 ([] : List (List Int))
def Aax.J3 (k : Nat) (v17 : Int) (kb2 : Int→(List Int)→Option (List (List Int))) (v19 : (List Int)) : Option (List (List Int)) :=
  kb2 (IntKind.wrap .i64 (v17+1)) v19
def Aax.L2 (k : Nat) (v5 : Int) (v9 : (List AaC)) (v14 : Int) (v15 : (List (List Int))) (v16 : (List Int)) (kb1 : Int→(List (List Int))→Option (List (List Int))) : Nat→Int→(List Int)→Option (List (List Int))
  | 0,_,_=>none
  | n+1,v17,v18 =>
    if v17<(v16.length : Int) then
      idx v16 v17 fun v20 =>
      idx v9 v20 fun v21 =>
      if v21.To=1 then
        chk ((v18.length+([v5] : List Int).length)*8≤140737488355328) <|
        Aax.J3 k v17 (fun v17_ v18_=>Aax.L2 k v5 v9 v14 v15 v16 kb1 n v17_ v18_) (v18++([v5] : List Int))
      else
        if (Int.tmod v21.To 2)=0 then
          chk ((v18.length+([IntKind.wrap .i64 (Int.tdiv (IntKind.wrap .i64 (v21.To-2)) 2)] : List Int).length)*8≤140737488355328) <|
          Aax.J3 k v17 (fun v17_ v18_=>Aax.L2 k v5 v9 v14 v15 v16 kb1 n v17_ v18_) (v18++([IntKind.wrap .i64 (Int.tdiv (IntKind.wrap .i64 (v21.To-2)) 2)] : List Int))
        else
          Aax.J3 k v17 (fun v17_ v18_=>Aax.L2 k v5 v9 v14 v15 v16 kb1 n v17_ v18_) v18
    else
      chk ((v15.length+([v18] : List (List Int)).length)*24≤140737488355328) <|
      kb1 (IntKind.wrap .i64 (v14+1)) (v15++([v18] : List (List Int)))
def Aax.L1 (k : Nat) (v4 : Int) (v5 : Int) (v9 : (List AaC)) (v12 : (List (List Int))) : Nat→Int→(List (List Int))→Option (List (List Int))
  | 0,_,_=>none
  | n+1,v14,v15 =>
    if v14<(v12.length : Int) then
      idx v12 v14 fun v16 =>
      Aax.L2 k v5 v9 v14 v15 v16 (fun v14_ v15_=>Aax.L1 k v4 v5 v9 v12 n v14_ v15_) k 0 ([v4] : List Int)
    else
      some v15
def Aax (k : Nat) (v0 : Int) (v1 : (List AaB)) (v2 : (List Int)) (v3 : Int) (v4 : Int) (v5 : Int) : Option (List (List Int)) :=
  Abl (AcN k v0 v1 v2 v3 v4 v5) fun v7 =>
  if (!v7)=true then
    some ([] : List (List Int))
  else
    AgX (AaL k v0 v1 v2 v3 v4 v5) fun v8 v9 =>
    AgX (Aes k v8 v9) fun v10 v11 =>
    AgX (AaV k v8 v9 v10) fun v12 v13 =>
    Aax.L1 k v4 v5 v9 v12 k 0 ([] : List (List Int))
def Abd (k : Nat) (v0 : (List AaB)) : Option (List AaB) :=
  chk (v0.length*24≤140737488355328) <| some v0
def Adp (k : Nat) (v0 : Int) (v1 : (List AaB)) (v2 : (List Int)) : Option (Int×(List AaB)×(List Int)) :=
  Abl (Abd k v1) fun v6 =>
  Abl (AbO k v2) fun v7 =>
  some (v0,v6,v7)
def AdL (k : Nat) (v0 : Int) (v1 : Int) (v2 : Int) (v3 : Int) : Option Bool :=
  some (decide (v2<v3))
def Aaa.L1 (k : Nat) (v0 : (List AaB)) (v1 : Int) : Nat→Int→Option Int
  | 0,_=>none
  | n+1,v3 =>
    if v3<(v0.length : Int) then
      idx v0 v3 fun v4 =>
      Abl (AdL k v4.From v4.To v4.Level v1) fun v5 =>
      if v5=true then
        some v3
      else
        Aaa.L1 k v0 v1 n (IntKind.wrap .i64 (v3+1))
    else
      some (-1)
def Aaa (k : Nat) (v0 : (List AaB)) (v1 : Int) : Option Int :=
  Aaa.L1 k v0 v1 k 0
def AaJ.J2 (k : Nat) (v5 : Int) (kb1 : Int→Int→(List AaB)→Option (List AaB)) (v7 : (List AaB)) (v8 : Int) : Option (List AaB) :=
  kb1 v8 (IntKind.wrap .i64 (v5+1)) v7
def AaJ.L1 (k : Nat) (v1 : Int) : Nat→Int→Int→(List AaB)→Option (List AaB)
  | 0,_,_,_=>none
  | n+1,v4,v5,v6 =>
    if v5<(v6.length : Int) then
      idx v6 v5 fun v9 =>
      Abl (AdL k v9.From v9.To v9.Level v1) fun v10 =>
      if (!v10)=true then
        idx v6 v4 fun v11 =>
        AaJ.J2 k v5 (fun v4_ v5_ v6_=>AaJ.L1 k v1 n v4_ v5_ v6_) (v6.set (v4).toNat v9) (IntKind.wrap .i64 (v4+1))
      else
        AaJ.J2 k v5 (fun v4_ v5_ v6_=>AaJ.L1 k v1 n v4_ v5_ v6_) v6 v4
    else
      chk ((0 : Int)≤v4∧(v4 : Int)≤((v6.length : Nat) : Int)) <|
      chk (0<v6.length∧(v4).toNat≤v6.length) <|
      ApL (v6.take ((v4).toNat)++List.replicate (v6.length-((v4).toNat)) (AaB.mk 0 0 0)) fun v12 =>
      chk ((0 : Int)≤v4∧(v4 : Int)≤((v12.length : Nat) : Int)) <|
      some (v12.take ((v4).toNat))
def AaJ (k : Nat) (v0 : (List AaB)) (v1 : Int) : Option (List AaB) :=
  Abl (Aaa k v0 v1) fun v3 =>
  if v3=(-1) then
    some v0
  else
    AaJ.L1 k v1 k v3 (IntKind.wrap .i64 (v3+1)) v0
def AeA (k : Nat) (v0 : Int) (v1 : (List AaB)) (v2 : (List Int)) (v3 : Int) : Option (Int×(List AaB)×(List Int)) :=
  Apf (Adp k v0 v1 v2) fun v7 v8 v9 =>
  Abl (AaJ k v8 v3) fun v10 =>
  some (v7,v10,v9)
def Aaw.J3 (k : Nat) (v6 : Int) (v7 : Int) : Option Int :=
  idx (bI (ByteArray.mk #[0,1,2,2,3,3,3,3,4,4,4,4,4,4,4,4,5,5,5,5,5,5,5,5,5,5,5,5,5,5,5,5,6,6,6,6,6,6,6,6,6,6,6,6,6,6,6,6,6,6,6,6,6,6,6,6,6,6,6,6,6,6,6,6,7,7,7,7,7,7,7,7,7,7,7,7,7,7,7,7,7,7,7,7,7,7,7,7,7,7,7,7,7,7,7,7,7,7,7,7,7,7,7,7,7,7,7,7,7,7,7,7,7,7,7,7,7,7,7,7,7,7,7,7,7,7,7,7,8,8,8,8,8,8,8,8,8,8,8,8,8,8,8,8,8,8,8,8,8,8,8,8,8,8,8,8,8,8,8,8,8,8,8,8,8,8,8,8,8,8,8,8,8,8,8,8,8,8,8,8,8,8,8,8,8,8,8,8,8,8,8,8,8,8,8,8,8,8,8,8,8,8,8,8,8,8,8,8,8,8,8,8,8,8,8,8,8,8,8,8,8,8,8,8,8,8,8,8,8,8,8,8,8,8,8,8,8,8,8,8,8,8,8,8,8,8,8,8,8,8,8,8,8,8,8,8])) (IntKind.wrap .u8 v6) fun v8 =>
  some (IntKind.wrap .i64 (v7+IntKind.wrap .i64 v8))
def Aaw.J2 (k : Nat) (v4 : Int) (v5 : Int) : Option Int :=
  if 256≤v4 then
    Aaw.J3 k (Int.fdiv v4 (2 ^ (8))) (IntKind.wrap .i64 (v5+8))
  else
    Aaw.J3 k v4 v5
def Aaw.J1 (k : Nat) (v2 : Int) (v3 : Int) : Option Int :=
  if 65536≤v2 then
    Aaw.J2 k (Int.fdiv v2 (2 ^ (16))) (IntKind.wrap .i64 (v3+16))
  else
    Aaw.J2 k v2 v3
def Aaw (k : Nat) (v0 : Int) : Option Int :=
  if 4294967296≤v0 then
    Aaw.J1 k (Int.fdiv v0 (2 ^ (32))) 32
  else
    Aaw.J1 k v0 0
def Ad9 (k : Nat) (v0 : Int) : Option Int :=
  Abl (Aaw k v0) fun v2 =>
  some v2
def AdN (k : Nat) (v0 : Int) : Option Bool :=
  some (v0 !=v0)
def Aej (k : Nat) (v0 : Int) (v1 : Int) : Option Bool :=
  Abl (AdN k v0) fun v3 =>
  if v3=true then
    Abl (AdN k v1) fun v4 =>
    if (!v4)=true then
      some true
    else
      some (decide (v0<v1))
  else
    some (decide (v0<v1))
def AaM.J2 (k : Nat) (v4 : Int) (kb1 : Int→(List Int)→Option (List Int)) (v6 : (List Int)) : Option (List Int) :=
  kb1 (IntKind.wrap .i64 (v4+1)) v6
def AaM.L3 (k : Nat) (v1 : Int) (v4 : Int) (kb1 : Int→(List Int)→Option (List Int)) : Nat→Int→(List Int)→Option (List Int)
  | 0,_,_=>none
  | n+1,v7,v8 =>
    if v1<v7 then
      chk ((0 : Int)≤v7∧(v7).toNat<v8.length) <|
      idx v8 v7 fun v9 =>
      chk ((0 : Int)≤(IntKind.wrap .i64 (v7-1))∧(IntKind.wrap .i64 (v7-1)).toNat<v8.length) <|
      idx v8 (IntKind.wrap .i64 (v7-1)) fun v10 =>
      Abl (Aej k v9 v10) fun v11 =>
      if v11=true then
        chk ((0 : Int)≤(IntKind.wrap .i64 (v7-1))∧(IntKind.wrap .i64 (v7-1)).toNat<v8.length) <|
        chk ((0 : Int)≤v7∧(v7).toNat<v8.length) <|
        chk ((0 : Int)≤v7∧(v7).toNat<v8.length) <|
        chk ((0 : Int)≤(IntKind.wrap .i64 (v7-1))∧(IntKind.wrap .i64 (v7-1)).toNat<(v8.set (v7).toNat v10).length) <|
        AaM.L3 k v1 v4 kb1 n (IntKind.wrap .i64 (v7-1)) ((v8.set (v7).toNat v10).set (IntKind.wrap .i64 (v7-1)).toNat v9)
      else
        AaM.J2 k v4 kb1 v8
    else
      AaM.J2 k v4 kb1 v8
def AaM.L1 (k : Nat) (v1 : Int) (v2 : Int) : Nat→Int→(List Int)→Option (List Int)
  | 0,_,_=>none
  | n+1,v4,v5 =>
    if v4<v2 then
      AaM.L3 k v1 v4 (fun v4_ v5_=>AaM.L1 k v1 v2 n v4_ v5_) k v4 v5
    else
      some v5
def AaM (k : Nat) (v0 : (List Int)) (v1 : Int) (v2 : Int) : Option (List Int) :=
  AaM.L1 k v1 v2 k (IntKind.wrap .i64 (v1+1)) v0
def Aa2.L1 (k : Nat) (v0 : (List Int)) (v1 : Int) (v2 : Int) (v3 : Int) : Nat→Option (List Int)
  | 0=>none
  | n+1 =>
    if IntKind.wrap .i64 (v2-v1)≤12 then
      Abl (AaM k v0 v1 v2) fun v5 =>
      chk (v5.length=v0.length) <|
      some v5
    else
      if v3=0 then
        none
      else
        none
def Aa2 (k : Nat) (v0 : (List Int)) (v1 : Int) (v2 : Int) (v3 : Int) : Option (List Int) :=
  Aa2.L1 k v0 v1 v2 v3 k
def Acc (k : Nat) (v0 : (List Int)) : Option (List Int) :=
  Abl (Ad9 k (IntKind.wrap .u64 (v0.length : Int))) fun v2 =>
  Abl (Aa2 k v0 0 (v0.length : Int) v2) fun v3 =>
  chk (v3.length=v0.length) <|
  some v3
def AbP.J2 (k : Nat) (v5 : Int) (kb1 : Int→(List Int)→Option (List Int)) (v7 : (List Int)) : Option (List Int) :=
  kb1 (IntKind.wrap .i64 (v5+1)) v7
def AbP.L1 (k : Nat) (v1 : (List AaB)) (v3 : Int) : Nat→Int→(List Int)→Option (List Int)
  | 0,_,_=>none
  | n+1,v5,v6 =>
    if v5<(v1.length : Int) then
      idx v1 v5 fun v8 =>
      if v8.From=v3 then
        chk ((v6.length+([v8.To] : List Int).length)*8≤140737488355328) <|
        AbP.J2 k v5 (fun v5_ v6_=>AbP.L1 k v1 v3 n v5_ v6_) (v6++([v8.To] : List Int))
      else
        AbP.J2 k v5 (fun v5_ v6_=>AbP.L1 k v1 v3 n v5_ v6_) v6
    else
      Abl (Acc k v6) fun v9 =>
      chk (v9.length=v6.length) <|
      some v9
def AbP (k : Nat) (v0 : Int) (v1 : (List AaB)) (v2 : (List Int)) (v3 : Int) : Option (List Int) :=
  AbP.L1 k v1 v3 k 0 ([] : List Int)
def Ab0 (k : Nat) (v0 : Int) (v1 : Int) (v2 : (List AaB)) (v3 : (List Int)) (v4 : Int) (v5 : Int) (v6 : Int) (v7 : (List (Int×Bool))) (v8 : Bool) (v9 : Int) : Option Bool :=
  Aik (Afa v7 v0) (fun v11 =>
    if v11=true then
      some true
    else
      if v9=v5 then
        if v0=v6 then
          some v8
        else
          some false
      else
        some false
  ) <|
  if v9=v5 then
    if v0=v6 then
      some v8
    else
      some false
  else
    some false
def Aai.L1 (k : Nat) (v0 : (List Int)) (v1 : Int) (v2 : (List AaB)) (v3 : (List Int)) (v4 : Int) (v5 : Int) (v6 : Int) (v7 : (List (Int×Bool))) (v8 : Bool) (v9 : Int) : Nat→Int→Option Int
  | 0,_=>none
  | n+1,v11 =>
    if v11<(v0.length : Int) then
      chk ((0 : Int)≤v11∧(v11).toNat<v0.length) <|
      idx v0 v11 fun v12 =>
      Abl (Ab0 k v12 v1 v2 v3 v4 v5 v6 v7 v8 v9) fun v13 =>
      if v13=true then
        some v11
      else
        Aai.L1 k v0 v1 v2 v3 v4 v5 v6 v7 v8 v9 n (IntKind.wrap .i64 (v11+1))
    else
      some (-1)
def Aai (k : Nat) (v0 : (List Int)) (v1 : Int) (v2 : (List AaB)) (v3 : (List Int)) (v4 : Int) (v5 : Int) (v6 : Int) (v7 : (List (Int×Bool))) (v8 : Bool) (v9 : Int) : Option Int :=
  Aai.L1 k v0 v1 v2 v3 v4 v5 v6 v7 v8 v9 k 0
def AaQ.J2 (k : Nat) (v13 : Int) (kb1 : Int→Int→(List Int)→Option (List Int)) (v15 : (List Int)) (v16 : Int) : Option (List Int) :=
  kb1 v16 (IntKind.wrap .i64 (v13+1)) v15
def AaQ.L1 (k : Nat) (v1 : Int) (v2 : (List AaB)) (v3 : (List Int)) (v4 : Int) (v5 : Int) (v6 : Int) (v7 : (List (Int×Bool))) (v8 : Bool) (v9 : Int) : Nat→Int→Int→(List Int)→Option (List Int)
  | 0,_,_,_=>none
  | n+1,v12,v13,v14 =>
    if v13<(v14.length : Int) then
      chk ((0 : Int)≤v13∧(v13).toNat<v14.length) <|
      idx v14 v13 fun v17 =>
      Abl (Ab0 k v17 v1 v2 v3 v4 v5 v6 v7 v8 v9) fun v18 =>
      if (!v18)=true then
        chk ((0 : Int)≤v12∧(v12).toNat<v14.length) <|
        AaQ.J2 k v13 (fun v12_ v13_ v14_=>AaQ.L1 k v1 v2 v3 v4 v5 v6 v7 v8 v9 n v12_ v13_ v14_) (v14.set (v12).toNat v17) (IntKind.wrap .i64 (v12+1))
      else
        AaQ.J2 k v13 (fun v12_ v13_ v14_=>AaQ.L1 k v1 v2 v3 v4 v5 v6 v7 v8 v9 n v12_ v13_ v14_) v14 v12
    else
      chk ((0 : Int)≤v12∧(v12 : Int)≤((v14.length : Nat) : Int)) <|
      chk (0<v14.length∧(v12).toNat≤v14.length) <|
      ApL (v14.take ((v12).toNat)++List.replicate (v14.length-((v12).toNat)) 0) fun v19 =>
      chk ((0 : Int)≤v12∧(v12 : Int)≤((v19.length : Nat) : Int)) <|
      some (v19.take ((v12).toNat))
def AaQ (k : Nat) (v0 : (List Int)) (v1 : Int) (v2 : (List AaB)) (v3 : (List Int)) (v4 : Int) (v5 : Int) (v6 : Int) (v7 : (List (Int×Bool))) (v8 : Bool) (v9 : Int) : Option (List Int) :=
  Abl (Aai k v0 v1 v2 v3 v4 v5 v6 v7 v8 v9) fun v11 =>
  if v11=(-1) then
    some v0
  else
    AaQ.L1 k v1 v2 v3 v4 v5 v6 v7 v8 v9 k v11 (IntKind.wrap .i64 (v11+1)) v0
def AcJ (k : Nat) (v0 : Int) (v1 : (List AaB)) (v2 : (List Int)) (v3 : Int) (v4 : Int) (v5 : Int) (v6 : (List (Int×Bool))) (v7 : Bool) (v8 : Int) : Option (List Int) :=
  Apf (AeA k v0 v1 v2 v3) fun v10 v11 v12 =>
  Abl (AbP k v10 v11 v12 v8) fun v13 =>
  Abl (AaQ k v13 v0 v1 v2 v3 v4 v5 v6 v7 v8) fun v14 =>
  some v14
def Aa9.L1 (k : Nat) (v0 : (List Int)) (v1 : Int) : Nat→Int→Option Int
  | 0,_=>none
  | n+1,v3 =>
    if v3<(v0.length : Int) then
      idx v0 v3 fun v4 =>
      if v1=v4 then
        some v3
      else
        Aa9.L1 k v0 v1 n (IntKind.wrap .i64 (v3+1))
    else
      some (-1)
def Aa9 (k : Nat) (v0 : (List Int)) (v1 : Int) : Option Int :=
  Aa9.L1 k v0 v1 k 0
def Abm (k : Nat) (v0 : (List Int)) (v1 : Int) : Option Bool :=
  Abl (Aa9 k v0 v1) fun v3 =>
  some (decide (0≤v3))
def Acd (k : Nat) (v0 : Int) (v1 : (List (Int×Bool))) (v2 : (List (Int×(List Int)))) (v3 : Int) : Option Bool :=
  Aik (Afa v1 v0) (fun v5 =>
    if v5=true then
      Aik (Afa v2 v0) (fun v6 =>
        Abl (Abm k v6 v3) fun v7 =>
        some v7
      ) <|
      Abl (Abm k ([] : List Int) v3) fun v8 =>
      some v8
    else
      some false
  ) <|
  some false
def Aao.L1 (k : Nat) (v0 : (List Int)) (v1 : (List (Int×Bool))) (v2 : (List (Int×(List Int)))) (v3 : Int) : Nat→Int→Option Int
  | 0,_=>none
  | n+1,v5 =>
    if v5<(v0.length : Int) then
      idx v0 v5 fun v6 =>
      Abl (Acd k v6 v1 v2 v3) fun v7 =>
      if v7=true then
        some v5
      else
        Aao.L1 k v0 v1 v2 v3 n (IntKind.wrap .i64 (v5+1))
    else
      some (-1)
def Aao (k : Nat) (v0 : (List Int)) (v1 : (List (Int×Bool))) (v2 : (List (Int×(List Int)))) (v3 : Int) : Option Int :=
  Aao.L1 k v0 v1 v2 v3 k 0
def AaD.J3 (k : Nat) (v17 : Int) (kb2 : Nat→Int→(List (Int×Int))→(List (Int×(List Int)))→(List Int)→Option (List Int)) (v21 : (List (Int×Int))) (v22 : (List (Int×(List Int)))) (v23 : (List Int)) (v24 : Nat) : Option (List Int) :=
  kb2 v24 (IntKind.wrap .i64 (v17+1)) v21 v22 v23
def AaD.J6 (k : Nat) (v14 : Int) (v17 : Int) (v19 : (List (Int×(List Int)))) (v25 : Int) (v28 : (List (Int×Int))) (v29 : (List Int)) (v30 : Nat) (kb2 : Nat→Int→(List (Int×Int))→(List (Int×(List Int)))→(List Int)→Option (List Int)) (v32 : Bool) : Option (List Int) :=
  if v32=true then
    chk (v19.length<1000) <|
    Aik (Afa v19 v25) (fun v33 =>
      chk ((v33.length+([v14] : List Int).length)*8≤140737488355328) <|
      AaD.J3 k v17 kb2 v28 (AbF v19 v25 (v33++([v14] : List Int))) v29 v30
    ) <|
    chk (([v14] : List Int).length*8≤140737488355328) <|
    AaD.J3 k v17 kb2 v28 (AbF v19 v25 ([v14] : List Int)) v29 v30
  else
    AaD.J3 k v17 kb2 v28 v19 v29 v30
def AaD.J5 (k : Nat) (v14 : Int) (v17 : Int) (v19 : (List (Int×(List Int)))) (v25 : Int) (kb2 : Nat→Int→(List (Int×Int))→(List (Int×(List Int)))→(List Int)→Option (List Int)) (v28 : (List (Int×Int))) (v29 : (List Int)) (v30 : Nat) (v31 : Int) : Option (List Int) :=
  Aik (Afa v28 v14) (fun v34 =>
    AaD.J6 k v14 v17 v19 v25 v28 v29 v30 kb2 (v31==(IntKind.wrap .i64 (v34+1)))
  ) <|
  AaD.J6 k v14 v17 v19 v25 v28 v29 v30 kb2 (v31==(IntKind.wrap .i64 (0+1)))
def AaD.J7 (k : Nat) (v14 : Int) (v16 : Nat) (v17 : Int) (v19 : (List (Int×(List Int)))) (v20 : (List Int)) (v25 : Int) (kb2 : Nat→Int→(List (Int×Int))→(List (Int×(List Int)))→(List Int)→Option (List Int)) (v35 : (List (Int×Int))) (v36 : Int) : Option (List Int) :=
  chk (((v20.drop v16).length+([v25] : List Int).length)*8≤140737488355328∧v16≤v20.length) <|
  AaD.J5 k v14 v17 v19 v25 kb2 v35 ((v20.drop v16)++([v25] : List Int)) 0 v36
def AaD.J4 (k : Nat) (v14 : Int) (v16 : Nat) (v17 : Int) (v18 : (List (Int×Int))) (v19 : (List (Int×(List Int)))) (v20 : (List Int)) (v25 : Int) (kb2 : Nat→Int→(List (Int×Int))→(List (Int×(List Int)))→(List Int)→Option (List Int)) (v26 : Int) (v27 : Bool) : Option (List Int) :=
  if (!v27)=true then
    Aik (Afa v18 v14) (fun v37 =>
      AaD.J7 k v14 v16 v17 v19 v20 v25 kb2 (AbF v18 v25 (IntKind.wrap .i64 (v37+1))) (IntKind.wrap .i64 (v37+1))
    ) <|
    AaD.J7 k v14 v16 v17 v19 v20 v25 kb2 (AbF v18 v25 (IntKind.wrap .i64 (0+1))) (IntKind.wrap .i64 (0+1))
  else
    AaD.J5 k v14 v17 v19 v25 kb2 v18 v20 v16 v26
def AaD.L2 (k : Nat) (v14 : Int) (v15 : (List Int)) (kb1 : Nat→(List (Int×Int))→(List (Int×(List Int)))→(List Int)→Option (List Int)) : Nat→Nat→Int→(List (Int×Int))→(List (Int×(List Int)))→(List Int)→Option (List Int)
  | 0,_,_,_,_,_=>none
  | n+1,v16,v17,v18,v19,v20 =>
    if v17<(v15.length : Int) then
      idx v15 v17 fun v25 =>
      Aik (Afa v18 v25) (fun v38 =>
        AaD.J4 k v14 v16 v17 v18 v19 v20 v25 (fun v16_ v17_ v18_ v19_ v20_=>AaD.L2 k v14 v15 kb1 n v16_ v17_ v18_ v19_ v20_) v38 true
      ) <|
      AaD.J4 k v14 v16 v17 v18 v19 v20 v25 (fun v16_ v17_ v18_ v19_ v20_=>AaD.L2 k v14 v15 kb1 n v16_ v17_ v18_ v19_ v20_) 0 false
    else
      chk (0<v20.length∧(1 : Int)≤(((v20.length-v16) : Nat) : Int)) <|
      kb1 (v16+(1 : Int).toNat) v18 v19 v20
def AaD.J12 (k : Nat) (v47 : Int) (kb11 : Nat→Int→(List (Int×Bool))→(List Int)→Option (List Int)) (v50 : (List (Int×Bool))) (v51 : (List Int)) (v52 : Nat) : Option (List Int) :=
  kb11 v52 (IntKind.wrap .i64 (v47+1)) v50 v51
def AaD.L11 (k : Nat) (v44 : (List Int)) (v45 : Int) (kb9 : Nat→(List (Int×Bool))→(List Int)→Option (List Int)) : Nat→Nat→Int→(List (Int×Bool))→(List Int)→Option (List Int)
  | 0,_,_,_,_=>none
  | n+1,v46,v47,v48,v49 =>
    if v47<v45 then
      idx v44 v47 fun v53 =>
      Aik (Afa v48 v53) (fun v54 =>
        if (!v54)=true then
          chk (((v49.drop v46).length+([v53] : List Int).length)*8≤140737488355328∧v46≤v49.length) <|
          AaD.J12 k v47 (fun v46_ v47_ v48_ v49_=>AaD.L11 k v44 v45 kb9 n v46_ v47_ v48_ v49_) (AbF v48 v53 true) ((v49.drop v46)++([v53] : List Int)) 0
        else
          AaD.J12 k v47 (fun v46_ v47_ v48_ v49_=>AaD.L11 k v44 v45 kb9 n v46_ v47_ v48_ v49_) v48 v49 v46
      ) <|
      chk (((v49.drop v46).length+([v53] : List Int).length)*8≤140737488355328∧v46≤v49.length) <|
      AaD.J12 k v47 (fun v46_ v47_ v48_ v49_=>AaD.L11 k v44 v45 kb9 n v46_ v47_ v48_ v49_) (AbF v48 v53 true) ((v49.drop v46)++([v53] : List Int)) 0
    else
      chk (0<v49.length∧(1 : Int)≤(((v49.length-v46) : Nat) : Int)) <|
      kb9 (v46+(1 : Int).toNat) v48 v49
def AaD.J10 (k : Nat) (v41 : Nat) (v42 : (List (Int×Bool))) (v43 : (List Int)) (kb9 : Nat→(List (Int×Bool))→(List Int)→Option (List Int)) (v44 : (List Int)) (v45 : Int) : Option (List Int) :=
  AaD.L11 k v44 v45 kb9 k v41 0 v42 v43
def AaD.L13 (k : Nat) (v0 : Int) (v1 : (List AaB)) (v2 : (List Int)) (v3 : Int) (v4 : Int) (v5 : Int) (v6 : (List (Int×Bool))) (v7 : Bool) (v12 : (List (Int×(List Int)))) (v42 : (List (Int×Bool))) : Nat→(List Int)→Int→Option (List Int)
  | 0,_,_=>none
  | n+1,v57,v58 =>
    if v58≠v5 then
      Abl (AcJ k v0 v1 v2 v3 v4 v5 v6 v7 v58) fun v59 =>
      Abl (Aao k v59 v42 v12 v58) fun v60 =>
      idx v59 v60 fun v61 =>
      chk ((v57.length+([v61] : List Int).length)*8≤140737488355328) <|
      AaD.L13 k v0 v1 v2 v3 v4 v5 v6 v7 v12 v42 n (v57++([v61] : List Int)) v61
    else
      chk (¬ v57 = []) <|
      some v57
def AaD.L9 (k : Nat) (v0 : Int) (v1 : (List AaB)) (v2 : (List Int)) (v3 : Int) (v4 : Int) (v5 : Int) (v6 : (List (Int×Bool))) (v7 : Bool) (v12 : (List (Int×(List Int)))) : Nat→Nat→(List (Int×Bool))→(List Int)→Option (List Int)
  | 0,_,_,_=>none
  | n+1,v41,v42,v43 =>
    if 0<(((v43.length-v41) : Nat) : Int) then
      chk ((0 : Int)≤0∧(0 : Int).toNat<(v43.length-v41)∧v41+(0 : Int).toNat<v43.length) <|
      idx v43 ((v41+(0 : Int).toNat : Nat) : Int) fun v55 =>
      Aik (Afa v12 v55) (fun v56 =>
        AaD.J10 k v41 v42 v43 (fun v41_ v42_ v43_=>AaD.L9 k v0 v1 v2 v3 v4 v5 v6 v7 v12 n v41_ v42_ v43_) v56 (v56.length : Int)
      ) <|
      AaD.J10 k v41 v42 v43 (fun v41_ v42_ v43_=>AaD.L9 k v0 v1 v2 v3 v4 v5 v6 v7 v12 n v41_ v42_ v43_) ([] : List Int) (([] : List Int).length : Int)
    else
      AaD.L13 k v0 v1 v2 v3 v4 v5 v6 v7 v12 v42 k ([v4] : List Int) v4
def AaD.J8 (k : Nat) (v0 : Int) (v1 : (List AaB)) (v2 : (List Int)) (v3 : Int) (v4 : Int) (v5 : Int) (v6 : (List (Int×Bool))) (v7 : Bool) (v8 : Int) (v12 : (List (Int×(List Int)))) (v39 : Int) (v40 : Bool) : Option (List Int) :=
  if (!v40)=true then
    some ([] : List Int)
  else
    if v8<v39 then
      some ([] : List Int)
    else
      AaD.L9 k v0 v1 v2 v3 v4 v5 v6 v7 v12 k 0 (AbF ([] : (List (Int×Bool))) v5 true) ([v5] : List Int)
def AaD.L1 (k : Nat) (v0 : Int) (v1 : (List AaB)) (v2 : (List Int)) (v3 : Int) (v4 : Int) (v5 : Int) (v6 : (List (Int×Bool))) (v7 : Bool) (v8 : Int) : Nat→Nat→(List (Int×Int))→(List (Int×(List Int)))→(List Int)→Option (List Int)
  | 0,_,_,_,_=>none
  | n+1,v10,v11,v12,v13 =>
    if 0<(((v13.length-v10) : Nat) : Int) then
      chk ((0 : Int)≤0∧(0 : Int).toNat<(v13.length-v10)∧v10+(0 : Int).toNat<v13.length) <|
      idx v13 ((v10+(0 : Int).toNat : Nat) : Int) fun v14 =>
      Abl (AcJ k v0 v1 v2 v3 v4 v5 v6 v7 v14) fun v15 =>
      AaD.L2 k v14 v15 (fun v10_ v11_ v12_ v13_=>AaD.L1 k v0 v1 v2 v3 v4 v5 v6 v7 v8 n v10_ v11_ v12_ v13_) k v10 0 v11 v12 v13
    else
      chk (v12.length≤1000) <|
      Aik (Afa v11 v5) (fun v62 =>
        AaD.J8 k v0 v1 v2 v3 v4 v5 v6 v7 v8 v12 v62 true
      ) <|
      AaD.J8 k v0 v1 v2 v3 v4 v5 v6 v7 v8 v12 0 false
def AaD (k : Nat) (v0 : Int) (v1 : (List AaB)) (v2 : (List Int)) (v3 : Int) (v4 : Int) (v5 : Int) (v6 : (List (Int×Bool))) (v7 : Bool) (v8 : Int) : Option (List Int) :=
  AaD.L1 k v0 v1 v2 v3 v4 v5 v6 v7 v8 k 0 (AbF ([] : (List (Int×Int))) v4 0) ([] : List (Int×List Int)) ([v4] : List Int)
def Aa5.J2 (k : Nat) (v0 : Int) (v1 : (List AaB)) (v2 : (List Int)) (v3 : Int) (v4 : Int) (v5 : Int) (v6 : Int) (v10 : (List Int)) (v13 : (List (List Int))) (kb1 : (List Int)→Bool→(List (Int×Bool))→(List (List Int))→Option (List (List Int))) (v14 : (List (Int×Bool))) (v15 : Bool) : Option (List (List Int)) :=
  Abl (AaD k v0 v1 v2 v3 v4 v5 v14 v15 v6) fun v16 =>
  kb1 v16 v15 v14 (v13++([v10] : List (List Int)))
def Aa5.L3 (k : Nat) (v0 : Int) (v1 : (List AaB)) (v2 : (List Int)) (v3 : Int) (v4 : Int) (v5 : Int) (v6 : Int) (v10 : (List Int)) (v11 : Bool) (v13 : (List (List Int))) (kb1 : (List Int)→Bool→(List (Int×Bool))→(List (List Int))→Option (List (List Int))) : Nat→Int→(List (Int×Bool))→Option (List (List Int))
  | 0,_,_=>none
  | n+1,v17,v18 =>
    if v17<(((v10.take (IntKind.wrap .i64 ((v10.length : Int)-1)).toNat).drop (1 : Int).toNat).length : Int) then
      idx ((v10.take (IntKind.wrap .i64 ((v10.length : Int)-1)).toNat).drop (1 : Int).toNat) v17 fun v19 =>
      Aa5.L3 k v0 v1 v2 v3 v4 v5 v6 v10 v11 v13 kb1 n (IntKind.wrap .i64 (v17+1)) (AbF v18 v19 true)
    else
      if v11=true then
        Aa5.J2 k v0 v1 v2 v3 v4 v5 v6 v10 v13 kb1 v18 true
      else
        Aa5.J2 k v0 v1 v2 v3 v4 v5 v6 v10 v13 kb1 v18 ((v10.length : Int)==2)
def Aa5.L1 (k : Nat) (v0 : Int) (v1 : (List AaB)) (v2 : (List Int)) (v3 : Int) (v4 : Int) (v5 : Int) (v6 : Int) : Nat→(List Int)→Bool→(List (Int×Bool))→(List (List Int))→Option (List (List Int))
  | 0,_,_,_,_=>none
  | n+1,v10,v11,v12,v13 =>
    if (!List.isEmpty v10)=true then
      chk ((v13.length+([v10] : List (List Int)).length)*24≤140737488355328) <|
      chk ((1 : Int)≤IntKind.wrap .i64 ((v10.length : Int)-1)∧(IntKind.wrap .i64 ((v10.length : Int)-1) : Int)≤(v10.length : Int)) <|
      Aa5.L3 k v0 v1 v2 v3 v4 v5 v6 v10 v11 v13 (fun v10_ v11_ v12_ v13_=>Aa5.L1 k v0 v1 v2 v3 v4 v5 v6 n v10_ v11_ v12_ v13_) k 0 v12
    else
      some v13
def Aa5 (k : Nat) (v0 : Int) (v1 : (List AaB)) (v2 : (List Int)) (v3 : Int) (v4 : Int) (v5 : Int) (v6 : Int) : Option (List (List Int)) :=
  Abl (AcN k v0 v1 v2 v3 v4 v5) fun v8 =>
  if (!v8)=true then
    some ([] : List (List Int))
  else
    Abl (AaD k v0 v1 v2 v3 v4 v5 ([] : (List (Int×Bool))) false v6) fun v9 =>
    Aa5.L1 k v0 v1 v2 v3 v4 v5 v6 k v9 false ([] : (List (Int×Bool))) ([] : List (List Int))
def Ab2 (k : Nat) (v0 : Int) (v1 : (List AaB)) (v2 : (List Int)) (v3 : Int) (v4 : Int) (v5 : Int) : Option Int :=
  Abl (AcN k v0 v1 v2 v3 v4 v5) fun v7 =>
  if (!v7)=true then
    some 0
  else
    AgX (AaL k v0 v1 v2 v3 v4 v5) fun v8 v9 =>
    AgX (Aes k v8 v9) fun v10 v11 =>
    Abl (Ac2 k v8 v9 v10) fun v12 =>
    some v12
def Aea (k : Nat) (v0 : Int) (v1 : Int) (v2 : Int) (v3 : Int) (v4 : Int) (v5 : Int) : Option Bool :=
  if v0=v3 then
    if v1=v4 then
      some (decide (v5≤v2))
    else
      some false
  else
    some false
def Aab.L1 (k : Nat) (v0 : (List AaB)) (v1 : Int) (v2 : Int) (v3 : Int) : Nat→Int→Option Int
  | 0,_=>none
  | n+1,v5 =>
    if v5<(v0.length : Int) then
      idx v0 v5 fun v6 =>
      Abl (Aea k v6.From v6.To v6.Level v1 v2 v3) fun v7 =>
      if v7=true then
        some v5
      else
        Aab.L1 k v0 v1 v2 v3 n (IntKind.wrap .i64 (v5+1))
    else
      some (-1)
def Aab (k : Nat) (v0 : (List AaB)) (v1 : Int) (v2 : Int) (v3 : Int) : Option Int :=
  Aab.L1 k v0 v1 v2 v3 k 0
def AbB (k : Nat) (v0 : (List AaB)) (v1 : Int) (v2 : Int) (v3 : Int) : Option Bool :=
  Abl (Aab k v0 v1 v2 v3) fun v5 =>
  some (decide (0≤v5))
def Af3 (k : Nat) (v0 : Int) (v1 : (List AaB)) (v2 : (List Int)) (v3 : Int) (v4 : Int) (v5 : Int) : Option Bool :=
  Abl (AbB k v1 v4 v5 v3) fun v7 =>
  some v7
def AaX.J6 (k : Nat) (v13 : (List Int)) (v15 : Int) (v16 : (List (Int×Bool))) (kb5 : Int→(List (Int×Bool))→Option Bool) : Option Bool :=
  idx v13 v15 fun v17 =>
  kb5 (IntKind.wrap .i64 (v15+1)) (AbF v16 v17 true)
def AaX.L5 (k : Nat) (v0 : Int) (v1 : (List AaB)) (v2 : (List Int)) (v3 : Int) (v11 : Int) (v13 : (List Int)) (v14 : Bool) (kb2 : Bool→Int→(List (Int×Bool))→Option Bool) : Nat→Int→(List (Int×Bool))→Option Bool
  | 0,_,_=>none
  | n+1,v15,v16 =>
    if v15<(v13.length : Int) then
      idx v13 (IntKind.wrap .i64 (v15-1)) fun v18 =>
      idx v13 v15 fun v19 =>
      Abl (Af3 k v0 v1 v2 v3 v18 v19) fun v20 =>
      if (!v20)=true then
        some false
      else
        if v15<IntKind.wrap .i64 ((v13.length : Int)-1) then
          Aik (Afa v16 v19) (fun v21 =>
            if v21=true then
              some false
            else
              AaX.J6 k v13 v15 v16 (fun v15_ v16_=>AaX.L5 k v0 v1 v2 v3 v11 v13 v14 kb2 n v15_ v16_)
          ) <|
          AaX.J6 k v13 v15 v16 (fun v15_ v16_=>AaX.L5 k v0 v1 v2 v3 v11 v13 v14 kb2 n v15_ v16_)
        else
          AaX.J6 k v13 v15 v16 (fun v15_ v16_=>AaX.L5 k v0 v1 v2 v3 v11 v13 v14 kb2 n v15_ v16_)
    else
      kb2 v14 (IntKind.wrap .i64 (v11+1)) v16
def AaX.J4 (k : Nat) (v0 : Int) (v1 : (List AaB)) (v2 : (List Int)) (v3 : Int) (v11 : Int) (v12 : (List (Int×Bool))) (v13 : (List Int)) (kb2 : Bool→Int→(List (Int×Bool))→Option Bool) (v14 : Bool) : Option Bool :=
  AaX.L5 k v0 v1 v2 v3 v11 v13 v14 kb2 k 1 v12
def AaX.J3 (k : Nat) (v0 : Int) (v1 : (List AaB)) (v2 : (List Int)) (v3 : Int) (v10 : Bool) (v11 : Int) (v12 : (List (Int×Bool))) (v13 : (List Int)) (kb2 : Bool→Int→(List (Int×Bool))→Option Bool) : Option Bool :=
  if v10=true then
    AaX.J4 k v0 v1 v2 v3 v11 v12 v13 kb2 true
  else
    AaX.J4 k v0 v1 v2 v3 v11 v12 v13 kb2 ((v13.length : Int)==2)
def AaX.L2 (k : Nat) (v0 : Int) (v1 : (List AaB)) (v2 : (List Int)) (v3 : Int) (v4 : Int) (v5 : Int) (v6 : (List (List Int))) : Nat→Bool→Int→(List (Int×Bool))→Option Bool
  | 0,_,_,_=>none
  | n+1,v10,v11,v12 =>
    if v11<(v6.length : Int) then
      idx v6 v11 fun v13 =>
      if (v13.length : Int)<2 then
        some false
      else
        idx v13 0 fun v22 =>
        if v22≠v4 then
          some false
        else
          idx v13 (IntKind.wrap .i64 ((v13.length : Int)-1)) fun v23 =>
          if v23≠v5 then
            some false
          else
            if (v13.length : Int)=2 then
              if v10=true then
                some false
              else
                AaX.J3 k v0 v1 v2 v3 v10 v11 v12 v13 (fun v10_ v11_ v12_=>AaX.L2 k v0 v1 v2 v3 v4 v5 v6 n v10_ v11_ v12_)
            else
              AaX.J3 k v0 v1 v2 v3 v10 v11 v12 v13 (fun v10_ v11_ v12_=>AaX.L2 k v0 v1 v2 v3 v4 v5 v6 n v10_ v11_ v12_)
    else
      some true
def AaX.J1 (k : Nat) (v0 : Int) (v1 : (List AaB)) (v2 : (List Int)) (v3 : Int) (v4 : Int) (v5 : Int) (v6 : (List (List Int))) (v9 : (List (Int×Bool))) : Option Bool :=
  AaX.L2 k v0 v1 v2 v3 v4 v5 v6 k false 0 v9
def AaX (k : Nat) (v0 : Int) (v1 : (List AaB)) (v2 : (List Int)) (v3 : Int) (v4 : Int) (v5 : Int) (v6 : (List (List Int))) : Option Bool :=
  Abl (AcN k v0 v1 v2 v3 v4 v5) fun v8 =>
  if (!v8)=true then
    some ((v6.length : Int)==0)
  else
    Aq7 (AaX.J1 k v0 v1 v2 v3 v4 v5 v6 (AbF (AbF ([] : (List (Int×Bool))) v4 true) v5 true)) (AaX.J1 k v0 v1 v2 v3 v4 v5 v6 (AbF (AbF ([] : (List (Int×Bool))) v5 true) v4 true))
def AdX (k : Nat) : Option Bool :=
  Abl (Aax k 4 ([(AaB.mk 0 1 1),(AaB.mk 0 2 2),(AaB.mk 1 3 1),(AaB.mk 2 3 2)] : List AaB) ([] : List Int) 1 0 3) fun v1 =>
  Abl (Aa5 k 4 ([(AaB.mk 0 1 1),(AaB.mk 0 2 2),(AaB.mk 1 3 1),(AaB.mk 2 3 2)] : List AaB) ([] : List Int) 1 0 3 2) fun v2 =>
  Abl (Ab2 k 4 ([(AaB.mk 0 1 1),(AaB.mk 0 2 2),(AaB.mk 1 3 1),(AaB.mk 2 3 2)] : List AaB) ([] : List Int) 1 0 3) fun v3 =>
  if v3=2 then
    Abl (Ab2 k 4 ([(AaB.mk 0 1 1),(AaB.mk 0 2 2),(AaB.mk 1 3 1),(AaB.mk 2 3 2)] : List AaB) ([] : List Int) 2 0 3) fun v4 =>
    if v4=1 then
      if (v1.length : Int)=2 then
        Abl (AaX k 4 ([(AaB.mk 0 1 1),(AaB.mk 0 2 2),(AaB.mk 1 3 1),(AaB.mk 2 3 2)] : List AaB) ([] : List Int) 1 0 3 v1) fun v5 =>
        if v5=true then
          if (v2.length : Int)=2 then
            idx v2 0 fun v6 =>
            if (v6.length : Int)=3 then
              idx v6 1 fun v7 =>
              if v7=1 then
                Abl (AaX k 4 ([(AaB.mk 0 1 1),(AaB.mk 0 2 2),(AaB.mk 1 3 1),(AaB.mk 2 3 2)] : List AaB) ([] : List Int) 2 0 3 v1) fun v8 =>
                some (!v8)
              else
                some false
            else
              some false
          else
            some false
        else
          some false
      else
        some false
    else
      some false
  else
    some false
def Afb (k : Nat) (v0 : (List Int)) : Option ((List Int)×Int) :=
  some (v0,0)
def Acs.J1 (k : Nat) (v3 : Int) : Option Int :=
  some v3
def Acs (k : Nat) (v0 : Int) (v1 : Int) : Option Int :=
  if v1<1 then
    some 0
  else
    chk (v1≠(0 : Int)) <|
    if Int.tmod v0 v1<0 then
      Acs.J1 k (IntKind.wrap .i64 (Int.tmod v0 v1+v1))
    else
      Acs.J1 k (Int.tmod v0 v1)
def Aa8 (k : Nat) (v0 : (List Int)) (v1 : Int) (v2 : Int) : Option (Int×Int) :=
  if (v0.length : Int)≤v1 then
    some (0,v1)
  else
    idx v0 (IntKind.wrap .i64 (IntKind.wrap .i64 (v1+1)-1)) fun v5 =>
    Abl (Acs k v5 v2) fun v6 =>
    some (v6,IntKind.wrap .i64 (v1+1))
def AdK (k : Nat) (v0 : (List Int)) (v1 : Int) (v2 : Int) : Option (Bool×Int) :=
  AgX (Aa8 k v0 v1 v2) fun v5 v6 =>
  some ((v5==(IntKind.wrap .i64 (v2-1))),v6)
def AbR.J2 (k : Nat) (v3 : Int) (kb1 : Int→Option Bool) : Option Bool :=
  kb1 (IntKind.wrap .i64 (v3+1))
def AbR.L1 (k : Nat) (v0 : (List Int)) (v1 : Int) : Nat→Int→Option Bool
  | 0,_=>none
  | n+1,v3 =>
    if v3<(v0.length : Int) then
      idx v0 v3 fun v4 =>
      if v4<0 then
        some false
      else
        if v1≤v4 then
          some false
        else
          if 0<v3 then
            idx v0 (IntKind.wrap .i64 (v3-1)) fun v5 =>
            if v4≤v5 then
              some false
            else
              AbR.J2 k v3 (fun v3_=>AbR.L1 k v0 v1 n v3_)
          else
            AbR.J2 k v3 (fun v3_=>AbR.L1 k v0 v1 n v3_)
    else
      some true
def AbR (k : Nat) (v0 : (List Int)) (v1 : Int) : Option Bool :=
  AbR.L1 k v0 v1 k 0
def Aba.L1 (k : Nat) (v0 : (List Int)) (v1 : Int) : Nat→Int→Option Bool
  | 0,_=>none
  | n+1,v3 =>
    if v3<(v0.length : Int) then
      idx v0 v3 fun v4 =>
      if v4=v1 then
        some true
      else
        Aba.L1 k v0 v1 n (IntKind.wrap .i64 (v3+1))
    else
      some false
def Aba (k : Nat) (v0 : (List Int)) (v1 : Int) : Option Bool :=
  Aba.L1 k v0 v1 k 0
def Ach (k : Nat) (v0 : Int) (v1 : Int) (v2 : Int) (v3 : Int) (v4 : Int) (v5 : Int) : Option Bool :=
  if v0<v3 then
    some true
  else
    if v0=v3 then
      some (decide (v1<v4))
    else
      some false
def Aav.J2 (k : Nat) (v5 : Int) (kb1 : Int→Option Int) (v7 : Bool) : Option Int :=
  if v7=true then
    some 14
  else
    kb1 (IntKind.wrap .i64 (v5+1))
def Aav.L1 (k : Nat) (v0 : Int) (v1 : (List AaB)) (v2 : (List Int)) : Nat→Int→Option Int
  | 0,_=>none
  | n+1,v5 =>
    if v5<(v1.length : Int) then
      idx v1 v5 fun v6 =>
      if v6.From<0 then
        some 14
      else
        if v0≤v6.From then
          some 14
        else
          if v6.To<0 then
            some 14
          else
            if v0≤v6.To then
              some 14
            else
              if v6.From=v6.To then
                some 14
              else
                if v6.Level<1 then
                  some 14
                else
                  if 3<v6.Level then
                    some 14
                  else
                    if 0<v5 then
                      idx v1 (IntKind.wrap .i64 (v5-1)) fun v8 =>
                      Abl (Ach k v8.From v8.To v8.Level v6.From v6.To v6.Level) fun v9 =>
                      if (!v9)=true then
                        Aav.J2 k v5 (fun v5_=>Aav.L1 k v0 v1 v2 n v5_) true
                      else
                        Abl (Aba k v2 v6.From) fun v10 =>
                        if v10=true then
                          Aav.J2 k v5 (fun v5_=>Aav.L1 k v0 v1 v2 n v5_) true
                        else
                          Abl (Aba k v2 v6.To) fun v11 =>
                          Aav.J2 k v5 (fun v5_=>Aav.L1 k v0 v1 v2 n v5_) v11
                    else
                      Abl (Aba k v2 v6.From) fun v12 =>
                      if v12=true then
                        Aav.J2 k v5 (fun v5_=>Aav.L1 k v0 v1 v2 n v5_) true
                      else
                        Abl (Aba k v2 v6.To) fun v13 =>
                        Aav.J2 k v5 (fun v5_=>Aav.L1 k v0 v1 v2 n v5_) v13
    else
      some 0
def Aav (k : Nat) (v0 : Int) (v1 : (List AaB)) (v2 : (List Int)) : Option Int :=
  if v0<0 then
    some 14
  else
    if 64<v0 then
      some 14
    else
      if 500<(v1.length : Int) then
        some 14
      else
        Abl (AbR k v2 v0) fun v4 =>
        if (!v4)=true then
          some 14
        else
          Aav.L1 k v0 v1 v2 k 0
def Aa7.J1 (k : Nat) (v1 : (List AaB)) (v3 : Int) (v4 : Int) (v7 : Int) : Option (Int×Bool) :=
  if v7<(v1.length : Int) then
    idx v1 v7 fun v8 =>
    if v8.From=v3 then
      some (v7,(v8.To==v4))
    else
      some (v7,false)
  else
    some (v7,false)
def Aa7.L2 (k : Nat) (v1 : (List AaB)) (v3 : Int) (v4 : Int) : Nat→Int→Option (Int×Bool)
  | 0,_=>none
  | n+1,v9 =>
    if v9<(v1.length : Int) then
      idx v1 v9 fun v10 =>
      Abl (Ach k v10.From v10.To v10.Level v3 v4 0) fun v11 =>
      if v11=true then
        Aa7.L2 k v1 v3 v4 n (IntKind.wrap .i64 (v9+1))
      else
        Aa7.J1 k v1 v3 v4 v9
    else
      Aa7.J1 k v1 v3 v4 v9
def Aa7 (k : Nat) (v0 : Int) (v1 : (List AaB)) (v2 : (List Int)) (v3 : Int) (v4 : Int) : Option (Int×Bool) :=
  Aa7.L2 k v1 v3 v4 k 0
def Aen (k : Nat) (v0 : Int) (v1 : (List AaB)) (v2 : (List Int)) : Option (Int×(List AaB)×(List Int)) :=
  chk (v1.length*24≤140737488355328) <|
  chk (v2.length*8≤140737488355328) <|
  some (v0,v1,v2)
def AdR (k : Nat) (v0 : Int) (v1 : (List AaB)) (v2 : (List Int)) (v3 : Int) (v4 : Int) (v5 : Int) : Option (Int×(List AaB)×(List Int)×Int) :=
  Abl (Aav k v0 v1 v2) fun v10 =>
  if v10≠0 then
    some (0,([] : List AaB),([] : List Int),14)
  else
    AgX (Aa7 k v0 v1 v2 v3 v4) fun v11 v12 =>
    if v3<0 then
      some (0,([] : List AaB),([] : List Int),4)
    else
      if v0≤v3 then
        some (0,([] : List AaB),([] : List Int),4)
      else
        if v4<0 then
          some (0,([] : List AaB),([] : List Int),4)
        else
          if v0≤v4 then
            some (0,([] : List AaB),([] : List Int),4)
          else
            if v3=v4 then
              some (0,([] : List AaB),([] : List Int),4)
            else
              Abl (Aba k v2 v3) fun v13 =>
              if v13=true then
                some (0,([] : List AaB),([] : List Int),4)
              else
                Abl (Aba k v2 v4) fun v14 =>
                if v14=true then
                  some (0,([] : List AaB),([] : List Int),4)
                else
                  if v5<1 then
                    some (0,([] : List AaB),([] : List Int),2)
                  else
                    if 3<v5 then
                      some (0,([] : List AaB),([] : List Int),2)
                    else
                      if v12=true then
                        some (0,([] : List AaB),([] : List Int),19)
                      else
                        if (v1.length : Int)=500 then
                          some (0,([] : List AaB),([] : List Int),3)
                        else
                          Apf (Aen k v0 v1 v2) fun v15 v16 v17 =>
                          chk ((0 : Int)≤v11∧(v11 : Int)≤(v1.length : Int)) <|
                          chk ((v1.take (v11).toNat).length*24≤140737488355328) <|
                          chk (((v1.take (v11).toNat).length+([(AaB.mk v3 v4 v5)] : List AaB).length)*24≤140737488355328) <|
                          chk ((0 : Int)≤v11∧(v11 : Int)≤(v1.length : Int)) <|
                          chk ((((v1.take (v11).toNat)++([(AaB.mk v3 v4 v5)] : List AaB)).length+(v1.drop (v11).toNat).length)*24≤140737488355328) <|
                          some (v15,((v1.take (v11).toNat)++([(AaB.mk v3 v4 v5)] : List AaB))++(v1.drop (v11).toNat),v17,0)
def AaT.J4 (k : Nat) (v13 : Int) (kb3 : Int→Int→Int→(List AaB)→(List Int)→Option (Int×(List AaB)×(List Int)×Int)) (v18 : Int) (v19 : Int) (v20 : (List AaB)) (v21 : (List Int)) : Option (Int×(List AaB)×(List Int)×Int) :=
  kb3 (IntKind.wrap .i64 (v13-1)) v18 v19 v20 v21
def AaT.L3 (k : Nat) (v0 : (List Int)) : Nat→Int→Int→Int→(List AaB)→(List Int)→Option (Int×(List AaB)×(List Int)×Int)
  | 0,_,_,_,_,_=>none
  | n+1,v13,v14,v15,v16,v17 =>
    if 0<v13 then
      AgX (Aa8 k v0 v14 v15) fun v22 v23 =>
      AgX (Aa8 k v0 v23 v15) fun v24 v25 =>
      AgX (Aa8 k v0 v25 3) fun v26 v27 =>
      Ape (AdR k v15 v16 v17 v22 v24 (IntKind.wrap .i64 (1+v26))) fun v28 v29 v30 v31 =>
      if v31=0 then
        AaT.J4 k v13 (fun v13_ v14_ v15_ v16_ v17_=>AaT.L3 k v0 n v13_ v14_ v15_ v16_ v17_) v27 v28 v29 v30
      else
        AaT.J4 k v13 (fun v13_ v14_ v15_ v16_ v17_=>AaT.L3 k v0 n v13_ v14_ v15_ v16_ v17_) v27 v15 v16 v17
    else
      some (v15,v16,v17,v14)
def AaT.J2 (k : Nat) (v0 : (List Int)) (v8 : Int) (v9 : Int) (v10 : (List Int)) : Option (Int×(List AaB)×(List Int)×Int) :=
  AgX (Aa8 k v0 v9 23) fun v11 v12 =>
  AaT.L3 k v0 k v11 v12 v8 ([] : List AaB) v10
def AaT.J1 (k : Nat) (v0 : (List Int)) (v7 : Int) (v8 : Int) : Option (Int×(List AaB)×(List Int)×Int) :=
  AgX (AdK k v0 v7 8) fun v32 v33 =>
  if v32=true then
    AgX (Aa8 k v0 v33 v8) fun v34 v35 =>
    AaT.J2 k v0 v8 v35 ([v34] : List Int)
  else
    AaT.J2 k v0 v8 v33 ([] : List Int)
def AaT (k : Nat) (v0 : (List Int)) (v1 : Int) : Option (Int×(List AaB)×(List Int)×Int) :=
  AgX (Aa8 k v0 v1 8) fun v6 v7 =>
  if (v0.length : Int)=0 then
    AaT.J1 k v0 v7 4
  else
    AaT.J1 k v0 v7 (IntKind.wrap .i64 (2+v6))
def AbJ.J1 (k : Nat) (v6 : Int) (v7 : (List AaB)) (v8 : (List Int)) (v10 : Int) (v12 : Int) (v14 : Int) (v15 : (List AaB)) (v16 : (List Int)) : Option Bool :=
  Abl (Ab2 k v6 v7 v8 1 v10 v12) fun v17 =>
  Abl (Ab2 k v14 v15 v16 1 v10 v12) fun v18 =>
  Abl (AdX k) fun v19 =>
  if v19=true then
    if v17≤v18 then
      if v18≤IntKind.wrap .i64 (v17+1) then
        Abl (Ab2 k v6 v7 v8 2 v10 v12) fun v20 =>
        if v20≤v17 then
          Abl (Ab2 k v6 v7 v8 3 v10 v12) fun v21 =>
          Abl (Ab2 k v6 v7 v8 2 v10 v12) fun v22 =>
          if v21≤v22 then
            Abl (AaX k v6 v7 v8 1 v10 v12 ([] : List (List Int))) fun v23 =>
            some v23
          else
            some false
        else
          some false
      else
        some false
    else
      some false
  else
    some false
def AbJ (k : Nat) (v0 : (List Int)) : Option Bool :=
  Abl (Aer k v0) fun v2 =>
  if (!v2)=true then
    Abl (AdX k) fun v3 =>
    some v3
  else
    AgX (Afb k v0) fun v4 v5 =>
    Ape (AaT k v4 v5) fun v6 v7 v8 v9 =>
    AgX (Aa8 k v4 v9 v6) fun v10 v11 =>
    AgX (Aa8 k v4 v11 v6) fun v12 v13 =>
    AgX (Aa8 k v4 v13 v6) fun v24 v25 =>
    AgX (Aa8 k v4 v25 v6) fun v26 v27 =>
    Ape (AdR k v6 v7 v8 v24 v26 1) fun v28 v29 v30 v31 =>
    if v31=0 then
      AbJ.J1 k v6 v7 v8 v10 v12 v28 v29 v30
    else
      AbJ.J1 k v6 v7 v8 v10 v12 v6 v7 v8
theorem GK {P : List (List Nat×List Nat)→Prop} {c : List (List Nat×List Nat)→Bool} {l : List (List Nat×List Nat)} (g : ∀ l,c l=true→P l) (h : c l=true:=by kernel_rfl) : P l:=g l h
abbrev Q0 (l : List AaB) : AV := .lst false false (List.map AaB.av l)
abbrev Q1 (l : List AaC) : AV := .lst false false (List.map AaC.av l)
abbrev Q2 (l : List AaA) : AV := .lst false false (List.map AaA.av l)
abbrev Gi (l : List Int) : Aap := .grow (List.map (AV.int .i64) l)
abbrev Ci (l : List Int) : Aap := .cells (List.map (AV.int .i64) l)
theorem A2 {p0 p1 : Prop} (a0 : p0) (a1 : p1) : p0∧p1:=⟨a0,a1⟩
theorem A3 {p0 p1 p2 : Prop} (a0 : p0) (a1 : p1) (a2 : p2) : p0∧p1∧p2:=⟨a0,a1,a2⟩
theorem A4 {p0 p1 p2 p3 : Prop} (a0 : p0) (a1 : p1) (a2 : p2) (a3 : p3) : p0∧p1∧p2∧p3:=⟨a0,a1,a2,a3⟩
theorem A5 {p0 p1 p2 p3 p4 : Prop} (a0 : p0) (a1 : p1) (a2 : p2) (a3 : p3) (a4 : p4) : p0∧p1∧p2∧p3∧p4:=⟨a0,a1,a2,a3,a4⟩
theorem A6 {p0 p1 p2 p3 p4 p5 : Prop} (a0 : p0) (a1 : p1) (a2 : p2) (a3 : p3) (a4 : p4) (a5 : p5) : p0∧p1∧p2∧p3∧p4∧p5:=⟨a0,a1,a2,a3,a4,a5⟩
theorem A7 {p0 p1 p2 p3 p4 p5 p6 : Prop} (a0 : p0) (a1 : p1) (a2 : p2) (a3 : p3) (a4 : p4) (a5 : p5) (a6 : p6) : p0∧p1∧p2∧p3∧p4∧p5∧p6:=⟨a0,a1,a2,a3,a4,a5,a6⟩
theorem A8 {p0 p1 p2 p3 p4 p5 p6 p7 : Prop} (a0 : p0) (a1 : p1) (a2 : p2) (a3 : p3) (a4 : p4) (a5 : p5) (a6 : p6) (a7 : p7) : p0∧p1∧p2∧p3∧p4∧p5∧p6∧p7:=⟨a0,a1,a2,a3,a4,a5,a6,a7⟩
theorem A9 {p0 p1 p2 p3 p4 p5 p6 p7 p8 : Prop} (a0 : p0) (a1 : p1) (a2 : p2) (a3 : p3) (a4 : p4) (a5 : p5) (a6 : p6) (a7 : p7) (a8 : p8) : p0∧p1∧p2∧p3∧p4∧p5∧p6∧p7∧p8:=⟨a0,a1,a2,a3,a4,a5,a6,a7,a8⟩
end Go.TF
set_option maxRecDepth 100000
namespace Go.Proofs.YtelffnegemdicaaPmT
open Go Go.Abs Go.Proofs
theorem Anr : Try.prog.follows .mixedOrders=true:=by kernel_rfl
section
variable {n : Nat} {c0 : Cx} {w0 : World} {Q : Ace} {s : Nat→AV} {H : Aam} {N : Nat} {T : Act→World→Prop}
theorem SQ {id : Nat} {ops : List Oper} {draw : Bool} {y : Code} (mu : List Nat) (gs : List (Option (Nat×Bool)))
 (h : ∀ (G : Log→Prop) (K : (Nat→AV)→Aam→Nat→Prop),(∀ lg,(!draw||Ado ops lg)=true→G lg)→(∀ s' H' N',AW Try.prog n c0 w0 y Q s' H' N'→K s' H' N')→Ae1 Try.prog mu ops gs s H N [] (fun s' H' N' lg=>G lg∧K s' H' N'))
 (hok : AlE n ops gs=true:=by kernel_rfl) : AW Try.prog n c0 w0 (.seq (.region id ops.toArray draw) y) Q s H N:=AW.seqR Anr mu gs hok h
theorem RG {id : Nat} {ops : List Oper} {draw : Bool} (mu : List Nat) (gs : List (Option (Nat×Bool)))
 (h : ∀ (G : Log→Prop) (K : (Nat→AV)→Aam→Nat→Prop),(∀ lg,(!draw||Ado ops lg)=true→G lg)→(∀ s' H' N',Q .normal s' H' N'→K s' H' N')→Ae1 Try.prog mu ops gs s H N [] (fun s' H' N' lg=>G lg∧K s' H' N'))
 (hok : AlE n ops gs=true:=by kernel_rfl) : AW Try.prog n c0 w0 (.region id ops.toArray draw) Q s H N:=AW.region Anr mu gs hok h
theorem WK {x : Code} (l : List (Nat×AV)) (hl : List (Nat×Aap)) (N' : Nat) (h1 : ∀ p ∈ l,s p.1=p.2) (h2 : ∀ p ∈ hl,H p.1=some p.2) (h : AW Try.prog n c0 w0 x Q (mkS l) (mkH hl) N') (hN : N≤N':=by simp) : AW Try.prog n c0 w0 x Q s H N:=AW.wk l hl N' h1 h2 hN h
theorem RN (h0 : Abx c0 0) (ρ : List (Nat×Nat)) (l : List (Nat×AV)) (o : List (Nat×Aap)) (M : Nat)
 (h1 : ∀ p ∈ l,s p.1=Abs.ren (AcD ρ) p.2∧gd (fun i=>(Abs.Acx ρ i).isSome=true) p.2)
 (h2 : ∀ p ∈ o,H (AcD ρ p.1)=some (AdH (AcD ρ) p.2)∧gdO (fun i=>(Abs.Acx ρ i).isSome=true) p.2)
 (h : Abs.Can n c0 w0 (mkS l) (mkH o) M T) (hρ1 : (ρ.map (·.2)).Nodup:=by decide) (hρ2 : ∀ p ∈ ρ,p.1<M∧(p.1<0→p.1=p.2):=by decide) (hk : o.map (·.1)=ρ.map (·.1):=by rfl) : Abs.Can n c0 w0 s H N T:=Abs.Can.ren h0 ρ l o M hρ1 hρ2 (Nat.zero_le _) hk h1 h2 h
theorem RM {x : Code} (h0 : Abx c0 0) (ρ : List (Nat×Nat)) (l : List (Nat×AV)) (o : List (Nat×Aap)) (M : Nat)
 (h1 : ∀ p ∈ l,s p.1=Abs.ren (AcD ρ) p.2∧gd (fun i=>(Abs.Acx ρ i).isSome=true) p.2)
 (h2 : ∀ p ∈ o,H (AcD ρ p.1)=some (AdH (AcD ρ) p.2)∧gdO (fun i=>(Abs.Acx ρ i).isSome=true) p.2)
 (h : AW Try.prog n c0 w0 x Q (mkS l) (mkH o) M) (hρ1 : (ρ.map (·.2)).Nodup:=by decide) (hρ2 : ∀ p ∈ ρ,p.1<M∧(p.1<0→p.1=p.2):=by decide) (hk : o.map (·.1)=ρ.map (·.1):=by rfl) : AW Try.prog n c0 w0 x Q s H N:=AW.rnm h0 ρ l o M hρ1 hρ2 (Nat.zero_le _) hk h1 h2 h
theorem AC {f : FuncId} {args : List AV} {K : CK} {args0 : List AV} {r : AV} {O' : List (Option Aap)} (hF : AbC Try.prog f args0 [] r O') (hco : Akx H (nm []) args args0 [])
 (hk : K (ren (nm ([]++AfN N (O'.length-([] : List Aap).length))) r) (AjP (nm ([]++AfN N (O'.length-([] : List Aap).length))) H ([]++AfN N (O'.length-([] : List Aap).length)) O') (N+(O'.length-([] : List Aap).length)) ([]++[]) ([]++AfN N (O'.length-([] : List Aap).length)))
 (hcal : AaS Try.prog f=true:=by simp) (hun : Aot [] [] [] O':=by simp) : Aku Try.prog f args H N K :=
 Aa6 hF hcal [] [] [] rfl hco trivial .nil (by simp) (by simp) (.inl rfl) (by simp) hun hk
theorem CT {t : Nat} {x y : Code} (hb : s t = .bool true) (h : AW Try.prog n c0 w0 x Q s H N) (ht : decide (t<n)=true:=by decide) : AW Try.prog n c0 w0 (.cond (.tmp t) x y) Q s H N:=AW.condT ht hb h
theorem CF {t : Nat} {x y : Code} (hb : s t = .bool false) (h : AW Try.prog n c0 w0 y Q s H N) (ht : decide (t<n)=true:=by decide) : AW Try.prog n c0 w0 (.cond (.tmp t) x y) Q s H N:=AW.condF ht hb h
theorem EN {f : FuncId} {fn : Func} {code : Code} {args : List AV} {O : List Aap} {r : AV} {O' : List (Option Aap)} (hf : Try.prog.funcs[f]? = some fn)
 (h : ∀ (c0 : Cx) (w0 : World) (Q : Ace),Abx c0 O.length→(∀ s H N,AfT Try.prog s H fn.results.toList r→(∀ i,i<O'.length→H i=nth O' i)→Q .ret s H N∧Q .normal s H N)→AW Try.prog fn.ntmps c0 w0 code Q (Amz args) (fun i=>O[i]?) O.length)
 (hb : fn.body=some code:=by rfl) (hm : args.length≤fn.ntmps:=by simp) (hin : Agh fn.ntmps fn.results.toList=true:=by decide)
 (len : O.length≤O'.length:=by simp) (ga : gdL (· < O.length) args:=by simp) (gO : ∀ o ∈ O,gdO (· < O.length) o:=by simp) (gr : gd (fun i=>(nth O' i).isSome=true) r:=by simp) (gO' : ∀ o,some o ∈ O'→gdO (fun i=>(nth O' i).isSome=true) o:=by simp) : AbC Try.prog f args O r O':=AbC.enter hf hb hm hin len ga gO gr gO' h
theorem NX {α : Type} {F : Nat→α→Prop} {L : α→List (Nat×AV)} {O : α→List (Nat×Aap)} {M k k' : Nat} (y : α) (hF : F k' y) (h1 : ∀ p ∈ L y,s p.1=p.2) (h2 : ∀ p ∈ O y,H p.1=some p.2) (hk : k'<k:=by omega) (hN : N≤M:=by simp) :
 Abs.Can n c0 w0 s H N (fun a w=>∃ k' y,k'<k∧F k' y∧St n c0 w0 (mkS (L y)) (mkH (O y)) M a w):=Abs.Can.next y hk hF h1 h2 hN
theorem JN {α : Type} {F : α→Prop} {L : α→List (Nat×AV)} {O : α→List (Nat×Aap)} {M : Nat} (y : α) (hF : F y) (h1 : ∀ p ∈ L y,s p.1=p.2) (h2 : ∀ p ∈ O y,H p.1=some p.2) (hN : N≤M:=by simp) :
 Abs.Can n c0 w0 s H N (fun a w=>∃ y,F y∧St n c0 w0 (mkS (L y)) (mkH (O y)) M a w):=Abs.Can.join y hF h1 h2 hN
end
@[simp↓] theorem Ark {P : Program} {mu : List Nat} {d : Option Nat} {s : Nat→AV} {H : Aam} {N : Nat} {K : CK} {y : Operand} : bop P mu d s H N K (.move y)=K (ev s y) H N [] []:=bop.eq_1 ..
@[simp↓] theorem Arl {P : Program} {mu : List Nat} {d : Option Nat} {s : Nat→AV} {H : Aam} {N : Nat} {K : CK} {y : Operand} : bop P mu d s H N K (.assign y)=K (ev s y) H N [] []:=bop.eq_2 ..
@[simp] theorem t0 : AcM Try.prog 0=some false∧AbW Try.prog 0=some 1:=by and_intros <;> kernel_rfl
@[simp] theorem t1 : AcM Try.prog 1=some false∧AbW Try.prog 1=some 1∧Abp Try.prog 1=some [AV.nilfn]∧Abc Try.prog 1=some AV.nilfn:=by and_intros <;> kernel_rfl
@[simp] theorem t2 : AcM Try.prog 2=some false∧AbW Try.prog 2=some 1∧Abp Try.prog 2=some [AV.int .i64 0]∧Abc Try.prog 2=some (AV.int .i64 0)∧Ait Try.prog 2=some IntKind.i64:=by and_intros <;> kernel_rfl
@[simp] theorem t3 : AcM Try.prog 3=some false∧AbW Try.prog 3=some 1∧Abp Try.prog 3=some [AV.int .i64 0]∧Abc Try.prog 3=some (AV.int .i64 0)∧Ait Try.prog 3=some IntKind.i64:=by and_intros <;> kernel_rfl
@[simp] theorem t4 : AcM Try.prog 4=some false∧AbW Try.prog 4=some 1∧Abp Try.prog 4=some [AV.bool false]∧Abc Try.prog 4=some (AV.bool false)∧Try.prog.underlying 4=some Go.TypeDesc.bool:=by and_intros <;> kernel_rfl
@[simp] theorem t5 : AcM Try.prog 5=some false∧AbW Try.prog 5=some 1∧Abp Try.prog 5=some [AV.int .u8 0]∧Abc Try.prog 5=some (AV.int .u8 0)∧Ait Try.prog 5=some IntKind.u8:=by and_intros <;> kernel_rfl
@[simp] theorem t9 : Ajj Try.prog 9=true∧AcM Try.prog 9=some false∧AbW Try.prog 9=some 1∧Abp Try.prog 9=some [AV.str { data := { toList:=[] } }]∧Abc Try.prog 9=some (AV.str { data := { toList:=[] } })∧Acp Try.prog 9=true:=by and_intros <;> kernel_rfl
@[simp] theorem t22 : Aa0 Try.prog 22=some (3,1,8)∧Akw Try.prog 22=true∧AcM Try.prog 22=some false∧AbW Try.prog 22=some 1∧Abp Try.prog 22=some [AV.lst true true []]∧Abc Try.prog 22=some (AV.lst true true [])∧Acp Try.prog 22=true∧Try.prog.underlying 22=some (Go.TypeDesc.slice 3):=by and_intros <;> kernel_rfl
@[simp] theorem t27 : Aa0 Try.prog 27=some (65,3,24)∧Akw Try.prog 27=true∧AcM Try.prog 27=some false∧AbW Try.prog 27=some 1∧Abp Try.prog 27=some [AV.lst true true []]∧Abc Try.prog 27=some (AV.lst true true [])∧Acp Try.prog 27=true∧Try.prog.underlying 27=some (Go.TypeDesc.slice 65):=by and_intros <;> kernel_rfl
@[simp] theorem t29 : AcM Try.prog 29=some true∧AbW Try.prog 29=some 3∧Abp Try.prog 29=some [AV.int .i64 0,AV.lst true true [],AV.lst true true []]∧Abc Try.prog 29=some (AV.agg [AV.int .i64 0,AV.lst true true [],AV.lst true true []])∧Aca Try.prog 29=true:=by and_intros <;> kernel_rfl
@[simp] theorem t35 : Aa0 Try.prog 35=some (46,3,24)∧Akw Try.prog 35=true∧AcM Try.prog 35=some false∧AbW Try.prog 35=some 1∧Abp Try.prog 35=some [AV.lst true true []]∧Abc Try.prog 35=some (AV.lst true true [])∧Acp Try.prog 35=true∧Try.prog.underlying 35=some (Go.TypeDesc.slice 46):=by and_intros <;> kernel_rfl
@[simp] theorem t37 : AcM Try.prog 37=some true∧AbW Try.prog 37=some 2∧Abp Try.prog 37=some [AV.int .i64 0,AV.lst true true []]∧Abc Try.prog 37=some (AV.agg [AV.int .i64 0,AV.lst true true []])∧Aca Try.prog 37=true:=by and_intros <;> kernel_rfl
@[simp] theorem t46 : AcM Try.prog 46=some true∧AbW Try.prog 46=some 3∧Abp Try.prog 46=some [AV.int .i64 0,AV.int .i64 0,AV.int .i64 0]∧Abc Try.prog 46=some (AV.agg [AV.int .i64 0,AV.int .i64 0,AV.int .i64 0])∧Aca Try.prog 46=true∧AnT Try.prog 46=some [AbY.int .i64,AbY.int .i64,AbY.int .i64]:=by and_intros <;> kernel_rfl
@[simp] theorem t56 : Aa0 Try.prog 56=some (22,1,24)∧Akw Try.prog 56=true∧AcM Try.prog 56=some false∧AbW Try.prog 56=some 1∧Abp Try.prog 56=some [AV.lst true true []]∧Abc Try.prog 56=some (AV.lst true true [])∧Acp Try.prog 56=true∧Try.prog.underlying 56=some (Go.TypeDesc.slice 22):=by and_intros <;> kernel_rfl
@[simp] theorem t63 : AcM Try.prog 63=some false∧AbW Try.prog 63=some 1∧Abp Try.prog 63=some [AV.int .u64 0]∧Abc Try.prog 63=some (AV.int .u64 0)∧Ait Try.prog 63=some IntKind.u64:=by and_intros <;> kernel_rfl
@[simp] theorem t65 : AcM Try.prog 65=some true∧AbW Try.prog 65=some 3∧Abp Try.prog 65=some [AV.int .i64 0,AV.int .i64 0,AV.int .i64 0]∧Abc Try.prog 65=some (AV.agg [AV.int .i64 0,AV.int .i64 0,AV.int .i64 0])∧Aca Try.prog 65=true∧AnT Try.prog 65=some [AbY.int .i64,AbY.int .i64,AbY.int .i64]:=by and_intros <;> kernel_rfl
@[simp] theorem t73 : AcM Try.prog 73=some true∧AbW Try.prog 73=some 2∧Abp Try.prog 73=some [AV.lst true true [],AV.int .i64 0]∧Abc Try.prog 73=some (AV.agg [AV.lst true true [],AV.int .i64 0])∧Aca Try.prog 73=true:=by and_intros <;> kernel_rfl
@[simp] theorem t87 : AcM Try.prog 88=some false∧AbW Try.prog 88=some 1∧Abp Try.prog 88=some [AV.nilmap]∧Abc Try.prog 88=some AV.nilmap∧AeK Try.prog 88=some (AbY.int .i64,AV.bool false):=by and_intros <;> kernel_rfl
@[simp] theorem t91 : AcM Try.prog 93=some true∧AbW Try.prog 93=some 8∧Abp Try.prog 93=some [AV.int .i64 0,AV.lst true true [],AV.lst true true [],AV.int .i64 0,AV.int .i64 0,AV.int .i64 0,AV.nilmap,AV.bool false]∧Abc Try.prog 93=some (AV.agg [AV.int .i64 0,AV.lst true true [],AV.lst true true [],AV.int .i64 0,AV.int .i64 0,AV.int .i64 0,AV.nilmap,AV.bool false])∧Aca Try.prog 93=true:=by and_intros <;> kernel_rfl
@[simp] theorem t94 : AcM Try.prog 98=some false∧AbW Try.prog 98=some 1∧Abp Try.prog 98=some [AV.nilmap]∧Abc Try.prog 98=some AV.nilmap∧AeK Try.prog 98=some (AbY.int .i64,AV.int .i64 0):=by and_intros <;> kernel_rfl
@[simp] theorem AsK : Aa0 Try.prog 106=some (122,1,24)∧Akw Try.prog 106=true∧AcM Try.prog 106=some false∧AbW Try.prog 106=some 1∧Abp Try.prog 106=some [AV.lst true true []]∧Abc Try.prog 106=some (AV.lst true true [])∧Acp Try.prog 106=true∧Try.prog.underlying 106=some (Go.TypeDesc.slice 122):=by and_intros <;> kernel_rfl
@[simp] theorem AsJ : AcM Try.prog 108=some true∧AbW Try.prog 108=some 4∧Abp Try.prog 108=some [AV.int .i64 0,AV.lst true true [],AV.lst true true [],AV.lst true true []]∧Abc Try.prog 108=some (AV.agg [AV.int .i64 0,AV.lst true true [],AV.lst true true [],AV.lst true true []])∧Aca Try.prog 108=true:=by and_intros <;> kernel_rfl
@[simp] theorem AsI : AcM Try.prog 112=some false∧AbW Try.prog 112=some 1∧Abp Try.prog 112=some [AV.nilmap]∧Abc Try.prog 112=some AV.nilmap∧AeK Try.prog 112=some (AbY.int .i64,AV.lst true true []):=by and_intros <;> kernel_rfl
@[simp] theorem AsH : Aa0 Try.prog 122=some (124,2,16)∧Akw Try.prog 122=true∧AcM Try.prog 122=some false∧AbW Try.prog 122=some 1∧Abp Try.prog 122=some [AV.lst true true []]∧Abc Try.prog 122=some (AV.lst true true [])∧Acp Try.prog 122=true∧Try.prog.underlying 122=some (Go.TypeDesc.slice 124):=by and_intros <;> kernel_rfl
@[simp] theorem AsG : AcM Try.prog 124=some true∧AbW Try.prog 124=some 2∧Abp Try.prog 124=some [AV.int .i64 0,AV.bool false]∧Abc Try.prog 124=some (AV.agg [AV.int .i64 0,AV.bool false])∧Aca Try.prog 124=true∧AnT Try.prog 124=some [AbY.int .i64,AbY.bool]:=by and_intros <;> kernel_rfl
@[simp] theorem AsF : AcM Try.prog 125=some false∧AbW Try.prog 125=some 1∧Abp Try.prog 125=some [AV.nilmap]∧Abc Try.prog 125=some AV.nilmap∧AeK Try.prog 125=some (AbY.int .i64,AV.agg [AV.int .i64 0,AV.bool false]):=by and_intros <;> kernel_rfl
@[simp] theorem AsE : Acy Try.prog 29 0=some (0,1)∧Abu Try.prog 29 0=some 0∧Aby Try.prog 29 0=some (0,none)∧Acy Try.prog 29 1=some (1,1)∧Abu Try.prog 29 1=some 1∧Aby Try.prog 29 1=some (1,none)∧Acy Try.prog 29 2=some (2,1)∧Abu Try.prog 29 2=some 2∧Aby Try.prog 29 2=some (2,none):=by and_intros <;> kernel_rfl
@[simp] theorem AsD : Acy Try.prog 37 0=some (0,1)∧Abu Try.prog 37 0=some 0∧Aby Try.prog 37 0=some (0,none)∧Acy Try.prog 37 1=some (1,1)∧Abu Try.prog 37 1=some 1∧Aby Try.prog 37 1=some (1,none):=by and_intros <;> kernel_rfl
@[simp] theorem AsC : Acy Try.prog 46 0=some (0,1)∧Abu Try.prog 46 0=some 0∧Aby Try.prog 46 0=some (0,none)∧Acy Try.prog 46 1=some (1,1)∧Abu Try.prog 46 1=some 1∧Aby Try.prog 46 1=some (1,none)∧Acy Try.prog 46 2=some (2,1)∧Abu Try.prog 46 2=some 2∧Aby Try.prog 46 2=some (2,none):=by and_intros <;> kernel_rfl
@[simp] theorem AsB : Acy Try.prog 65 0=some (0,1)∧Abu Try.prog 65 0=some 0∧Aby Try.prog 65 0=some (0,none)∧Acy Try.prog 65 1=some (1,1)∧Abu Try.prog 65 1=some 1∧Aby Try.prog 65 1=some (1,none)∧Acy Try.prog 65 2=some (2,1)∧Abu Try.prog 65 2=some 2∧Aby Try.prog 65 2=some (2,none):=by and_intros <;> kernel_rfl
@[simp] theorem AsA : Acy Try.prog 73 0=some (0,1)∧Abu Try.prog 73 0=some 0∧Aby Try.prog 73 0=some (0,none)∧Acy Try.prog 73 1=some (1,1)∧Abu Try.prog 73 1=some 1∧Aby Try.prog 73 1=some (1,none):=by and_intros <;> kernel_rfl
@[simp] theorem Ar9 : Acy Try.prog 93 0=some (0,3)∧Abu Try.prog 93 0=some 0∧Aby Try.prog 93 0=some (0,some 3)∧Acy Try.prog 93 1=some (3,1)∧Abu Try.prog 93 1=some 3∧Aby Try.prog 93 1=some (3,none)∧Acy Try.prog 93 2=some (4,1)∧Abu Try.prog 93 2=some 4∧Aby Try.prog 93 2=some (4,none)∧Acy Try.prog 93 3=some (5,1)∧Abu Try.prog 93 3=some 5∧Aby Try.prog 93 3=some (5,none)∧Acy Try.prog 93 4=some (6,1)∧Abu Try.prog 93 4=some 6∧Aby Try.prog 93 4=some (6,none)∧Acy Try.prog 93 5=some (7,1)∧Abu Try.prog 93 5=some 7∧Aby Try.prog 93 5=some (7,none):=by and_intros <;> kernel_rfl
@[simp] theorem Ar8 : Acy Try.prog 108 0=some (0,2)∧Abu Try.prog 108 0=some 0∧Aby Try.prog 108 0=some (0,some 2)∧Acy Try.prog 108 1=some (2,1)∧Abu Try.prog 108 1=some 2∧Aby Try.prog 108 1=some (2,none)∧Acy Try.prog 108 2=some (3,1)∧Abu Try.prog 108 2=some 3∧Aby Try.prog 108 2=some (3,none):=by and_intros <;> kernel_rfl
@[simp] theorem Ar7 : Acy Try.prog 124 0=some (0,1)∧Abu Try.prog 124 0=some 0∧Aby Try.prog 124 0=some (0,none)∧Acy Try.prog 124 1=some (1,1)∧Abu Try.prog 124 1=some 1∧Aby Try.prog 124 1=some (1,none):=by and_intros <;> kernel_rfl
@[simp] theorem c0 : AaS Try.prog 8=true∧AaS Try.prog 9=true∧AaS Try.prog 11=true∧AaS Try.prog 12=true∧AaS Try.prog 16=true∧AaS Try.prog 20=true∧AaS Try.prog 23=true∧AaS Try.prog 24=true∧AaS Try.prog 27=true∧AaS Try.prog 29=true∧AaS Try.prog 31=true∧AaS Try.prog 34=true∧AaS Try.prog 35=true∧AaS Try.prog 36=true∧AaS Try.prog 37=true∧AaS Try.prog 38=true∧AaS Try.prog 39=true∧AaS Try.prog 45=true∧AaS Try.prog 46=true∧AaS Try.prog 47=true∧AaS Try.prog 52=true∧AaS Try.prog 56=true∧AaS Try.prog 58=true∧AaS Try.prog 59=true∧AaS Try.prog 61=true∧AaS Try.prog 62=true∧AaS Try.prog 63=true∧AaS Try.prog 64=true∧AaS Try.prog 65=true∧AaS Try.prog 66=true:=by and_intros <;> kernel_rfl
@[simp] theorem c30 : AaS Try.prog 67=true∧AaS Try.prog 68=true∧AaS Try.prog 69=true∧AaS Try.prog 70=true∧AaS Try.prog 71=true∧AaS Try.prog 75=true∧AaS Try.prog 76=true∧AaS Try.prog 77=true∧AaS Try.prog 78=true∧AaS Try.prog 79=true∧AaS Try.prog 80=true∧AaS Try.prog 81=true∧AaS Try.prog 84=true∧AaS Try.prog 85=true∧AaS Try.prog 86=true∧AaS Try.prog 87=true∧AaS Try.prog 88=true∧AaS Try.prog 89=true∧AaS Try.prog 90=true∧AaS Try.prog 91=true∧AaS Try.prog 92=true∧AaS Try.prog 99=true∧AaS Try.prog 100=true∧AaS Try.prog 102=true∧AaS Try.prog 103=true∧AaS Try.prog 104=true∧AaS Try.prog 105=true∧AaS Try.prog 107=true∧AaS Try.prog 108=true∧AaS Try.prog 112=true:=by and_intros <;> kernel_rfl
@[simp] theorem c60 : AaS Try.prog 113=true∧AaS Try.prog 116=true∧AaS Try.prog 117=true∧AaS Try.prog 118=true∧AaS Try.prog 119=true∧AaS Try.prog 120=true∧AaS Try.prog 121=true∧AaS Try.prog 122=true∧AaS Try.prog 123=true∧AaS Try.prog 124=true∧AaS Try.prog 125=true∧AaS Try.prog 126=true∧AaS Try.prog 127=true∧AaS Try.prog 128=true∧AaS Try.prog 129=true∧AaS Try.prog 130=true∧AaS Try.prog 131=true∧AaS Try.prog 132=true∧AaS Try.prog 133=true∧AaS Try.prog 134=true:=by and_intros <;> kernel_rfl
end Go.Proofs.YtelffnegemdicaaPmT
namespace Go.TF
open Go Go.Abs
end Go.TF
