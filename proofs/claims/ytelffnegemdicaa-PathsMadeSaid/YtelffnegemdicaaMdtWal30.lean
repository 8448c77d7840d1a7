import Derived.Test.YtelffnegemdicaaMdtLay29
set_option linter.unusedVariables false
set_option maxRecDepth 100000
namespace Go.TF
open Go Go.Abs
abbrev Iz (n : Int) : AV := .int .i64 n
abbrev Lz (l : List Int) : AV := .lst false false (l.map (.int .i64))
abbrev Lb (l : List Int) : AV := .lst false false (l.map (.int .u8))
abbrev Lw (l : List Int) : AV := .lst false false (l.map (.int .u32))
structure AaA where
  From : Int
  To : Int
  Level : Int
@[simp] def AaA.av (x : AaA) : AV:=AV.agg [AV.int .i64 x.From,AV.int .i64 x.To,AV.int .i64 x.Level]
@[simp] theorem AaA.okEls (l : List AaA) : okEls 3 (l.map AaA.av)↔True:=iff_true_intro (Acy.2 fun x hx=>by
  simp only [List.mem_map] at hx
  obtain ⟨b,_,rfl⟩:=hx
  simp)
@[simp] theorem AaA.gdF (S : Nat→Prop) (l : List AaA) : gdL S (AaO (l.map AaA.av))↔True:=iff_true_intro (Ajh (by simp) l)
@[simp] theorem AaA.frF (l : List AaA) : Ac7 (AaO (l.map AaA.av))=true:=Af7 (by simp) l
@[simp] theorem AaA.renF (σ : Nat→Nat) (l : List AaA) : Ad5 σ (AaO (l.map AaA.av))=AaO (l.map AaA.av):=Ahm (by simp) l
@[simp] theorem AaA.lenF (l : List AaA) : (AaO (l.map AaA.av)).length=l.length*3:=Acq (F:=AaA.av) (fun _=>rfl) l
@[simp↓] theorem AaA.oneF (l : List AaA) : (AaO (l.map AaA.av)).all AV.one=true:=AjS (by simp) l
@[simp] theorem AaA.setR (σ : Nat→Nat) (l : List AaA) (i : Nat) (f0 f1 f2 : Int) : Ad5 σ (AaO ((l.map AaA.av).set i (AV.agg [AV.int .i64 f0,AV.int .i64 f1,AV.int .i64 f2])))=AaO ((l.map AaA.av).set i (AV.agg [AV.int .i64 f0,AV.int .i64 f1,AV.int .i64 f2])):=by
  have h:=AaA.renF σ (l.set i (AaA.mk f0 f1 f2))
  rw [List.map_set] at h; exact h
@[simp] theorem AaA.setG (S : Nat→Prop) (l : List AaA) (i : Nat) (f0 f1 f2 : Int) : gdL S (AaO ((l.map AaA.av).set i (AV.agg [AV.int .i64 f0,AV.int .i64 f1,AV.int .i64 f2])))↔True:=by
  have h:=AaA.gdF S (l.set i (AaA.mk f0 f1 f2))
  rw [List.map_set] at h; exact h
@[simp] theorem AaA.setF (l : List AaA) (i : Nat) (f0 f1 f2 : Int) : Ac7 (AaO ((l.map AaA.av).set i (AV.agg [AV.int .i64 f0,AV.int .i64 f1,AV.int .i64 f2])))=true:=by
  have h:=AaA.frF (l.set i (AaA.mk f0 f1 f2))
  rw [List.map_set] at h; exact h
@[simp] theorem AaA.len_take (i : Nat) (l : List AaA) : (AaO (List.take i (l.map AaA.av))).length=(l.take i).length*3:=by rw [← List.map_take]; exact AaA.lenF _
@[simp] theorem AaA.ren_take (σ : Nat→Nat) (i : Nat) (l : List AaA) : Ad5 σ (AaO (List.take i (l.map AaA.av)))=AaO (List.take i (l.map AaA.av)):=by rw [← List.map_take]; exact AaA.renF σ _
@[simp] theorem AaA.gd_take (S : Nat→Prop) (i : Nat) (l : List AaA) : gdL S (AaO (List.take i (l.map AaA.av)))↔True:=by rw [← List.map_take]; exact AaA.gdF S _
@[simp] theorem AaA.one_take (i : Nat) (l : List AaA) : (∀ x : AV,x ∈ AaO (List.take i (l.map AaA.av))→x.one=true)↔True:=iff_true_intro (List.all_eq_true.1 (by rw [← List.map_take]; exact AaA.oneF _))
@[simp] theorem AaA.len_drop (i : Nat) (l : List AaA) : (AaO (List.drop i (l.map AaA.av))).length=(l.drop i).length*3:=by rw [← List.map_drop]; exact AaA.lenF _
@[simp] theorem AaA.ren_drop (σ : Nat→Nat) (i : Nat) (l : List AaA) : Ad5 σ (AaO (List.drop i (l.map AaA.av)))=AaO (List.drop i (l.map AaA.av)):=by rw [← List.map_drop]; exact AaA.renF σ _
@[simp] theorem AaA.gd_drop (S : Nat→Prop) (i : Nat) (l : List AaA) : gdL S (AaO (List.drop i (l.map AaA.av)))↔True:=by rw [← List.map_drop]; exact AaA.gdF S _
@[simp] theorem AaA.ids (S : Nat→Prop) (l : List AaA) : Abc S (l.map AaA.av)↔True:=iff_true_intro (Afb (by simp) l)
structure AaE where
  From : Int
  To : Int
  Cap : Int
@[simp] def AaE.av (x : AaE) : AV:=AV.agg [AV.int .i64 x.From,AV.int .i64 x.To,AV.int .i64 x.Cap]
@[simp] theorem AaE.okEls (l : List AaE) : okEls 3 (l.map AaE.av)↔True:=iff_true_intro (Acy.2 fun x hx=>by
  simp only [List.mem_map] at hx
  obtain ⟨b,_,rfl⟩:=hx
  simp)
@[simp] theorem AaE.gdF (S : Nat→Prop) (l : List AaE) : gdL S (AaO (l.map AaE.av))↔True:=iff_true_intro (Ajh (by simp) l)
@[simp] theorem AaE.frF (l : List AaE) : Ac7 (AaO (l.map AaE.av))=true:=Af7 (by simp) l
@[simp] theorem AaE.renF (σ : Nat→Nat) (l : List AaE) : Ad5 σ (AaO (l.map AaE.av))=AaO (l.map AaE.av):=Ahm (by simp) l
@[simp] theorem AaE.lenF (l : List AaE) : (AaO (l.map AaE.av)).length=l.length*3:=Acq (F:=AaE.av) (fun _=>rfl) l
@[simp↓] theorem AaE.oneF (l : List AaE) : (AaO (l.map AaE.av)).all AV.one=true:=AjS (by simp) l
@[simp] theorem AaE.ids (S : Nat→Prop) (l : List AaE) : Abc S (l.map AaE.av)↔True:=iff_true_intro (Afb (by simp) l)
structure AaC where
  arc : Int
  back : Bool
@[simp] def AaC.av (x : AaC) : AV:=AV.agg [AV.int .i64 x.arc,AV.bool x.back]
@[simp] theorem AaC.okEls (l : List AaC) : okEls 2 (l.map AaC.av)↔True:=iff_true_intro (Acy.2 fun x hx=>by
  simp only [List.mem_map] at hx
  obtain ⟨b,_,rfl⟩:=hx
  simp)
@[simp] theorem AaC.gdF (S : Nat→Prop) (l : List AaC) : gdL S (AaO (l.map AaC.av))↔True:=iff_true_intro (Ajh (by simp) l)
@[simp] theorem AaC.frF (l : List AaC) : Ac7 (AaO (l.map AaC.av))=true:=Af7 (by simp) l
@[simp] theorem AaC.renF (σ : Nat→Nat) (l : List AaC) : Ad5 σ (AaO (l.map AaC.av))=AaO (l.map AaC.av):=Ahm (by simp) l
@[simp] theorem AaC.lenF (l : List AaC) : (AaO (l.map AaC.av)).length=l.length*2:=Acq (F:=AaC.av) (fun _=>rfl) l
@[simp↓] theorem AaC.oneF (l : List AaC) : (AaO (l.map AaC.av)).all AV.one=true:=AjS (by simp) l
@[simp] theorem AaC.mpR (σ : Nat→Nat) (k : IntKind) (l : List (Int×AaC)) : Ada σ (.mp (mpA (AV.int k) AaC.av l)) = .mp (mpA (AV.int k) AaC.av l):=AhP σ _ _ l (by simp) (by simp)
@[simp] theorem AaC.mpG (S : Nat→Prop) (k : IntKind) (l : List (Int×AaC)) : gdO S (.mp (mpA (AV.int k) AaC.av l))↔True:=Ajf S _ _ l (by simp) (by simp)
@[simp] theorem AaC.mpF (k : IntKind) (l : List (Int×AaC)) : AfL (.mp (mpA (AV.int k) AaC.av l))=true:=Aml _ _ l (by simp) (by simp)
@[simp] theorem AaC.mpPR (σ : Nat→Nat) (k : IntKind) (l : List (Int×AaC)) (i f0 : Int) (f1 : Bool) : Ada σ (.mp (Ack (mpA (AV.int k) AaC.av l) (AV.int k i) (AV.agg [AV.int .i64 f0,AV.bool f1]))) = .mp (Ack (mpA (AV.int k) AaC.av l) (AV.int k i) (AV.agg [AV.int .i64 f0,AV.bool f1])):=by
  have h:=AaC.mpR σ k (AbE l i (AaC.mk f0 f1))
  rw [Agw] at h; exact h
@[simp] theorem AaC.mpPG (S : Nat→Prop) (k : IntKind) (l : List (Int×AaC)) (i f0 : Int) (f1 : Bool) : gdO S (.mp (Ack (mpA (AV.int k) AaC.av l) (AV.int k i) (AV.agg [AV.int .i64 f0,AV.bool f1])))↔True:=by
  have h:=AaC.mpG S k (AbE l i (AaC.mk f0 f1))
  rw [Agw] at h; exact h
@[simp] theorem AaC.ids (S : Nat→Prop) (l : List AaC) : Abc S (l.map AaC.av)↔True:=iff_true_intro (Afb (by simp) l)
def Afa (k : Nat) (v0 : (List Int)) : Option Bool :=
  some (decide ((v0.length : Int)≤400))
def Ac1 (k : Nat) (v0 v1 v2 : Int) : Option Bool :=
  if v1≤v0 then
    some (decide (v0≤v2))
  else
    some false
def Acj (k : Nat) (v0 : Int) (v1 : (List AaA)) (v2 : (List Int)) (v3 v4 v5 : Int) : Option Bool :=
  Abh (Ac1 k v3 1 3) fun v7 =>
  if v7=true then
    Abh (Ac1 k v4 0 (IntKind.wrap .i64 (v0-1))) fun v8 =>
    if v8=true then
      Abh (Ac1 k v5 0 (IntKind.wrap .i64 (v0-1))) fun v9 =>
      if v9=true then
        some (v4 !=v5)
      else
        some false
    else
      some false
  else
    some false
def AcU (k : Nat) (v0 : Int) : Option Int :=
  some (IntKind.wrap .i64 (2+IntKind.wrap .i64 (2*v0)))
def AaR.J2 (k : Nat) (v9 : Int) (kb1 : Int→(List AaE)→Option (Int×(List AaE))) (v11 : (List AaE)) : Option (Int×(List AaE)) :=
  kb1 (IntKind.wrap .i64 (v9+1)) v11
def AaR.J4 (k : Nat) (v14 : Int) (kb3 : Int→(List AaE)→Option (Int×(List AaE))) (v16 : (List AaE)) : Option (Int×(List AaE)) :=
  kb3 (IntKind.wrap .i64 (v14+1)) v16
def AaR.J6 (k : Nat) (v14 : Int) (v15 : (List AaE)) (v20 : Int) (kb3 : Int→(List AaE)→Option (Int×(List AaE))) (v21 : Int) : Option (Int×(List AaE)) :=
  chk ((v15.length+([(AaE.mk v20 v21 1)] : List AaE).length)*24≤140737488355328) <|
  AaR.J4 k v14 kb3 (v15++([(AaE.mk v20 v21 1)] : List AaE))
def AaR.J5 (k : Nat) (v5 v14 : Int) (v15 : (List AaE)) (v17 : AaA) (v19 : Int) (kb3 : Int→(List AaE)→Option (Int×(List AaE))) (v20 : Int) : Option (Int×(List AaE)) :=
  if v17.To=v5 then
    AaR.J6 k v14 v15 v20 kb3 1
  else
    AaR.J6 k v14 v15 v20 kb3 v19
def AaR.L3 (k : Nat) (v1 : (List AaA)) (v3 v4 v5 v8 : Int) : Nat→Int→(List AaE)→Option (Int×(List AaE))
  | 0,_,_=>none
  | n+1,v14,v15 =>
    if v14<(v1.length : Int) then
      idx v1 v14 fun v17 =>
      if v17.Level<v3 then
        AaR.J4 k v14 (fun v14_ v15_=>AaR.L3 k v1 v3 v4 v5 v8 n v14_ v15_) v15
      else
        if v17.To=v4 then
          AaR.J4 k v14 (fun v14_ v15_=>AaR.L3 k v1 v3 v4 v5 v8 n v14_ v15_) v15
        else
          if v17.From=v5 then
            AaR.J4 k v14 (fun v14_ v15_=>AaR.L3 k v1 v3 v4 v5 v8 n v14_ v15_) v15
          else
            Abh (AcU k v17.From) fun v18 =>
            Abh (AcU k v17.To) fun v19 =>
            if v17.From=v4 then
              AaR.J5 k v5 v14 v15 v17 v19 (fun v14_ v15_=>AaR.L3 k v1 v3 v4 v5 v8 n v14_ v15_) 0
            else
              AaR.J5 k v5 v14 v15 v17 v19 (fun v14_ v15_=>AaR.L3 k v1 v3 v4 v5 v8 n v14_ v15_) (IntKind.wrap .i64 (v18+1))
    else
      some (v8,v15)
def AaR.L1 (k : Nat) (v0 : Int) (v1 : (List AaA)) (v3 v4 v5 v8 : Int) : Nat→Int→(List AaE)→Option (Int×(List AaE))
  | 0,_,_=>none
  | n+1,v9,v10 =>
    if v9<v0 then
      if v9≠v4 then
        if v9≠v5 then
          Abh (AcU k v9) fun v12 =>
          Abh (AcU k v9) fun v13 =>
          chk ((v10.length+([(AaE.mk v12 (IntKind.wrap .i64 (v13+1)) 1)] : List AaE).length)*24≤140737488355328) <|
          AaR.J2 k v9 (fun v9_ v10_=>AaR.L1 k v0 v1 v3 v4 v5 v8 n v9_ v10_) (v10++([(AaE.mk v12 (IntKind.wrap .i64 (v13+1)) 1)] : List AaE))
        else
          AaR.J2 k v9 (fun v9_ v10_=>AaR.L1 k v0 v1 v3 v4 v5 v8 n v9_ v10_) v10
      else
        AaR.J2 k v9 (fun v9_ v10_=>AaR.L1 k v0 v1 v3 v4 v5 v8 n v9_ v10_) v10
    else
      AaR.L3 k v1 v3 v4 v5 v8 k 0 v10
def AaR (k : Nat) (v0 : Int) (v1 : (List AaA)) (v2 : (List Int)) (v3 v4 v5 : Int) : Option (Int×(List AaE)) :=
  Abh (AcU k v0) fun v8 =>
  AaR.L1 k v0 v1 v3 v4 v5 v8 k 0 ([] : List AaE)
def Adl (k : Nat) (v0 v1 v2 v3 : Int) (v4 : (List AaE)) : Option Bool :=
  Abh (Ac1 k v0 0 (IntKind.wrap .i64 (v3-1))) fun v6 =>
  if (!v6)=true then
    some true
  else
    Abh (Ac1 k v1 0 (IntKind.wrap .i64 (v3-1))) fun v7 =>
    if (!v7)=true then
      some true
    else
      if v0=v1 then
        some true
      else
        if v1=0 then
          some true
        else
          if v0=1 then
            some true
          else
            Abh (Ac1 k v2 0 1048576) fun v8 =>
            some (!v8)
def AaX.L1 (k : Nat) (v0 : (List AaE)) (v1 : Int) (v2 : (List AaE)) : Nat→Int→Option Int
  | 0,_=>none
  | n+1,v4 =>
    if v4<(v0.length : Int) then
      idx v0 v4 fun v5 =>
      Abh (Adl k v5.From v5.To v5.Cap v1 v2) fun v6 =>
      if v6=true then
        some v4
      else
        AaX.L1 k v0 v1 v2 n (IntKind.wrap .i64 (v4+1))
    else
      some (-1)
def AaX (k : Nat) (v0 : (List AaE)) (v1 : Int) (v2 : (List AaE)) : Option Int :=
  AaX.L1 k v0 v1 v2 k 0
def Aa5 (k : Nat) (v0 : (List AaE)) (v1 : Int) (v2 : (List AaE)) : Option Bool :=
  Abh (AaX k v0 v1 v2) fun v4 =>
  some (decide (0≤v4))
def AdT (k : Nat) (v0 : Int) (v1 : (List AaE)) : Option Int :=
  Abh (Ac1 k v0 2 130) fun v3 =>
  if (!v3)=true then
    some 16
  else
    if 1200<(v1.length : Int) then
      some 16
    else
      Abh (Aa5 k v1 v0 v1) fun v4 =>
      if v4=true then
        some 16
      else
        some 0
def AbS (k : Nat) (v0 : (List Int)) : Option (List Int) :=
  chk (v0.length*8≤140737488355328) <| some v0
def Abg.S (v4 : (List (List AaC))) (x : Int) (e : AaC) (F : (List (List AaC))→Option (List (List AaC))) : Option (List (List AaC)) :=
  chk ((0 : Int)≤x∧x.toNat<v4.length) <|
  idx v4 x fun l =>
  chk ((l.length+([e] : List AaC).length)*16≤140737488355328) <|
  F (v4.set x.toNat (l++[e]))
def Abg.L1 (k : Nat) (v1 : (List AaE)) : Nat→Int→(List (List AaC))→Option (List (List AaC))
  | 0,_,_=>none
  | n+1,v3,v4 =>
    if v3<(v1.length : Int) then
      idx v1 v3 fun v5 =>
      Abg.S v4 v5.From ⟨v3,false⟩ fun v6 =>
      Abg.S v6 v5.To ⟨v3,true⟩ fun v7 =>
      Abg.L1 k v1 n (IntKind.wrap .i64 (v3+1)) v7
    else
      some v4
def Abg (k : Nat) (v0 : Int) (v1 : (List AaE)) (v2 : (List Int)) : Option (List (List AaC)) :=
  chk ((0 : Int)≤v0∧24*v0≤281474976710656) <|
  Abg.L1 k v1 k 0 (List.replicate v0.toNat ([] : List AaC))
def Ab4 (k : Nat) (v0 : Int) (v1 : (List AaE)) (v2 : (List Int)) (v3 : (List (List AaC))) (v4 : Int) (v5 : Bool) : Option (Int×Int) :=
  idx v1 v4 fun v8 =>
  if v5=true then
    idx v2 v4 fun v9 =>
    some (v9,v8.From)
  else
    idx v2 v4 fun v10 =>
    some (IntKind.wrap .i64 (v8.Cap-v10),v8.To)
def AaK.J3 (k : Nat) (v11 : Int) (kb2 : Nat→Int→(List (Int×AaC))→(List Int)→Option (List (Int×AaC))) (v14 : (List (Int×AaC))) (v15 : (List Int)) (v16 : Nat) : Option (List (Int×AaC)) :=
  kb2 v16 (IntKind.wrap .i64 (v11+1)) v14 v15
def AaK.J4 (k v10 : Nat) (v11 : Int) (v12 : (List (Int×AaC))) (v13 : (List Int)) (v17 : AaC) (v18 v19 : Int) (kb2 : Nat→Int→(List (Int×AaC))→(List Int)→Option (List (Int×AaC))) (v20 : Bool) : Option (List (Int×AaC)) :=
  if 0<v18 then
    if (!v20)=true then
      chk (((v13.drop v10).length+([v19] : List Int).length)*8≤140737488355328∧v10≤v13.length) <|
      AaK.J3 k v11 kb2 (AbE v12 v19 v17) ((v13.drop v10)++([v19] : List Int)) 0
    else
      AaK.J3 k v11 kb2 v12 v13 v10
  else
    AaK.J3 k v11 kb2 v12 v13 v10
def AaK.L2 (k : Nat) (v0 : Int) (v1 : (List AaE)) (v2 : (List Int)) (v3 : (List (List AaC))) (v9 : (List AaC)) (kb1 : Nat→(List (Int×AaC))→(List Int)→Option (List (Int×AaC))) : Nat→Nat→Int→(List (Int×AaC))→(List Int)→Option (List (Int×AaC))
  | 0,_,_,_,_=>none
  | n+1,v10,v11,v12,v13 =>
    if v11<(v9.length : Int) then
      idx v9 v11 fun v17 =>
      Agh (Ab4 k v0 v1 v2 v3 v17.arc v17.back) fun v18 v19 =>
      AgR (AcI v12 v19) (fun v21 =>
        AaK.J4 k v10 v11 v12 v13 v17 v18 v19 (fun v10_ v11_ v12_ v13_=>AaK.L2 k v0 v1 v2 v3 v9 kb1 n v10_ v11_ v12_ v13_) true
      ) <|
      AaK.J4 k v10 v11 v12 v13 v17 v18 v19 (fun v10_ v11_ v12_ v13_=>AaK.L2 k v0 v1 v2 v3 v9 kb1 n v10_ v11_ v12_ v13_) false
    else
      chk (0<v13.length∧(1 : Int)≤(((v13.length-v10) : Nat) : Int)) <|
      kb1 (v10+(1 : Int).toNat) v12 v13
def AaK.L1 (k : Nat) (v0 : Int) (v1 : (List AaE)) (v2 : (List Int)) (v3 : (List (List AaC))) : Nat→Nat→(List (Int×AaC))→(List Int)→Option (List (Int×AaC))
  | 0,_,_,_=>none
  | n+1,v5,v6,v7 =>
    if 0<(((v7.length-v5) : Nat) : Int) then
      chk ((0 : Int)≤0∧(0 : Int).toNat<(v7.length-v5)∧v5+(0 : Int).toNat<v7.length) <|
      idx v7 ((v5+(0 : Int).toNat : Nat) : Int) fun v8 =>
      idx v3 v8 fun v9 =>
      AaK.L2 k v0 v1 v2 v3 v9 (fun v5_ v6_ v7_=>AaK.L1 k v0 v1 v2 v3 n v5_ v6_ v7_) k v5 0 v6 v7
    else
      some v6
def AaK (k : Nat) (v0 : Int) (v1 : (List AaE)) (v2 : (List Int)) (v3 : (List (List AaC))) : Option (List (Int×AaC)) :=
  AaK.L1 k v0 v1 v2 v3 k 0 (AbE ([] : (List (Int×AaC))) 0 (AaC.mk (-1) false)) ([0] : List Int)
def AaM.J3 (k : Nat) (v0 : Int) (v1 : (List AaE)) (v2 : (List Int)) (v3 : (List (List AaC))) (v8 : Int) (v10 : (List AaC)) (kb2 : Int→Int→(List AaC)→Option (Bool×(List Int))) (v11 : Int) (v12 : Bool) : Option (Bool×(List Int)) :=
  Agh (Ab4 k v0 v1 v2 v3 v11 v12) fun v13 v14 =>
  chk ((v10.length+([(AaC.mk v11 v12)] : List AaC).length)*16≤140737488355328) <|
  Anh (if v13<v8 then v13 else v8) fun v15 =>
  idx v1 v11 fun v16 =>
  if v12=true then
    kb2 v15 v16.To (v10++([(AaC.mk v11 v12)] : List AaC))
  else
    kb2 v15 v16.From (v10++([(AaC.mk v11 v12)] : List AaC))
def AaM.J5 (k : Nat) (v18 : Int) (kb4 : Int→(List Int)→Option (Bool×(List Int))) (v20 : (List Int)) : Option (Bool×(List Int)) :=
  kb4 (IntKind.wrap .i64 (v18+1)) v20
def AaM.L4 (k : Nat) (v8 : Int) (v10 : (List AaC)) : Nat→Int→(List Int)→Option (Bool×(List Int))
  | 0,_,_=>none
  | n+1,v18,v19 =>
    if v18<(v10.length : Int) then
      idx v10 v18 fun v21 =>
      if v21.back=true then
        chk ((0 : Int)≤v21.arc∧(v21.arc).toNat<v19.length) <|
        idx v19 v21.arc fun v22 =>
        chk ((0 : Int)≤v21.arc∧(v21.arc).toNat<v19.length) <|
        AaM.J5 k v18 (fun v18_ v19_=>AaM.L4 k v8 v10 n v18_ v19_) (v19.set (v21.arc).toNat (IntKind.wrap .i64 (v22-v8)))
      else
        chk ((0 : Int)≤v21.arc∧(v21.arc).toNat<v19.length) <|
        idx v19 v21.arc fun v23 =>
        chk ((0 : Int)≤v21.arc∧(v21.arc).toNat<v19.length) <|
        AaM.J5 k v18 (fun v18_ v19_=>AaM.L4 k v8 v10 n v18_ v19_) (v19.set (v21.arc).toNat (IntKind.wrap .i64 (v23+v8)))
    else
      some (true,v19)
def AaM.L2 (k : Nat) (v0 : Int) (v1 : (List AaE)) (v2 : (List Int)) (v3 : (List (List AaC))) (v6 : (List (Int×AaC))) : Nat→Int→Int→(List AaC)→Option (Bool×(List Int))
  | 0,_,_,_=>none
  | n+1,v8,v9,v10 =>
    if v9≠0 then
      AgR (AcI v6 v9) (fun v17 =>
        AaM.J3 k v0 v1 v2 v3 v8 v10 (fun v8_ v9_ v10_=>AaM.L2 k v0 v1 v2 v3 v6 n v8_ v9_ v10_) v17.arc v17.back
      ) <|
      AaM.J3 k v0 v1 v2 v3 v8 v10 (fun v8_ v9_ v10_=>AaM.L2 k v0 v1 v2 v3 v6 n v8_ v9_ v10_) 0 false
    else
      AaM.L4 k v8 v10 k 0 v2
def AaM.J1 (k : Nat) (v0 : Int) (v1 : (List AaE)) (v2 : (List Int)) (v3 : (List (List AaC))) (v6 : (List (Int×AaC))) (v7 : Bool) : Option (Bool×(List Int)) :=
  if (!v7)=true then
    some (false,v2)
  else
    AaM.L2 k v0 v1 v2 v3 v6 k 1048576 1 ([] : List AaC)
def AaM (k : Nat) (v0 : Int) (v1 : (List AaE)) (v2 : (List Int)) (v3 : (List (List AaC))) : Option (Bool×(List Int)) :=
  Abh (AaK k v0 v1 v2 v3) fun v6 =>
  AgR (AcI v6 1) (fun v24 =>
    AaM.J1 k v0 v1 v2 v3 v6 true
  ) <|
  AaM.J1 k v0 v1 v2 v3 v6 false
def AcZ.L1 (k : Nat) (v0 : Int) (v1 : (List AaE)) (v5 : (List (List AaC))) : Nat→(List Int)→Option (List Int)
  | 0,_=>none
  | n+1,v6 =>
    Agh (AaM k v0 v1 v6 v5) fun v7 v8 =>
    chk (v8.length=v6.length) <|
    if v7=true then
      AcZ.L1 k v0 v1 v5 n v8
    else
      some v8
def AcZ (k : Nat) (v0 : Int) (v1 : (List AaE)) (v2 : (List Int)) : Option (List Int) :=
  Abh (AbS k v2) fun v4 =>
  Abh (Abg k v0 v1 v4) fun v5 =>
  AcZ.L1 k v0 v1 v5 k v4
def Afc (k : Nat) (v0 : Int) (v1 : (List AaE)) : Option ((List Int)×Int) :=
  Abh (AdT k v0 v1) fun v4 =>
  if v4≠0 then
    some (([] : List Int),v4)
  else
    chk ((0 : Int)≤(v1.length : Int)∧16*(v1.length : Int)≤281474976710656) <|
    Abh (AcZ k v0 v1 (List.replicate ((v1.length : Int)).toNat (0 : Int))) fun v5 =>
    some (v5,0)
def Abf.L1 (k : Nat) (v1 : (List AaE)) (v2 : (List Int)) : Nat→Int→(List Int)→Option (List Int)
  | 0,_,_=>none
  | n+1,v4,v5 =>
    if v4<(v1.length : Int) then
      idx v1 v4 fun v6 =>
      chk ((0 : Int)≤v6.From∧(v6.From).toNat<v5.length) <|
      idx v5 v6.From fun v7 =>
      idx v2 v4 fun v8 =>
      chk ((0 : Int)≤v6.From∧(v6.From).toNat<v5.length) <|
      chk ((0 : Int)≤v6.To∧(v6.To).toNat<(v5.set (v6.From).toNat (IntKind.wrap .i64 (v7+v8))).length) <|
      idx (v5.set (v6.From).toNat (IntKind.wrap .i64 (v7+v8))) v6.To fun v9 =>
      chk ((0 : Int)≤v6.To∧(v6.To).toNat<(v5.set (v6.From).toNat (IntKind.wrap .i64 (v7+v8))).length) <|
      Abf.L1 k v1 v2 n (IntKind.wrap .i64 (v4+1)) ((v5.set (v6.From).toNat (IntKind.wrap .i64 (v7+v8))).set (v6.To).toNat (IntKind.wrap .i64 (v9-v8)))
    else
      some v5
def Abf (k : Nat) (v0 : Int) (v1 : (List AaE)) (v2 : (List Int)) : Option (List Int) :=
  chk ((0 : Int)≤v0∧16*v0≤281474976710656) <|
  Abf.L1 k v1 v2 k 0 (List.replicate (v0).toNat (0 : Int))
def AeL (k : Nat) (v0 : Int) : Option Bool :=
  some (v0 !=0)
def Aad.L1 (k : Nat) (v0 : (List Int)) : Nat→Int→Option Int
  | 0,_=>none
  | n+1,v2 =>
    if v2<(v0.length : Int) then
      idx v0 v2 fun v3 =>
      Abh (AeL k v3) fun v4 =>
      if v4=true then
        some v2
      else
        Aad.L1 k v0 n (IntKind.wrap .i64 (v2+1))
    else
      some (-1)
def Aad (k : Nat) (v0 : (List Int)) : Option Int :=
  Aad.L1 k v0 k 0
def AbL (k : Nat) (v0 : (List Int)) : Option Bool :=
  Abh (Aad k v0) fun v2 =>
  some (decide (0≤v2))
def Abz.L1 (k : Nat) (v0 : Int) (v1 : (List AaE)) (v2 : (List Int)) : Nat→Int→Option Bool
  | 0,_=>none
  | n+1,v5 =>
    if v5<(v1.length : Int) then
      idx v1 v5 fun v6 =>
      idx v2 v5 fun v7 =>
      Abh (Ac1 k v7 0 v6.Cap) fun v8 =>
      if (!v8)=true then
        some false
      else
        Abz.L1 k v0 v1 v2 n (IntKind.wrap .i64 (v5+1))
    else
      Abh (Abf k v0 v1 v2) fun v9 =>
      chk ((2 : Int)≤((v9.length : Nat) : Int)) <|
      Abh (AbL k (v9.drop ((2 : Int).toNat))) fun v10 =>
      some (!v10)
def Abz (k : Nat) (v0 : Int) (v1 : (List AaE)) (v2 : (List Int)) : Option Bool :=
  Abh (AdT k v0 v1) fun v4 =>
  if v4≠0 then
    some false
  else
    if (v2.length : Int)≠(v1.length : Int) then
      some false
    else
      Abz.L1 k v0 v1 v2 k 0
def AdS (k : Nat) (v0 : Int) (v1 : (List AaE)) (v2 : (List Int)) : Option Int :=
  Abh (Abz k v0 v1 v2) fun v4 =>
  if (!v4)=true then
    some 0
  else
    Abh (Abf k v0 v1 v2) fun v5 =>
    chk ((0 : Int)≤0∧(0 : Int).toNat<v5.length) <|
    idx v5 (0 : Int) fun v6 =>
    some v6
def Adk (k : Nat) (v0 v1 v2 v3 : Int) : Option Bool :=
  some (v0==v3)
def Aaa.L1 (k : Nat) (v0 : (List AaE)) (v1 : Int) : Nat→Int→Option Int
  | 0,_=>none
  | n+1,v3 =>
    if v3<(v0.length : Int) then
      idx v0 v3 fun v4 =>
      Abh (Adk k v4.From v4.To v4.Cap v1) fun v5 =>
      if v5=true then
        some v3
      else
        Aaa.L1 k v0 v1 n (IntKind.wrap .i64 (v3+1))
    else
      some (-1)
def Aaa (k : Nat) (v0 : (List AaE)) (v1 : Int) : Option Int :=
  Aaa.L1 k v0 v1 k 0
def Abt (k : Nat) (v0 : (List Int)) : Option (List Int) :=
  chk (v0.length*8≤140737488355328) <| some v0
def AaS.J4 (k : Nat) (v12 : (List Int)) (v17 v18 : Int) (v19 : AaE) (kb2 : (List Int)→(List Int)→(List (Int×Int))→Int→Option ((List (List Int))×Int)) (v20 : (List Int)) (v21 : (List (Int×Int))) : Option ((List (List Int))×Int) :=
  kb2 (v12.set (v17).toNat (IntKind.wrap .i64 (v18-1))) v20 (AbE v21 v19.To (v20.length : Int)) v19.To
def AaS.L6 (k : Nat) (v1 : (List AaE)) (v12 v13 : (List Int)) (v17 v18 : Int) (v19 : AaE) (v22 : Int) (kb2 : (List Int)→(List Int)→(List (Int×Int))→Int→Option ((List (List Int))×Int)) : Nat→Int→(List (Int×Int))→Option ((List (List Int))×Int)
  | 0,_,_=>none
  | n+1,v24,v25 =>
    if v24<((((v13++([v17] : List Int)).length-((v22).toNat)) : Nat) : Int) then
      chk ((0 : Int)≤v24∧(v24).toNat<((v13++([v17] : List Int)).length-((v22).toNat))∧(v22).toNat+(v24).toNat<(v13++([v17] : List Int)).length) <|
      idx (v13++([v17] : List Int)) (((v22).toNat+(v24).toNat : Nat) : Int) fun v26 =>
      idx v1 v26 fun v27 =>
      AaS.L6 k v1 v12 v13 v17 v18 v19 v22 kb2 n (IntKind.wrap .i64 (v24+1)) (Ale v25 v27.To)
    else
      chk (0<(v13++([v17] : List Int)).length∧(0 : Int)<v22∧(0 : Int)≤v22∧(v22 : Int)≤(((v13++([v17] : List Int)).length : Nat) : Int)) <|
      AaS.J4 k v12 v17 v18 v19 kb2 ((v13++([v17] : List Int)).take ((v22).toNat)) v25
def AaS.J5 (k : Nat) (v1 : (List AaE)) (v12 v13 : (List Int)) (v14 : (List (Int×Int))) (v17 v18 : Int) (v19 : AaE) (kb2 : (List Int)→(List Int)→(List (Int×Int))→Int→Option ((List (List Int))×Int)) (v22 : Int) (v23 : Bool) : Option ((List (List Int))×Int) :=
  if v23=true then
    chk (0<(v13++([v17] : List Int)).length∧(0 : Int)≤v22∧(v22 : Int)≤(((v13++([v17] : List Int)).length : Nat) : Int)) <|
    AaS.L6 k v1 v12 v13 v17 v18 v19 v22 kb2 k 0 v14
  else
    AaS.J4 k v12 v17 v18 v19 kb2 (v13++([v17] : List Int)) v14
def AaS.J3 (k : Nat) (v1 : (List AaE)) (v12 v13 : (List Int)) (v14 : (List (Int×Int))) (kb2 : (List Int)→(List Int)→(List (Int×Int))→Int→Option ((List (List Int))×Int)) (v17 : Int) : Option ((List (List Int))×Int) :=
  chk ((0 : Int)≤v17∧(v17).toNat<v12.length) <|
  idx v12 v17 fun v18 =>
  chk ((0 : Int)≤v17∧(v17).toNat<v12.length) <|
  chk ((v13.length+([v17] : List Int).length)*8≤140737488355328) <|
  idx v1 v17 fun v19 =>
  AgR (AcI v14 v19.To) (fun v28 =>
    AaS.J5 k v1 v12 v13 v14 v17 v18 v19 kb2 v28 true
  ) <|
  AaS.J5 k v1 v12 v13 v14 v17 v18 v19 kb2 0 false
def AaS.J8 (k : Nat) (v29 : Int) (kb7 : Int→Option ((List (List Int))×Int)) : Option ((List (List Int))×Int) :=
  kb7 (IntKind.wrap .i64 (v29+1))
def AaS.L7 (k : Nat) (v1 : (List AaE)) (v12 v13 : (List Int)) (v14 : (List (Int×Int))) (v15 : Int) (kb2 : (List Int)→(List Int)→(List (Int×Int))→Int→Option ((List (List Int))×Int)) : Nat→Int→Option ((List (List Int))×Int)
  | 0,_=>none
  | n+1,v29 =>
    if v29<(v1.length : Int) then
      idx v1 v29 fun v30 =>
      if v30.From≠v15 then
        AaS.J8 k v29 (fun v29_=>AaS.L7 k v1 v12 v13 v14 v15 kb2 n v29_)
      else
        chk ((0 : Int)≤v29∧(v29).toNat<v12.length) <|
        idx v12 v29 fun v31 =>
        if v31=0 then
          AaS.J8 k v29 (fun v29_=>AaS.L7 k v1 v12 v13 v14 v15 kb2 n v29_)
        else
          AaS.J3 k v1 v12 v13 v14 kb2 v29
    else
      AaS.J3 k v1 v12 v13 v14 kb2 v29
def AaS.L2 (k : Nat) (v1 : (List AaE)) (v9 : Int) (v11 : (List (List Int))) (kb1 : Int→(List Int)→(List (List Int))→Option ((List (List Int))×Int)) : Nat→(List Int)→(List Int)→(List (Int×Int))→Int→Option ((List (List Int))×Int)
  | 0,_,_,_,_=>none
  | n+1,v12,v13,v14,v15 =>
    if v15≠1 then
      Abh (Aaa k v1 v15) fun v16 =>
      AaS.L7 k v1 v12 v13 v14 v15 (fun v12_ v13_ v14_ v15_=>AaS.L2 k v1 v9 v11 kb1 n v12_ v13_ v14_ v15_) k v16
    else
      Abh (Abt k v13) fun v32 =>
      chk ((v11.length+([v32] : List (List Int)).length)*24≤140737488355328) <|
      kb1 (IntKind.wrap .i64 (v9+1)) v12 (v11++([v32] : List (List Int)))
def AaS.L1 (k : Nat) (v1 : (List AaE)) (v8 : Int) : Nat→Int→(List Int)→(List (List Int))→Option ((List (List Int))×Int)
  | 0,_,_,_=>none
  | n+1,v9,v10,v11 =>
    if v9<v8 then
      AaS.L2 k v1 v9 v11 (fun v9_ v10_ v11_=>AaS.L1 k v1 v8 n v9_ v10_ v11_) k v10 ([] : List Int) (AbE ([] : (List (Int×Int))) 0 0) 0
    else
      some (v11,0)
def AaS (k : Nat) (v0 : Int) (v1 : (List AaE)) (v2 : (List Int)) : Option ((List (List Int))×Int) :=
  Abh (AdT k v0 v1) fun v5 =>
  if v5≠0 then
    some (([] : List (List Int)),v5)
  else
    Abh (Abz k v0 v1 v2) fun v6 =>
    if (!v6)=true then
      some (([] : List (List Int)),17)
    else
      Abh (AbS k v2) fun v7 =>
      Abh (AdS k v0 v1 v2) fun v8 =>
      AaS.L1 k v1 v8 k 0 v7 ([] : List (List Int))
def Aap.J3 (k : Nat) (v17 : Int) (kb2 : Int→(List Int)→Option (List (List Int))) (v19 : (List Int)) : Option (List (List Int)) :=
  kb2 (IntKind.wrap .i64 (v17+1)) v19
def Aap.L2 (k : Nat) (v5 : Int) (v9 : (List AaE)) (v14 : Int) (v15 : (List (List Int))) (v16 : (List Int)) (kb1 : Int→(List (List Int))→Option (List (List Int))) : Nat→Int→(List Int)→Option (List (List Int))
  | 0,_,_=>none
  | n+1,v17,v18 =>
    if v17<(v16.length : Int) then
      idx v16 v17 fun v20 =>
      idx v9 v20 fun v21 =>
      if v21.To=1 then
        chk ((v18.length+([v5] : List Int).length)*8≤140737488355328) <|
        Aap.J3 k v17 (fun v17_ v18_=>Aap.L2 k v5 v9 v14 v15 v16 kb1 n v17_ v18_) (v18++([v5] : List Int))
      else
        if (Int.tmod v21.To 2)=0 then
          chk ((v18.length+([IntKind.wrap .i64 (Int.tdiv (IntKind.wrap .i64 (v21.To-2)) 2)] : List Int).length)*8≤140737488355328) <|
          Aap.J3 k v17 (fun v17_ v18_=>Aap.L2 k v5 v9 v14 v15 v16 kb1 n v17_ v18_) (v18++([IntKind.wrap .i64 (Int.tdiv (IntKind.wrap .i64 (v21.To-2)) 2)] : List Int))
        else
          Aap.J3 k v17 (fun v17_ v18_=>Aap.L2 k v5 v9 v14 v15 v16 kb1 n v17_ v18_) v18
    else
      chk ((v15.length+([v18] : List (List Int)).length)*24≤140737488355328) <|
      kb1 (IntKind.wrap .i64 (v14+1)) (v15++([v18] : List (List Int)))
def Aap.L1 (k : Nat) (v4 v5 : Int) (v9 : (List AaE)) (v12 : (List (List Int))) : Nat→Int→(List (List Int))→Option (List (List Int))
  | 0,_,_=>none
  | n+1,v14,v15 =>
    if v14<(v12.length : Int) then
      idx v12 v14 fun v16 =>
      Aap.L2 k v5 v9 v14 v15 v16 (fun v14_ v15_=>Aap.L1 k v4 v5 v9 v12 n v14_ v15_) k 0 ([v4] : List Int)
    else
      some v15
def Aap (k : Nat) (v0 : Int) (v1 : (List AaA)) (v2 : (List Int)) (v3 v4 v5 : Int) : Option (List (List Int)) :=
  Abh (Acj k v0 v1 v2 v3 v4 v5) fun v7 =>
  if (!v7)=true then
    some ([] : List (List Int))
  else
    Agh (AaR k v0 v1 v2 v3 v4 v5) fun v8 v9 =>
    Agh (Afc k v8 v9) fun v10 v11 =>
    Agh (AaS k v8 v9 v10) fun v12 v13 =>
    Aap.L1 k v4 v5 v9 v12 k 0 ([] : List (List Int))
def Abe (k : Nat) (v0 : (List AaA)) : Option (List AaA) :=
  chk (v0.length*24≤140737488355328) <| some v0
def Adb (k : Nat) (v0 : Int) (v1 : (List AaA)) (v2 : (List Int)) : Option (Int×(List AaA)×(List Int)) :=
  Abh (Abe k v1) fun v6 =>
  Abh (AbS k v2) fun v7 =>
  some (v0,v6,v7)
def Acp (k : Nat) (v0 v1 v2 v3 : Int) : Option Bool :=
  some (decide (v2<v3))
def AaY.L1 (k : Nat) (v0 : (List AaA)) (v1 : Int) : Nat→Int→Option Int
  | 0,_=>none
  | n+1,v3 =>
    if v3<(v0.length : Int) then
      idx v0 v3 fun v4 =>
      Abh (Acp k v4.From v4.To v4.Level v1) fun v5 =>
      if v5=true then
        some v3
      else
        AaY.L1 k v0 v1 n (IntKind.wrap .i64 (v3+1))
    else
      some (-1)
def AaY (k : Nat) (v0 : (List AaA)) (v1 : Int) : Option Int :=
  AaY.L1 k v0 v1 k 0
def AaJ.J2 (k : Nat) (v5 : Int) (kb1 : Int→Int→(List AaA)→Option (List AaA)) (v7 : (List AaA)) (v8 : Int) : Option (List AaA) :=
  kb1 v8 (IntKind.wrap .i64 (v5+1)) v7
def AaJ.L1 (k : Nat) (v1 : Int) : Nat→Int→Int→(List AaA)→Option (List AaA)
  | 0,_,_,_=>none
  | n+1,v4,v5,v6 =>
    if v5<(v6.length : Int) then
      idx v6 v5 fun v9 =>
      Abh (Acp k v9.From v9.To v9.Level v1) fun v10 =>
      if (!v10)=true then
        idx v6 v4 fun v11 =>
        AaJ.J2 k v5 (fun v4_ v5_ v6_=>AaJ.L1 k v1 n v4_ v5_ v6_) (v6.set (v4).toNat v9) (IntKind.wrap .i64 (v4+1))
      else
        AaJ.J2 k v5 (fun v4_ v5_ v6_=>AaJ.L1 k v1 n v4_ v5_ v6_) v6 v4
    else
      chk ((0 : Int)≤v4∧(v4 : Int)≤((v6.length : Nat) : Int)) <|
      chk (0<v6.length∧(v4).toNat≤v6.length) <|
      Anh (v6.take ((v4).toNat)++List.replicate (v6.length-((v4).toNat)) (AaA.mk 0 0 0)) fun v12 =>
      chk ((0 : Int)≤v4∧(v4 : Int)≤((v12.length : Nat) : Int)) <|
      some (v12.take ((v4).toNat))
def AaJ (k : Nat) (v0 : (List AaA)) (v1 : Int) : Option (List AaA) :=
  Abh (AaY k v0 v1) fun v3 =>
  if v3=(-1) then
    some v0
  else
    AaJ.L1 k v1 k v3 (IntKind.wrap .i64 (v3+1)) v0
def AdJ (k : Nat) (v0 : Int) (v1 : (List AaA)) (v2 : (List Int)) (v3 : Int) : Option (Int×(List AaA)×(List Int)) :=
  AoY (Adb k v0 v1 v2) fun v7 v8 v9 =>
  Abh (AaJ k v8 v3) fun v10 =>
  some (v7,v10,v9)
def Aay.J3 (k : Nat) (v6 v7 : Int) : Option Int :=
  idx (bI (ByteArray.mk #[0,1,2,2,3,3,3,3,4,4,4,4,4,4,4,4,5,5,5,5,5,5,5,5,5,5,5,5,5,5,5,5,6,6,6,6,6,6,6,6,6,6,6,6,6,6,6,6,6,6,6,6,6,6,6,6,6,6,6,6,6,6,6,6,7,7,7,7,7,7,7,7,7,7,7,7,7,7,7,7,7,7,7,7,7,7,7,7,7,7,7,7,7,7,7,7,7,7,7,7,7,7,7,7,7,7,7,7,7,7,7,7,7,7,7,7,7,7,7,7,7,7,7,7,7,7,7,7,8,8,8,8,8,8,8,8,8,8,8,8,8,8,8,8,8,8,8,8,8,8,8,8,8,8,8,8,8,8,8,8,8,8,8,8,8,8,8,8,8,8,8,8,8,8,8,8,8,8,8,8,8,8,8,8,8,8,8,8,8,8,8,8,8,8,8,8,8,8,8,8,8,8,8,8,8,8,8,8,8,8,8,8,8,8,8,8,8,8,8,8,8,8,8,8,8,8,8,8,8,8,8,8,8,8,8,8,8,8,8,8,8,8,8,8,8,8,8,8,8,8,8,8,8,8,8,8])) (IntKind.wrap .u8 v6) fun v8 =>
  some (IntKind.wrap .i64 (v7+IntKind.wrap .i64 v8))
def Aay.J2 (k : Nat) (v4 v5 : Int) : Option Int :=
  if 256≤v4 then
    Aay.J3 k (Int.fdiv v4 (2 ^ (8))) (IntKind.wrap .i64 (v5+8))
  else
    Aay.J3 k v4 v5
def Aay.J1 (k : Nat) (v2 v3 : Int) : Option Int :=
  if 65536≤v2 then
    Aay.J2 k (Int.fdiv v2 (2 ^ (16))) (IntKind.wrap .i64 (v3+16))
  else
    Aay.J2 k v2 v3
def Aay (k : Nat) (v0 : Int) : Option Int :=
  if 4294967296≤v0 then
    Aay.J1 k (Int.fdiv v0 (2 ^ (32))) 32
  else
    Aay.J1 k v0 0
def Acn (k : Nat) (v0 : Int) : Option Int :=
  Abh (Aay k v0) fun v2 =>
  some v2
def AdK (k : Nat) (v0 : Int) : Option Bool :=
  some (v0 !=v0)
def Adn (k : Nat) (v0 v1 : Int) : Option Bool :=
  Abh (AdK k v0) fun v3 =>
  if v3=true then
    Abh (AdK k v1) fun v4 =>
    if (!v4)=true then
      some true
    else
      some (decide (v0<v1))
  else
    some (decide (v0<v1))
def AaL.J2 (k : Nat) (v4 : Int) (kb1 : Int→(List Int)→Option (List Int)) (v6 : (List Int)) : Option (List Int) :=
  kb1 (IntKind.wrap .i64 (v4+1)) v6
def AaL.L3 (k : Nat) (v1 v4 : Int) (kb1 : Int→(List Int)→Option (List Int)) : Nat→Int→(List Int)→Option (List Int)
  | 0,_,_=>none
  | n+1,v7,v8 =>
    if v1<v7 then
      chk ((0 : Int)≤v7∧(v7).toNat<v8.length) <|
      idx v8 v7 fun v9 =>
      chk ((0 : Int)≤(IntKind.wrap .i64 (v7-1))∧(IntKind.wrap .i64 (v7-1)).toNat<v8.length) <|
      idx v8 (IntKind.wrap .i64 (v7-1)) fun v10 =>
      Abh (Adn k v9 v10) fun v11 =>
      if v11=true then
        chk ((0 : Int)≤(IntKind.wrap .i64 (v7-1))∧(IntKind.wrap .i64 (v7-1)).toNat<v8.length) <|
        chk ((0 : Int)≤v7∧(v7).toNat<v8.length) <|
        chk ((0 : Int)≤v7∧(v7).toNat<v8.length) <|
        chk ((0 : Int)≤(IntKind.wrap .i64 (v7-1))∧(IntKind.wrap .i64 (v7-1)).toNat<(v8.set (v7).toNat v10).length) <|
        AaL.L3 k v1 v4 kb1 n (IntKind.wrap .i64 (v7-1)) ((v8.set (v7).toNat v10).set (IntKind.wrap .i64 (v7-1)).toNat v9)
      else
        AaL.J2 k v4 kb1 v8
    else
      AaL.J2 k v4 kb1 v8
def AaL.L1 (k : Nat) (v1 v2 : Int) : Nat→Int→(List Int)→Option (List Int)
  | 0,_,_=>none
  | n+1,v4,v5 =>
    if v4<v2 then
      AaL.L3 k v1 v4 (fun v4_ v5_=>AaL.L1 k v1 v2 n v4_ v5_) k v4 v5
    else
      some v5
def AaL (k : Nat) (v0 : (List Int)) (v1 v2 : Int) : Option (List Int) :=
  AaL.L1 k v1 v2 k (IntKind.wrap .i64 (v1+1)) v0
def Aa2.L1 (k : Nat) (v0 : (List Int)) (v1 v2 v3 : Int) : Nat→Option (List Int)
  | 0=>none
  | n+1 =>
    if IntKind.wrap .i64 (v2-v1)≤12 then
      Abh (AaL k v0 v1 v2) fun v5 =>
      chk (v5.length=v0.length) <|
      some v5
    else
      if v3=0 then
        none
      else
        none
def Aa2 (k : Nat) (v0 : (List Int)) (v1 v2 v3 : Int) : Option (List Int) :=
  Aa2.L1 k v0 v1 v2 v3 k
def AcB (k : Nat) (v0 : (List Int)) : Option (List Int) :=
  Abh (Acn k (IntKind.wrap .u64 (v0.length : Int))) fun v2 =>
  Abh (Aa2 k v0 0 (v0.length : Int) v2) fun v3 =>
  chk (v3.length=v0.length) <|
  some v3
def AbH.J2 (k : Nat) (v5 : Int) (kb1 : Int→(List Int)→Option (List Int)) (v7 : (List Int)) : Option (List Int) :=
  kb1 (IntKind.wrap .i64 (v5+1)) v7
def AbH.L1 (k : Nat) (v1 : (List AaA)) (v3 : Int) : Nat→Int→(List Int)→Option (List Int)
  | 0,_,_=>none
  | n+1,v5,v6 =>
    if v5<(v1.length : Int) then
      idx v1 v5 fun v8 =>
      if v8.From=v3 then
        chk ((v6.length+([v8.To] : List Int).length)*8≤140737488355328) <|
        AbH.J2 k v5 (fun v5_ v6_=>AbH.L1 k v1 v3 n v5_ v6_) (v6++([v8.To] : List Int))
      else
        AbH.J2 k v5 (fun v5_ v6_=>AbH.L1 k v1 v3 n v5_ v6_) v6
    else
      Abh (AcB k v6) fun v9 =>
      chk (v9.length=v6.length) <|
      some v9
def AbH (k : Nat) (v0 : Int) (v1 : (List AaA)) (v2 : (List Int)) (v3 : Int) : Option (List Int) :=
  AbH.L1 k v1 v3 k 0 ([] : List Int)
def Abp (k : Nat) (v0 v1 : Int) (v2 : (List AaA)) (v3 : (List Int)) (v4 v5 v6 : Int) (v7 : (List (Int×Bool))) (v8 : Bool) (v9 : Int) : Option Bool :=
  AgR (AcI v7 v0) (fun v11 =>
    if v11=true then
      some true
    else
      if v9=v5 then
        if v0=v6 then
          some v8
        else
          some false
      else
        some false
  ) <|
  if v9=v5 then
    if v0=v6 then
      some v8
    else
      some false
  else
    some false
def Aab.L1 (k : Nat) (v0 : (List Int)) (v1 : Int) (v2 : (List AaA)) (v3 : (List Int)) (v4 v5 v6 : Int) (v7 : (List (Int×Bool))) (v8 : Bool) (v9 : Int) : Nat→Int→Option Int
  | 0,_=>none
  | n+1,v11 =>
    if v11<(v0.length : Int) then
      chk ((0 : Int)≤v11∧(v11).toNat<v0.length) <|
      idx v0 v11 fun v12 =>
      Abh (Abp k v12 v1 v2 v3 v4 v5 v6 v7 v8 v9) fun v13 =>
      if v13=true then
        some v11
      else
        Aab.L1 k v0 v1 v2 v3 v4 v5 v6 v7 v8 v9 n (IntKind.wrap .i64 (v11+1))
    else
      some (-1)
def Aab (k : Nat) (v0 : (List Int)) (v1 : Int) (v2 : (List AaA)) (v3 : (List Int)) (v4 v5 v6 : Int) (v7 : (List (Int×Bool))) (v8 : Bool) (v9 : Int) : Option Int :=
  Aab.L1 k v0 v1 v2 v3 v4 v5 v6 v7 v8 v9 k 0
def AaQ.J2 (k : Nat) (v13 : Int) (kb1 : Int→Int→(List Int)→Option (List Int)) (v15 : (List Int)) (v16 : Int) : Option (List Int) :=
  kb1 v16 (IntKind.wrap .i64 (v13+1)) v15
def AaQ.L1 (k : Nat) (v1 : Int) (v2 : (List AaA)) (v3 : (List Int)) (v4 v5 v6 : Int) (v7 : (List (Int×Bool))) (v8 : Bool) (v9 : Int) : Nat→Int→Int→(List Int)→Option (List Int)
  | 0,_,_,_=>none
  | n+1,v12,v13,v14 =>
    if v13<(v14.length : Int) then
      chk ((0 : Int)≤v13∧(v13).toNat<v14.length) <|
      idx v14 v13 fun v17 =>
      Abh (Abp k v17 v1 v2 v3 v4 v5 v6 v7 v8 v9) fun v18 =>
      if (!v18)=true then
        chk ((0 : Int)≤v12∧(v12).toNat<v14.length) <|
        AaQ.J2 k v13 (fun v12_ v13_ v14_=>AaQ.L1 k v1 v2 v3 v4 v5 v6 v7 v8 v9 n v12_ v13_ v14_) (v14.set (v12).toNat v17) (IntKind.wrap .i64 (v12+1))
      else
        AaQ.J2 k v13 (fun v12_ v13_ v14_=>AaQ.L1 k v1 v2 v3 v4 v5 v6 v7 v8 v9 n v12_ v13_ v14_) v14 v12
    else
      chk ((0 : Int)≤v12∧(v12 : Int)≤((v14.length : Nat) : Int)) <|
      chk (0<v14.length∧(v12).toNat≤v14.length) <|
      Anh (v14.take ((v12).toNat)++List.replicate (v14.length-((v12).toNat)) 0) fun v19 =>
      chk ((0 : Int)≤v12∧(v12 : Int)≤((v19.length : Nat) : Int)) <|
      some (v19.take ((v12).toNat))
def AaQ (k : Nat) (v0 : (List Int)) (v1 : Int) (v2 : (List AaA)) (v3 : (List Int)) (v4 v5 v6 : Int) (v7 : (List (Int×Bool))) (v8 : Bool) (v9 : Int) : Option (List Int) :=
  Abh (Aab k v0 v1 v2 v3 v4 v5 v6 v7 v8 v9) fun v11 =>
  if v11=(-1) then
    some v0
  else
    AaQ.L1 k v1 v2 v3 v4 v5 v6 v7 v8 v9 k v11 (IntKind.wrap .i64 (v11+1)) v0
def AbU (k : Nat) (v0 : Int) (v1 : (List AaA)) (v2 : (List Int)) (v3 v4 v5 : Int) (v6 : (List (Int×Bool))) (v7 : Bool) (v8 : Int) : Option (List Int) :=
  AoY (AdJ k v0 v1 v2 v3) fun v10 v11 v12 =>
  Abh (AbH k v10 v11 v12 v8) fun v13 =>
  Abh (AaQ k v13 v0 v1 v2 v3 v4 v5 v6 v7 v8) fun v14 =>
  some v14
def Aa1.L1 (k : Nat) (v0 : (List Int)) (v1 : Int) : Nat→Int→Option Int
  | 0,_=>none
  | n+1,v3 =>
    if v3<(v0.length : Int) then
      idx v0 v3 fun v4 =>
      if v1=v4 then
        some v3
      else
        Aa1.L1 k v0 v1 n (IntKind.wrap .i64 (v3+1))
    else
      some (-1)
def Aa1 (k : Nat) (v0 : (List Int)) (v1 : Int) : Option Int :=
  Aa1.L1 k v0 v1 k 0
def Aba (k : Nat) (v0 : (List Int)) (v1 : Int) : Option Bool :=
  Abh (Aa1 k v0 v1) fun v3 =>
  some (decide (0≤v3))
def Abi (k : Nat) (v0 : Int) (v1 : (List (Int×Bool))) (v2 : (List (Int×(List Int)))) (v3 : Int) : Option Bool :=
  AgR (AcI v1 v0) (fun v5 =>
    if v5=true then
      AgR (AcI v2 v0) (fun v6 =>
        Abh (Aba k v6 v3) fun v7 =>
        some v7
      ) <|
      Abh (Aba k ([] : List Int) v3) fun v8 =>
      some v8
    else
      some false
  ) <|
  some false
def Aag.L1 (k : Nat) (v0 : (List Int)) (v1 : (List (Int×Bool))) (v2 : (List (Int×(List Int)))) (v3 : Int) : Nat→Int→Option Int
  | 0,_=>none
  | n+1,v5 =>
    if v5<(v0.length : Int) then
      idx v0 v5 fun v6 =>
      Abh (Abi k v6 v1 v2 v3) fun v7 =>
      if v7=true then
        some v5
      else
        Aag.L1 k v0 v1 v2 v3 n (IntKind.wrap .i64 (v5+1))
    else
      some (-1)
def Aag (k : Nat) (v0 : (List Int)) (v1 : (List (Int×Bool))) (v2 : (List (Int×(List Int)))) (v3 : Int) : Option Int :=
  Aag.L1 k v0 v1 v2 v3 k 0
def AaB.J3 (k : Nat) (v17 : Int) (kb2 : Nat→Int→(List (Int×Int))→(List (Int×(List Int)))→(List Int)→Option (List Int)) (v21 : (List (Int×Int))) (v22 : (List (Int×(List Int)))) (v23 : (List Int)) (v24 : Nat) : Option (List Int) :=
  kb2 v24 (IntKind.wrap .i64 (v17+1)) v21 v22 v23
def AaB.J6 (k : Nat) (v14 v17 : Int) (v19 : (List (Int×(List Int)))) (v25 : Int) (v28 : (List (Int×Int))) (v29 : (List Int)) (v30 : Nat) (kb2 : Nat→Int→(List (Int×Int))→(List (Int×(List Int)))→(List Int)→Option (List Int)) (v32 : Bool) : Option (List Int) :=
  if v32=true then
    chk (v19.length<1000) <|
    AgR (AcI v19 v25) (fun v33 =>
      chk ((v33.length+([v14] : List Int).length)*8≤140737488355328) <|
      AaB.J3 k v17 kb2 v28 (AbE v19 v25 (v33++([v14] : List Int))) v29 v30
    ) <|
    chk (([v14] : List Int).length*8≤140737488355328) <|
    AaB.J3 k v17 kb2 v28 (AbE v19 v25 ([v14] : List Int)) v29 v30
  else
    AaB.J3 k v17 kb2 v28 v19 v29 v30
def AaB.J5 (k : Nat) (v14 v17 : Int) (v19 : (List (Int×(List Int)))) (v25 : Int) (kb2 : Nat→Int→(List (Int×Int))→(List (Int×(List Int)))→(List Int)→Option (List Int)) (v28 : (List (Int×Int))) (v29 : (List Int)) (v30 : Nat) (v31 : Int) : Option (List Int) :=
  AgR (AcI v28 v14) (fun v34 =>
    AaB.J6 k v14 v17 v19 v25 v28 v29 v30 kb2 (v31==(IntKind.wrap .i64 (v34+1)))
  ) <|
  AaB.J6 k v14 v17 v19 v25 v28 v29 v30 kb2 (v31==(IntKind.wrap .i64 (0+1)))
def AaB.J7 (k : Nat) (v14 : Int) (v16 : Nat) (v17 : Int) (v19 : (List (Int×(List Int)))) (v20 : (List Int)) (v25 : Int) (kb2 : Nat→Int→(List (Int×Int))→(List (Int×(List Int)))→(List Int)→Option (List Int)) (v35 : (List (Int×Int))) (v36 : Int) : Option (List Int) :=
  chk (((v20.drop v16).length+([v25] : List Int).length)*8≤140737488355328∧v16≤v20.length) <|
  AaB.J5 k v14 v17 v19 v25 kb2 v35 ((v20.drop v16)++([v25] : List Int)) 0 v36
def AaB.J4 (k : Nat) (v14 : Int) (v16 : Nat) (v17 : Int) (v18 : (List (Int×Int))) (v19 : (List (Int×(List Int)))) (v20 : (List Int)) (v25 : Int) (kb2 : Nat→Int→(List (Int×Int))→(List (Int×(List Int)))→(List Int)→Option (List Int)) (v26 : Int) (v27 : Bool) : Option (List Int) :=
  if (!v27)=true then
    AgR (AcI v18 v14) (fun v37 =>
      AaB.J7 k v14 v16 v17 v19 v20 v25 kb2 (AbE v18 v25 (IntKind.wrap .i64 (v37+1))) (IntKind.wrap .i64 (v37+1))
    ) <|
    AaB.J7 k v14 v16 v17 v19 v20 v25 kb2 (AbE v18 v25 (IntKind.wrap .i64 (0+1))) (IntKind.wrap .i64 (0+1))
  else
    AaB.J5 k v14 v17 v19 v25 kb2 v18 v20 v16 v26
def AaB.L2 (k : Nat) (v14 : Int) (v15 : (List Int)) (kb1 : Nat→(List (Int×Int))→(List (Int×(List Int)))→(List Int)→Option (List Int)) : Nat→Nat→Int→(List (Int×Int))→(List (Int×(List Int)))→(List Int)→Option (List Int)
  | 0,_,_,_,_,_=>none
  | n+1,v16,v17,v18,v19,v20 =>
    if v17<(v15.length : Int) then
      idx v15 v17 fun v25 =>
      AgR (AcI v18 v25) (fun v38 =>
        AaB.J4 k v14 v16 v17 v18 v19 v20 v25 (fun v16_ v17_ v18_ v19_ v20_=>AaB.L2 k v14 v15 kb1 n v16_ v17_ v18_ v19_ v20_) v38 true
      ) <|
      AaB.J4 k v14 v16 v17 v18 v19 v20 v25 (fun v16_ v17_ v18_ v19_ v20_=>AaB.L2 k v14 v15 kb1 n v16_ v17_ v18_ v19_ v20_) 0 false
    else
      chk (0<v20.length∧(1 : Int)≤(((v20.length-v16) : Nat) : Int)) <|
      kb1 (v16+(1 : Int).toNat) v18 v19 v20
def AaB.J12 (k : Nat) (v47 : Int) (kb11 : Nat→Int→(List (Int×Bool))→(List Int)→Option (List Int)) (v50 : (List (Int×Bool))) (v51 : (List Int)) (v52 : Nat) : Option (List Int) :=
  kb11 v52 (IntKind.wrap .i64 (v47+1)) v50 v51
def AaB.L11 (k : Nat) (v44 : (List Int)) (v45 : Int) (kb9 : Nat→(List (Int×Bool))→(List Int)→Option (List Int)) : Nat→Nat→Int→(List (Int×Bool))→(List Int)→Option (List Int)
  | 0,_,_,_,_=>none
  | n+1,v46,v47,v48,v49 =>
    if v47<v45 then
      idx v44 v47 fun v53 =>
      AgR (AcI v48 v53) (fun v54 =>
        if (!v54)=true then
          chk (((v49.drop v46).length+([v53] : List Int).length)*8≤140737488355328∧v46≤v49.length) <|
          AaB.J12 k v47 (fun v46_ v47_ v48_ v49_=>AaB.L11 k v44 v45 kb9 n v46_ v47_ v48_ v49_) (AbE v48 v53 true) ((v49.drop v46)++([v53] : List Int)) 0
        else
          AaB.J12 k v47 (fun v46_ v47_ v48_ v49_=>AaB.L11 k v44 v45 kb9 n v46_ v47_ v48_ v49_) v48 v49 v46
      ) <|
      chk (((v49.drop v46).length+([v53] : List Int).length)*8≤140737488355328∧v46≤v49.length) <|
      AaB.J12 k v47 (fun v46_ v47_ v48_ v49_=>AaB.L11 k v44 v45 kb9 n v46_ v47_ v48_ v49_) (AbE v48 v53 true) ((v49.drop v46)++([v53] : List Int)) 0
    else
      chk (0<v49.length∧(1 : Int)≤(((v49.length-v46) : Nat) : Int)) <|
      kb9 (v46+(1 : Int).toNat) v48 v49
def AaB.J10 (k v41 : Nat) (v42 : (List (Int×Bool))) (v43 : (List Int)) (kb9 : Nat→(List (Int×Bool))→(List Int)→Option (List Int)) (v44 : (List Int)) (v45 : Int) : Option (List Int) :=
  AaB.L11 k v44 v45 kb9 k v41 0 v42 v43
def AaB.L13 (k : Nat) (v0 : Int) (v1 : (List AaA)) (v2 : (List Int)) (v3 v4 v5 : Int) (v6 : (List (Int×Bool))) (v7 : Bool) (v12 : (List (Int×(List Int)))) (v42 : (List (Int×Bool))) : Nat→(List Int)→Int→Option (List Int)
  | 0,_,_=>none
  | n+1,v57,v58 =>
    if v58≠v5 then
      Abh (AbU k v0 v1 v2 v3 v4 v5 v6 v7 v58) fun v59 =>
      Abh (Aag k v59 v42 v12 v58) fun v60 =>
      idx v59 v60 fun v61 =>
      chk ((v57.length+([v61] : List Int).length)*8≤140737488355328) <|
      AaB.L13 k v0 v1 v2 v3 v4 v5 v6 v7 v12 v42 n (v57++([v61] : List Int)) v61
    else
      chk (¬ v57 = []) <|
      some v57
def AaB.L9 (k : Nat) (v0 : Int) (v1 : (List AaA)) (v2 : (List Int)) (v3 v4 v5 : Int) (v6 : (List (Int×Bool))) (v7 : Bool) (v12 : (List (Int×(List Int)))) : Nat→Nat→(List (Int×Bool))→(List Int)→Option (List Int)
  | 0,_,_,_=>none
  | n+1,v41,v42,v43 =>
    if 0<(((v43.length-v41) : Nat) : Int) then
      chk ((0 : Int)≤0∧(0 : Int).toNat<(v43.length-v41)∧v41+(0 : Int).toNat<v43.length) <|
      idx v43 ((v41+(0 : Int).toNat : Nat) : Int) fun v55 =>
      AgR (AcI v12 v55) (fun v56 =>
        AaB.J10 k v41 v42 v43 (fun v41_ v42_ v43_=>AaB.L9 k v0 v1 v2 v3 v4 v5 v6 v7 v12 n v41_ v42_ v43_) v56 (v56.length : Int)
      ) <|
      AaB.J10 k v41 v42 v43 (fun v41_ v42_ v43_=>AaB.L9 k v0 v1 v2 v3 v4 v5 v6 v7 v12 n v41_ v42_ v43_) ([] : List Int) (([] : List Int).length : Int)
    else
      AaB.L13 k v0 v1 v2 v3 v4 v5 v6 v7 v12 v42 k ([v4] : List Int) v4
def AaB.J8 (k : Nat) (v0 : Int) (v1 : (List AaA)) (v2 : (List Int)) (v3 v4 v5 : Int) (v6 : (List (Int×Bool))) (v7 : Bool) (v8 : Int) (v12 : (List (Int×(List Int)))) (v39 : Int) (v40 : Bool) : Option (List Int) :=
  if (!v40)=true then
    some ([] : List Int)
  else
    if v8<v39 then
      some ([] : List Int)
    else
      AaB.L9 k v0 v1 v2 v3 v4 v5 v6 v7 v12 k 0 (AbE ([] : (List (Int×Bool))) v5 true) ([v5] : List Int)
def AaB.L1 (k : Nat) (v0 : Int) (v1 : (List AaA)) (v2 : (List Int)) (v3 v4 v5 : Int) (v6 : (List (Int×Bool))) (v7 : Bool) (v8 : Int) : Nat→Nat→(List (Int×Int))→(List (Int×(List Int)))→(List Int)→Option (List Int)
  | 0,_,_,_,_=>none
  | n+1,v10,v11,v12,v13 =>
    if 0<(((v13.length-v10) : Nat) : Int) then
      chk ((0 : Int)≤0∧(0 : Int).toNat<(v13.length-v10)∧v10+(0 : Int).toNat<v13.length) <|
      idx v13 ((v10+(0 : Int).toNat : Nat) : Int) fun v14 =>
      Abh (AbU k v0 v1 v2 v3 v4 v5 v6 v7 v14) fun v15 =>
      AaB.L2 k v14 v15 (fun v10_ v11_ v12_ v13_=>AaB.L1 k v0 v1 v2 v3 v4 v5 v6 v7 v8 n v10_ v11_ v12_ v13_) k v10 0 v11 v12 v13
    else
      chk (v12.length≤1000) <|
      AgR (AcI v11 v5) (fun v62 =>
        AaB.J8 k v0 v1 v2 v3 v4 v5 v6 v7 v8 v12 v62 true
      ) <|
      AaB.J8 k v0 v1 v2 v3 v4 v5 v6 v7 v8 v12 0 false
def AaB (k : Nat) (v0 : Int) (v1 : (List AaA)) (v2 : (List Int)) (v3 v4 v5 : Int) (v6 : (List (Int×Bool))) (v7 : Bool) (v8 : Int) : Option (List Int) :=
  AaB.L1 k v0 v1 v2 v3 v4 v5 v6 v7 v8 k 0 (AbE ([] : (List (Int×Int))) v4 0) ([] : List (Int×List Int)) ([v4] : List Int)
def Aao.J2 (k : Nat) (v0 : Int) (v1 : (List AaA)) (v2 : (List Int)) (v3 v4 v5 v6 : Int) (v10 : (List Int)) (v13 : (List (List Int))) (kb1 : (List Int)→Bool→(List (Int×Bool))→(List (List Int))→Option (List (List Int))) (v14 : (List (Int×Bool))) (v15 : Bool) : Option (List (List Int)) :=
  Abh (AaB k v0 v1 v2 v3 v4 v5 v14 v15 v6) fun v16 =>
  kb1 v16 v15 v14 (v13++([v10] : List (List Int)))
def Aao.L3 (k : Nat) (v0 : Int) (v1 : (List AaA)) (v2 : (List Int)) (v3 v4 v5 v6 : Int) (v10 : (List Int)) (v11 : Bool) (v13 : (List (List Int))) (kb1 : (List Int)→Bool→(List (Int×Bool))→(List (List Int))→Option (List (List Int))) : Nat→Int→(List (Int×Bool))→Option (List (List Int))
  | 0,_,_=>none
  | n+1,v17,v18 =>
    if v17<(((v10.take (IntKind.wrap .i64 ((v10.length : Int)-1)).toNat).drop (1 : Int).toNat).length : Int) then
      idx ((v10.take (IntKind.wrap .i64 ((v10.length : Int)-1)).toNat).drop (1 : Int).toNat) v17 fun v19 =>
      Aao.L3 k v0 v1 v2 v3 v4 v5 v6 v10 v11 v13 kb1 n (IntKind.wrap .i64 (v17+1)) (AbE v18 v19 true)
    else
      if v11=true then
        Aao.J2 k v0 v1 v2 v3 v4 v5 v6 v10 v13 kb1 v18 true
      else
        Aao.J2 k v0 v1 v2 v3 v4 v5 v6 v10 v13 kb1 v18 ((v10.length : Int)==2)
def Aao.L1 (k : Nat) (v0 : Int) (v1 : (List AaA)) (v2 : (List Int)) (v3 v4 v5 v6 : Int) : Nat→(List Int)→Bool→(List (Int×Bool))→(List (List Int))→Option (List (List Int))
  | 0,_,_,_,_=>none
  | n+1,v10,v11,v12,v13 =>
    if (!List.isEmpty v10)=true then
      chk ((v13.length+([v10] : List (List Int)).length)*24≤140737488355328) <|
      chk ((1 : Int)≤IntKind.wrap .i64 ((v10.length : Int)-1)∧(IntKind.wrap .i64 ((v10.length : Int)-1) : Int)≤(v10.length : Int)) <|
      Aao.L3 k v0 v1 v2 v3 v4 v5 v6 v10 v11 v13 (fun v10_ v11_ v12_ v13_=>Aao.L1 k v0 v1 v2 v3 v4 v5 v6 n v10_ v11_ v12_ v13_) k 0 v12
    else
      some v13
def Aao (k : Nat) (v0 : Int) (v1 : (List AaA)) (v2 : (List Int)) (v3 v4 v5 v6 : Int) : Option (List (List Int)) :=
  Abh (Acj k v0 v1 v2 v3 v4 v5) fun v8 =>
  if (!v8)=true then
    some ([] : List (List Int))
  else
    Abh (AaB k v0 v1 v2 v3 v4 v5 ([] : (List (Int×Bool))) false v6) fun v9 =>
    Aao.L1 k v0 v1 v2 v3 v4 v5 v6 k v9 false ([] : (List (Int×Bool))) ([] : List (List Int))
def AdQ (k : Nat) (v0 : Int) (v1 : (List AaA)) (v2 : (List Int)) (v3 v4 v5 : Int) : Option Int :=
  Abh (Acj k v0 v1 v2 v3 v4 v5) fun v7 =>
  if (!v7)=true then
    some 0
  else
    Agh (AaR k v0 v1 v2 v3 v4 v5) fun v8 v9 =>
    Agh (Afc k v8 v9) fun v10 v11 =>
    Abh (AdS k v8 v9 v10) fun v12 =>
    some v12
def AfE (k : Nat) (v0 v1 v2 v3 v4 v5 : Int) : Option Bool :=
  if v0=v3 then
    if v1=v4 then
      some (decide (v5≤v2))
    else
      some false
  else
    some false
def Aak.L1 (k : Nat) (v0 : (List AaA)) (v1 v2 v3 : Int) : Nat→Int→Option Int
  | 0,_=>none
  | n+1,v5 =>
    if v5<(v0.length : Int) then
      idx v0 v5 fun v6 =>
      Abh (AfE k v6.From v6.To v6.Level v1 v2 v3) fun v7 =>
      if v7=true then
        some v5
      else
        Aak.L1 k v0 v1 v2 v3 n (IntKind.wrap .i64 (v5+1))
    else
      some (-1)
def Aak (k : Nat) (v0 : (List AaA)) (v1 v2 v3 : Int) : Option Int :=
  Aak.L1 k v0 v1 v2 v3 k 0
def AbJ (k : Nat) (v0 : (List AaA)) (v1 v2 v3 : Int) : Option Bool :=
  Abh (Aak k v0 v1 v2 v3) fun v5 =>
  some (decide (0≤v5))
def Agv (k : Nat) (v0 : Int) (v1 : (List AaA)) (v2 : (List Int)) (v3 v4 v5 : Int) : Option Bool :=
  Abh (AbJ k v1 v4 v5 v3) fun v7 =>
  some v7
def Aaj.J6 (k : Nat) (v13 : (List Int)) (v15 : Int) (v16 : (List (Int×Bool))) (kb5 : Int→(List (Int×Bool))→Option Bool) : Option Bool :=
  idx v13 v15 fun v17 =>
  kb5 (IntKind.wrap .i64 (v15+1)) (AbE v16 v17 true)
def Aaj.L5 (k : Nat) (v0 : Int) (v1 : (List AaA)) (v2 : (List Int)) (v3 v11 : Int) (v13 : (List Int)) (v14 : Bool) (kb2 : Bool→Int→(List (Int×Bool))→Option Bool) : Nat→Int→(List (Int×Bool))→Option Bool
  | 0,_,_=>none
  | n+1,v15,v16 =>
    if v15<(v13.length : Int) then
      idx v13 (IntKind.wrap .i64 (v15-1)) fun v18 =>
      idx v13 v15 fun v19 =>
      Abh (Agv k v0 v1 v2 v3 v18 v19) fun v20 =>
      if (!v20)=true then
        some false
      else
        if v15<IntKind.wrap .i64 ((v13.length : Int)-1) then
          AgR (AcI v16 v19) (fun v21 =>
            if v21=true then
              some false
            else
              Aaj.J6 k v13 v15 v16 (fun v15_ v16_=>Aaj.L5 k v0 v1 v2 v3 v11 v13 v14 kb2 n v15_ v16_)
          ) <|
          Aaj.J6 k v13 v15 v16 (fun v15_ v16_=>Aaj.L5 k v0 v1 v2 v3 v11 v13 v14 kb2 n v15_ v16_)
        else
          Aaj.J6 k v13 v15 v16 (fun v15_ v16_=>Aaj.L5 k v0 v1 v2 v3 v11 v13 v14 kb2 n v15_ v16_)
    else
      kb2 v14 (IntKind.wrap .i64 (v11+1)) v16
def Aaj.J4 (k : Nat) (v0 : Int) (v1 : (List AaA)) (v2 : (List Int)) (v3 v11 : Int) (v12 : (List (Int×Bool))) (v13 : (List Int)) (kb2 : Bool→Int→(List (Int×Bool))→Option Bool) (v14 : Bool) : Option Bool :=
  Aaj.L5 k v0 v1 v2 v3 v11 v13 v14 kb2 k 1 v12
def Aaj.J3 (k : Nat) (v0 : Int) (v1 : (List AaA)) (v2 : (List Int)) (v3 : Int) (v10 : Bool) (v11 : Int) (v12 : (List (Int×Bool))) (v13 : (List Int)) (kb2 : Bool→Int→(List (Int×Bool))→Option Bool) : Option Bool :=
  if v10=true then
    Aaj.J4 k v0 v1 v2 v3 v11 v12 v13 kb2 true
  else
    Aaj.J4 k v0 v1 v2 v3 v11 v12 v13 kb2 ((v13.length : Int)==2)
def Aaj.L2 (k : Nat) (v0 : Int) (v1 : (List AaA)) (v2 : (List Int)) (v3 v4 v5 : Int) (v6 : (List (List Int))) : Nat→Bool→Int→(List (Int×Bool))→Option Bool
  | 0,_,_,_=>none
  | n+1,v10,v11,v12 =>
    if v11<(v6.length : Int) then
      idx v6 v11 fun v13 =>
      if (v13.length : Int)<2 then
        some false
      else
        idx v13 0 fun v22 =>
        if v22≠v4 then
          some false
        else
          idx v13 (IntKind.wrap .i64 ((v13.length : Int)-1)) fun v23 =>
          if v23≠v5 then
            some false
          else
            if (v13.length : Int)=2 then
              if v10=true then
                some false
              else
                Aaj.J3 k v0 v1 v2 v3 v10 v11 v12 v13 (fun v10_ v11_ v12_=>Aaj.L2 k v0 v1 v2 v3 v4 v5 v6 n v10_ v11_ v12_)
            else
              Aaj.J3 k v0 v1 v2 v3 v10 v11 v12 v13 (fun v10_ v11_ v12_=>Aaj.L2 k v0 v1 v2 v3 v4 v5 v6 n v10_ v11_ v12_)
    else
      some true
def Aaj.J1 (k : Nat) (v0 : Int) (v1 : (List AaA)) (v2 : (List Int)) (v3 v4 v5 : Int) (v6 : (List (List Int))) (v9 : (List (Int×Bool))) : Option Bool :=
  Aaj.L2 k v0 v1 v2 v3 v4 v5 v6 k false 0 v9
def Aaj (k : Nat) (v0 : Int) (v1 : (List AaA)) (v2 : (List Int)) (v3 v4 v5 : Int) (v6 : (List (List Int))) : Option Bool :=
  Abh (Acj k v0 v1 v2 v3 v4 v5) fun v8 =>
  if (!v8)=true then
    some ((v6.length : Int)==0)
  else
    Aq1 (Aaj.J1 k v0 v1 v2 v3 v4 v5 v6 (AbE (AbE ([] : (List (Int×Bool))) v4 true) v5 true)) (Aaj.J1 k v0 v1 v2 v3 v4 v5 v6 (AbE (AbE ([] : (List (Int×Bool))) v5 true) v4 true))
def AeC (k : Nat) : Option Bool :=
  Abh (Aap k 4 ([(AaA.mk 0 1 1),(AaA.mk 0 2 2),(AaA.mk 1 3 1),(AaA.mk 2 3 2)] : List AaA) ([] : List Int) 1 0 3) fun v1 =>
  Abh (Aao k 4 ([(AaA.mk 0 1 1),(AaA.mk 0 2 2),(AaA.mk 1 3 1),(AaA.mk 2 3 2)] : List AaA) ([] : List Int) 1 0 3 2) fun v2 =>
  Abh (AdQ k 4 ([(AaA.mk 0 1 1),(AaA.mk 0 2 2),(AaA.mk 1 3 1),(AaA.mk 2 3 2)] : List AaA) ([] : List Int) 1 0 3) fun v3 =>
  if v3=2 then
    Abh (AdQ k 4 ([(AaA.mk 0 1 1),(AaA.mk 0 2 2),(AaA.mk 1 3 1),(AaA.mk 2 3 2)] : List AaA) ([] : List Int) 2 0 3) fun v4 =>
    if v4=1 then
      if (v1.length : Int)=2 then
        Abh (Aaj k 4 ([(AaA.mk 0 1 1),(AaA.mk 0 2 2),(AaA.mk 1 3 1),(AaA.mk 2 3 2)] : List AaA) ([] : List Int) 1 0 3 v1) fun v5 =>
        if v5=true then
          if (v2.length : Int)=2 then
            idx v2 0 fun v6 =>
            if (v6.length : Int)=3 then
              idx v6 1 fun v7 =>
              if v7=1 then
                Abh (Aaj k 4 ([(AaA.mk 0 1 1),(AaA.mk 0 2 2),(AaA.mk 1 3 1),(AaA.mk 2 3 2)] : List AaA) ([] : List Int) 2 0 3 v1) fun v8 =>
                some (!v8)
              else
                some false
            else
              some false
          else
            some false
        else
          some false
      else
        some false
    else
      some false
  else
    some false
def AgV (k : Nat) (v0 : (List Int)) : Option ((List Int)×Int) :=
  some (v0,0)
def Acd.J1 (k : Nat) (v3 : Int) : Option Int :=
  some v3
def Acd (k : Nat) (v0 v1 : Int) : Option Int :=
  if v1<1 then
    some 0
  else
    chk (v1≠(0 : Int)) <|
    if Int.tmod v0 v1<0 then
      Acd.J1 k (IntKind.wrap .i64 (Int.tmod v0 v1+v1))
    else
      Acd.J1 k (Int.tmod v0 v1)
def AbI (k : Nat) (v0 : (List Int)) (v1 v2 : Int) : Option (Int×Int) :=
  if (v0.length : Int)≤v1 then
    some (0,v1)
  else
    idx v0 (IntKind.wrap .i64 (IntKind.wrap .i64 (v1+1)-1)) fun v5 =>
    Abh (Acd k v5 v2) fun v6 =>
    some (v6,IntKind.wrap .i64 (v1+1))
def Ad1 (k : Nat) (v0 : (List Int)) (v1 v2 : Int) : Option (Bool×Int) :=
  Agh (AbI k v0 v1 v2) fun v5 v6 =>
  some ((v5==(IntKind.wrap .i64 (v2-1))),v6)
def Abl.J2 (k : Nat) (v3 : Int) (kb1 : Int→Option Bool) : Option Bool :=
  kb1 (IntKind.wrap .i64 (v3+1))
def Abl.L1 (k : Nat) (v0 : (List Int)) (v1 : Int) : Nat→Int→Option Bool
  | 0,_=>none
  | n+1,v3 =>
    if v3<(v0.length : Int) then
      idx v0 v3 fun v4 =>
      if v4<0 then
        some false
      else
        if v1≤v4 then
          some false
        else
          if 0<v3 then
            idx v0 (IntKind.wrap .i64 (v3-1)) fun v5 =>
            if v4≤v5 then
              some false
            else
              Abl.J2 k v3 (fun v3_=>Abl.L1 k v0 v1 n v3_)
          else
            Abl.J2 k v3 (fun v3_=>Abl.L1 k v0 v1 n v3_)
    else
      some true
def Abl (k : Nat) (v0 : (List Int)) (v1 : Int) : Option Bool :=
  Abl.L1 k v0 v1 k 0
def AbM.L1 (k : Nat) (v0 : (List Int)) (v1 : Int) : Nat→Int→Option Bool
  | 0,_=>none
  | n+1,v3 =>
    if v3<(v0.length : Int) then
      idx v0 v3 fun v4 =>
      if v4=v1 then
        some true
      else
        AbM.L1 k v0 v1 n (IntKind.wrap .i64 (v3+1))
    else
      some false
def AbM (k : Nat) (v0 : (List Int)) (v1 : Int) : Option Bool :=
  AbM.L1 k v0 v1 k 0
def Ac5 (k : Nat) (v0 v1 v2 v3 v4 v5 : Int) : Option Bool :=
  if v0<v3 then
    some true
  else
    if v0=v3 then
      some (decide (v1<v4))
    else
      some false
def Aa0.J2 (k : Nat) (v5 : Int) (kb1 : Int→Option Int) (v7 : Bool) : Option Int :=
  if v7=true then
    some 14
  else
    kb1 (IntKind.wrap .i64 (v5+1))
def Aa0.L1 (k : Nat) (v0 : Int) (v1 : (List AaA)) (v2 : (List Int)) : Nat→Int→Option Int
  | 0,_=>none
  | n+1,v5 =>
    if v5<(v1.length : Int) then
      idx v1 v5 fun v6 =>
      if v6.From<0 then
        some 14
      else
        if v0≤v6.From then
          some 14
        else
          if v6.To<0 then
            some 14
          else
            if v0≤v6.To then
              some 14
            else
              if v6.From=v6.To then
                some 14
              else
                if v6.Level<1 then
                  some 14
                else
                  if 3<v6.Level then
                    some 14
                  else
                    if 0<v5 then
                      idx v1 (IntKind.wrap .i64 (v5-1)) fun v8 =>
                      Abh (Ac5 k v8.From v8.To v8.Level v6.From v6.To v6.Level) fun v9 =>
                      if (!v9)=true then
                        Aa0.J2 k v5 (fun v5_=>Aa0.L1 k v0 v1 v2 n v5_) true
                      else
                        Abh (AbM k v2 v6.From) fun v10 =>
                        if v10=true then
                          Aa0.J2 k v5 (fun v5_=>Aa0.L1 k v0 v1 v2 n v5_) true
                        else
                          Abh (AbM k v2 v6.To) fun v11 =>
                          Aa0.J2 k v5 (fun v5_=>Aa0.L1 k v0 v1 v2 n v5_) v11
                    else
                      Abh (AbM k v2 v6.From) fun v12 =>
                      if v12=true then
                        Aa0.J2 k v5 (fun v5_=>Aa0.L1 k v0 v1 v2 n v5_) true
                      else
                        Abh (AbM k v2 v6.To) fun v13 =>
                        Aa0.J2 k v5 (fun v5_=>Aa0.L1 k v0 v1 v2 n v5_) v13
    else
      some 0
def Aa0 (k : Nat) (v0 : Int) (v1 : (List AaA)) (v2 : (List Int)) : Option Int :=
  if v0<0 then
    some 14
  else
    if 64<v0 then
      some 14
    else
      if 500<(v1.length : Int) then
        some 14
      else
        Abh (Abl k v2 v0) fun v4 =>
        if (!v4)=true then
          some 14
        else
          Aa0.L1 k v0 v1 v2 k 0
def AbG.J1 (k : Nat) (v1 : (List AaA)) (v3 v4 v7 : Int) : Option (Int×Bool) :=
  if v7<(v1.length : Int) then
    idx v1 v7 fun v8 =>
    if v8.From=v3 then
      some (v7,(v8.To==v4))
    else
      some (v7,false)
  else
    some (v7,false)
def AbG.L2 (k : Nat) (v1 : (List AaA)) (v3 v4 : Int) : Nat→Int→Option (Int×Bool)
  | 0,_=>none
  | n+1,v9 =>
    if v9<(v1.length : Int) then
      idx v1 v9 fun v10 =>
      Abh (Ac5 k v10.From v10.To v10.Level v3 v4 0) fun v11 =>
      if v11=true then
        AbG.L2 k v1 v3 v4 n (IntKind.wrap .i64 (v9+1))
      else
        AbG.J1 k v1 v3 v4 v9
    else
      AbG.J1 k v1 v3 v4 v9
def AbG (k : Nat) (v0 : Int) (v1 : (List AaA)) (v2 : (List Int)) (v3 v4 : Int) : Option (Int×Bool) :=
  AbG.L2 k v1 v3 v4 k 0
def AcQ (k : Nat) (v0 : Int) (v1 : (List AaA)) (v2 : (List Int)) : Option (Int×(List AaA)×(List Int)) :=
  chk (v1.length*24≤140737488355328) <|
  chk (v2.length*8≤140737488355328) <|
  some (v0,v1,v2)
def Adf (k : Nat) (v0 : Int) (v1 : (List AaA)) (v2 : (List Int)) (v3 v4 v5 : Int) : Option (Int×(List AaA)×(List Int)×Int) :=
  Abh (Aa0 k v0 v1 v2) fun v10 =>
  if v10≠0 then
    some (0,([] : List AaA),([] : List Int),14)
  else
    Agh (AbG k v0 v1 v2 v3 v4) fun v11 v12 =>
    if v3<0 then
      some (0,([] : List AaA),([] : List Int),4)
    else
      if v0≤v3 then
        some (0,([] : List AaA),([] : List Int),4)
      else
        if v4<0 then
          some (0,([] : List AaA),([] : List Int),4)
        else
          if v0≤v4 then
            some (0,([] : List AaA),([] : List Int),4)
          else
            if v3=v4 then
              some (0,([] : List AaA),([] : List Int),4)
            else
              Abh (AbM k v2 v3) fun v13 =>
              if v13=true then
                some (0,([] : List AaA),([] : List Int),4)
              else
                Abh (AbM k v2 v4) fun v14 =>
                if v14=true then
                  some (0,([] : List AaA),([] : List Int),4)
                else
                  if v5<1 then
                    some (0,([] : List AaA),([] : List Int),2)
                  else
                    if 3<v5 then
                      some (0,([] : List AaA),([] : List Int),2)
                    else
                      if v12=true then
                        some (0,([] : List AaA),([] : List Int),19)
                      else
                        if (v1.length : Int)=500 then
                          some (0,([] : List AaA),([] : List Int),3)
                        else
                          AoY (AcQ k v0 v1 v2) fun v15 v16 v17 =>
                          chk ((0 : Int)≤v11∧(v11 : Int)≤(v1.length : Int)) <|
                          chk ((v1.take (v11).toNat).length*24≤140737488355328) <|
                          chk (((v1.take (v11).toNat).length+([(AaA.mk v3 v4 v5)] : List AaA).length)*24≤140737488355328) <|
                          chk ((0 : Int)≤v11∧(v11 : Int)≤(v1.length : Int)) <|
                          chk ((((v1.take (v11).toNat)++([(AaA.mk v3 v4 v5)] : List AaA)).length+(v1.drop (v11).toNat).length)*24≤140737488355328) <|
                          some (v15,((v1.take (v11).toNat)++([(AaA.mk v3 v4 v5)] : List AaA))++(v1.drop (v11).toNat),v17,0)
def AaZ.J4 (k : Nat) (v13 : Int) (kb3 : Int→Int→Int→(List AaA)→(List Int)→Option (Int×(List AaA)×(List Int)×Int)) (v18 v19 : Int) (v20 : (List AaA)) (v21 : (List Int)) : Option (Int×(List AaA)×(List Int)×Int) :=
  kb3 (IntKind.wrap .i64 (v13-1)) v18 v19 v20 v21
def AaZ.L3 (k : Nat) (v0 : (List Int)) : Nat→Int→Int→Int→(List AaA)→(List Int)→Option (Int×(List AaA)×(List Int)×Int)
  | 0,_,_,_,_,_=>none
  | n+1,v13,v14,v15,v16,v17 =>
    if 0<v13 then
      Agh (AbI k v0 v14 v15) fun v22 v23 =>
      Agh (AbI k v0 v23 v15) fun v24 v25 =>
      Agh (AbI k v0 v25 3) fun v26 v27 =>
      Ati (Adf k v15 v16 v17 v22 v24 (IntKind.wrap .i64 (1+v26))) fun v28 v29 v30 v31 =>
      if v31=0 then
        AaZ.J4 k v13 (fun v13_ v14_ v15_ v16_ v17_=>AaZ.L3 k v0 n v13_ v14_ v15_ v16_ v17_) v27 v28 v29 v30
      else
        AaZ.J4 k v13 (fun v13_ v14_ v15_ v16_ v17_=>AaZ.L3 k v0 n v13_ v14_ v15_ v16_ v17_) v27 v15 v16 v17
    else
      some (v15,v16,v17,v14)
def AaZ.J2 (k : Nat) (v0 : (List Int)) (v8 v9 : Int) (v10 : (List Int)) : Option (Int×(List AaA)×(List Int)×Int) :=
  Agh (AbI k v0 v9 23) fun v11 v12 =>
  AaZ.L3 k v0 k v11 v12 v8 ([] : List AaA) v10
def AaZ.J1 (k : Nat) (v0 : (List Int)) (v7 v8 : Int) : Option (Int×(List AaA)×(List Int)×Int) :=
  Agh (Ad1 k v0 v7 8) fun v32 v33 =>
  if v32=true then
    Agh (AbI k v0 v33 v8) fun v34 v35 =>
    AaZ.J2 k v0 v8 v35 ([v34] : List Int)
  else
    AaZ.J2 k v0 v8 v33 ([] : List Int)
def AaZ (k : Nat) (v0 : (List Int)) (v1 : Int) : Option (Int×(List AaA)×(List Int)×Int) :=
  Agh (AbI k v0 v1 8) fun v6 v7 =>
  if (v0.length : Int)=0 then
    AaZ.J1 k v0 v7 4
  else
    AaZ.J1 k v0 v7 (IntKind.wrap .i64 (2+v6))
def Ac6 (k : Nat) (v0 : (List Int)) (v1 : Int) (v2 : (List Int)) : Option (Int×Int) :=
  Agh (AbI k v0 v1 (v2.length : Int)) fun v5 v6 =>
  idx v2 v5 fun v7 =>
  some (v7,v6)
def Aci (k : Nat) (v0 : Int) (v1 : (List AaA)) (v2 : (List Int)) (v3 v4 v5 : Int) : Option Bool :=
  if 1≤v3 then
    if v3≤3 then
      if 0≤v4 then
        if v4<v0 then
          if 0≤v5 then
            if v5<v0 then
              some (v4 !=v5)
            else
              some false
          else
            some false
        else
          some false
      else
        some false
    else
      some false
  else
    some false
def Aa7.J2 (k : Nat) (v10 : Int) (kb1 : Int→(List AaA)→Option (Int×(List AaA)×(List Int))) (v12 : (List AaA)) : Option (Int×(List AaA)×(List Int)) :=
  kb1 (IntKind.wrap .i64 (v10+1)) v12
def Aa7.L1 (k : Nat) (v1 : (List AaA)) (v3 v7 : Int) (v9 : (List Int)) : Nat→Int→(List AaA)→Option (Int×(List AaA)×(List Int))
  | 0,_,_=>none
  | n+1,v10,v11 =>
    if v10<(v1.length : Int) then
      idx v1 v10 fun v13 =>
      if v3≤v13.Level then
        chk ((v11.length+([v13] : List AaA).length)*24≤140737488355328) <|
        Aa7.J2 k v10 (fun v10_ v11_=>Aa7.L1 k v1 v3 v7 v9 n v10_ v11_) (v11++([v13] : List AaA))
      else
        Aa7.J2 k v10 (fun v10_ v11_=>Aa7.L1 k v1 v3 v7 v9 n v10_ v11_) v11
    else
      some (v7,v11,v9)
def Aa7 (k : Nat) (v0 : Int) (v1 : (List AaA)) (v2 : (List Int)) (v3 : Int) : Option (Int×(List AaA)×(List Int)) :=
  AoY (AcQ k v0 v1 v2) fun v7 v8 v9 =>
  Aa7.L1 k v1 v3 v7 v9 k 0 ([] : List AaA)
def Abn.L1 (k : Nat) (v0 : Int) (v1 : (List AaE)) : Nat→Int→Option Int
  | 0,_=>none
  | n+1,v3 =>
    if v3<(v1.length : Int) then
      idx v1 v3 fun v4 =>
      if v4.From<0 then
        some 16
      else
        if v0≤v4.From then
          some 16
        else
          if v4.To<0 then
            some 16
          else
            if v0≤v4.To then
              some 16
            else
              if v4.From=v4.To then
                some 16
              else
                if v4.To=0 then
                  some 16
                else
                  if v4.From=1 then
                    some 16
                  else
                    if v4.Cap<0 then
                      some 16
                    else
                      if 1048576<v4.Cap then
                        some 16
                      else
                        Abn.L1 k v0 v1 n (IntKind.wrap .i64 (v3+1))
    else
      some 0
def Abn (k : Nat) (v0 : Int) (v1 : (List AaE)) : Option Int :=
  if v0<2 then
    some 16
  else
    if 130<v0 then
      some 16
    else
      if 1200<(v1.length : Int) then
        some 16
      else
        Abn.L1 k v0 v1 k 0
def AaV.J3 (k : Nat) (v12 : Int) (kb2 : Nat→Int→(List Int)→(List Bool)→(List Int)→Option (List Int)) (v16 : (List Int)) (v17 : (List Bool)) (v18 : (List Int)) (v19 : Nat) : Option (List Int) :=
  kb2 v19 (IntKind.wrap .i64 (v12+1)) v16 v17 v18
def AaV.J4 (k : Nat) (v2 : (List Int)) (v10 v12 : Int) (v20 : AaE) (kb2 : Nat→Int→(List Int)→(List Bool)→(List Int)→Option (List Int)) (v21 : (List Int)) (v22 : (List Bool)) (v23 : (List Int)) (v24 : Nat) : Option (List Int) :=
  if v20.To=v10 then
    idx v2 v12 fun v25 =>
    if 0<v25 then
      chk ((0 : Int)≤v20.From∧(v20.From).toNat<v22.length) <|
      idx v22 v20.From fun v26 =>
      if (!v26)=true then
        chk ((0 : Int)≤v20.From∧(v20.From).toNat<v22.length) <|
        chk ((0 : Int)≤v20.From∧(v20.From).toNat<v21.length) <|
        chk (((v23.drop v24).length+([v20.From] : List Int).length)*8≤140737488355328∧v24≤v23.length) <|
        AaV.J3 k v12 kb2 (v21.set (v20.From).toNat (IntKind.wrap .i64 (-(IntKind.wrap .i64 (v12+1))))) (v22.set (v20.From).toNat true) ((v23.drop v24)++([v20.From] : List Int)) 0
      else
        AaV.J3 k v12 kb2 v21 v22 v23 v24
    else
      AaV.J3 k v12 kb2 v21 v22 v23 v24
  else
    AaV.J3 k v12 kb2 v21 v22 v23 v24
def AaV.L2 (k : Nat) (v1 : (List AaE)) (v2 : (List Int)) (v10 : Int) (kb1 : Nat→(List Int)→(List Bool)→(List Int)→Option (List Int)) : Nat→Nat→Int→(List Int)→(List Bool)→(List Int)→Option (List Int)
  | 0,_,_,_,_,_=>none
  | n+1,v11,v12,v13,v14,v15 =>
    if v12<(v1.length : Int) then
      idx v1 v12 fun v20 =>
      if v20.From=v10 then
        idx v2 v12 fun v27 =>
        if v27<v20.Cap then
          chk ((0 : Int)≤v20.To∧(v20.To).toNat<v14.length) <|
          idx v14 v20.To fun v28 =>
          if (!v28)=true then
            chk ((0 : Int)≤v20.To∧(v20.To).toNat<v14.length) <|
            chk ((0 : Int)≤v20.To∧(v20.To).toNat<v13.length) <|
            chk (((v15.drop v11).length+([v20.To] : List Int).length)*8≤140737488355328∧v11≤v15.length) <|
            AaV.J4 k v2 v10 v12 v20 (fun v11_ v12_ v13_ v14_ v15_=>AaV.L2 k v1 v2 v10 kb1 n v11_ v12_ v13_ v14_ v15_) (v13.set (v20.To).toNat (IntKind.wrap .i64 (v12+1))) (v14.set (v20.To).toNat true) ((v15.drop v11)++([v20.To] : List Int)) 0
          else
            AaV.J4 k v2 v10 v12 v20 (fun v11_ v12_ v13_ v14_ v15_=>AaV.L2 k v1 v2 v10 kb1 n v11_ v12_ v13_ v14_ v15_) v13 v14 v15 v11
        else
          AaV.J4 k v2 v10 v12 v20 (fun v11_ v12_ v13_ v14_ v15_=>AaV.L2 k v1 v2 v10 kb1 n v11_ v12_ v13_ v14_ v15_) v13 v14 v15 v11
      else
        AaV.J4 k v2 v10 v12 v20 (fun v11_ v12_ v13_ v14_ v15_=>AaV.L2 k v1 v2 v10 kb1 n v11_ v12_ v13_ v14_ v15_) v13 v14 v15 v11
    else
      kb1 v11 v13 v14 v15
def AaV.L1 (k : Nat) (v1 : (List AaE)) (v2 : (List Int)) : Nat→Nat→(List Int)→(List Bool)→(List Int)→Option (List Int)
  | 0,_,_,_,_=>none
  | n+1,v6,v7,v8,v9 =>
    if 0<(((v9.length-v6) : Nat) : Int) then
      chk ((0 : Int)≤0∧(0 : Int).toNat<(v9.length-v6)∧v6+(0 : Int).toNat<v9.length) <|
      idx v9 ((v6+(0 : Int).toNat : Nat) : Int) fun v10 =>
      chk (0<v9.length∧(1 : Int)≤(((v9.length-v6) : Nat) : Int)) <|
      AaV.L2 k v1 v2 v10 (fun v6_ v7_ v8_ v9_=>AaV.L1 k v1 v2 n v6_ v7_ v8_ v9_) k (v6+(1 : Int).toNat) 0 v7 v8 v9
    else
      some v7
def AaV (k : Nat) (v0 : Int) (v1 : (List AaE)) (v2 : (List Int)) : Option (List Int) :=
  chk ((0 : Int)≤v0∧16*v0≤281474976710656) <|
  Anh (List.replicate (v0).toNat 0) fun v4 =>
  chk ((0 : Int)≤v0∧16*v0≤281474976710656) <|
  Anh (List.replicate (v0).toNat false) fun v5 =>
  chk ((0 : Int)≤0∧(0 : Int).toNat<v5.length) <|
  AaV.L1 k v1 v2 k 0 v4 (v5.set (0 : Int).toNat true) ([0] : List Int)
def Aav.L3 (k : Nat) (v1 : (List AaE)) (v6 : (List Int)) (v8 : Int) (kb1 : (List Int)→Option ((List Int)×Int)) : Nat→Int→(List Int)→Option ((List Int)×Int)
  | 0,_,_=>none
  | n+1,v17,v18 =>
    if v17≠0 then
      idx v6 v17 fun v19 =>
      if 0<v19 then
        chk ((0 : Int)≤(IntKind.wrap .i64 (v19-1))∧(IntKind.wrap .i64 (v19-1)).toNat<v18.length) <|
        idx v18 (IntKind.wrap .i64 (v19-1)) fun v20 =>
        chk ((0 : Int)≤(IntKind.wrap .i64 (v19-1))∧(IntKind.wrap .i64 (v19-1)).toNat<v18.length) <|
        idx v1 (IntKind.wrap .i64 (v19-1)) fun v21 =>
        Aav.L3 k v1 v6 v8 kb1 n v21.From (v18.set (IntKind.wrap .i64 (v19-1)).toNat (IntKind.wrap .i64 (v20+v8)))
      else
        chk ((0 : Int)≤(IntKind.wrap .i64 (IntKind.wrap .i64 (-v19)-1))∧(IntKind.wrap .i64 (IntKind.wrap .i64 (-v19)-1)).toNat<v18.length) <|
        idx v18 (IntKind.wrap .i64 (IntKind.wrap .i64 (-v19)-1)) fun v22 =>
        chk ((0 : Int)≤(IntKind.wrap .i64 (IntKind.wrap .i64 (-v19)-1))∧(IntKind.wrap .i64 (IntKind.wrap .i64 (-v19)-1)).toNat<v18.length) <|
        idx v1 (IntKind.wrap .i64 (IntKind.wrap .i64 (-v19)-1)) fun v23 =>
        Aav.L3 k v1 v6 v8 kb1 n v23.To (v18.set (IntKind.wrap .i64 (IntKind.wrap .i64 (-v19)-1)).toNat (IntKind.wrap .i64 (v22-v8)))
    else
      kb1 v18
def Aav.L2 (k : Nat) (v1 : (List AaE)) (v5 v6 : (List Int)) (kb1 : (List Int)→Option ((List Int)×Int)) : Nat→Int→Int→Option ((List Int)×Int)
  | 0,_,_=>none
  | n+1,v8,v9 =>
    if v9≠0 then
      idx v6 v9 fun v10 =>
      if 0<v10 then
        idx v1 (IntKind.wrap .i64 (v10-1)) fun v11 =>
        chk ((0 : Int)≤(IntKind.wrap .i64 (v10-1))∧(IntKind.wrap .i64 (v10-1)).toNat<v5.length) <|
        idx v5 (IntKind.wrap .i64 (v10-1)) fun v12 =>
        Anh (if (IntKind.wrap .i64 (v11.Cap-v12))<v8 then IntKind.wrap .i64 (v11.Cap-v12) else v8) fun v13 =>
        Aav.L2 k v1 v5 v6 kb1 n v13 v11.From
      else
        chk ((0 : Int)≤(IntKind.wrap .i64 (IntKind.wrap .i64 (-v10)-1))∧(IntKind.wrap .i64 (IntKind.wrap .i64 (-v10)-1)).toNat<v5.length) <|
        idx v5 (IntKind.wrap .i64 (IntKind.wrap .i64 (-v10)-1)) fun v14 =>
        Anh (if v14<v8 then v14 else v8) fun v15 =>
        idx v1 (IntKind.wrap .i64 (IntKind.wrap .i64 (-v10)-1)) fun v16 =>
        Aav.L2 k v1 v5 v6 kb1 n v15 v16.To
    else
      Aav.L3 k v1 v6 v8 kb1 k 1 v5
def Aav.L1 (k : Nat) (v0 : Int) (v1 : (List AaE)) : Nat→(List Int)→Option ((List Int)×Int)
  | 0,_=>none
  | n+1,v5 =>
    Abh (AaV k v0 v1 v5) fun v6 =>
    idx v6 1 fun v7 =>
    if v7=0 then
      some (v5,0)
    else
      Aav.L2 k v1 v5 v6 (fun v5_=>Aav.L1 k v0 v1 n v5_) k 1048576 1
def Aav (k : Nat) (v0 : Int) (v1 : (List AaE)) : Option ((List Int)×Int) :=
  Abh (Abn k v0 v1) fun v4 =>
  if v4≠0 then
    some (([] : List Int),16)
  else
    chk ((0 : Int)≤(v1.length : Int)∧16*(v1.length : Int)≤281474976710656) <|
    Aav.L1 k v0 v1 k (List.replicate ((v1.length : Int)).toNat (0 : Int))
def AbD.L2 (k : Nat) (v0 : Int) (v6 : (List Int)) : Nat→Int→Option Bool
  | 0,_=>none
  | n+1,v11 =>
    if v11<v0 then
      idx v6 v11 fun v12 =>
      if v12≠0 then
        some false
      else
        AbD.L2 k v0 v6 n (IntKind.wrap .i64 (v11+1))
    else
      some true
def AbD.L1 (k : Nat) (v0 : Int) (v1 : (List AaE)) (v2 : (List Int)) : Nat→Int→(List Int)→Option Bool
  | 0,_,_=>none
  | n+1,v5,v6 =>
    if v5<(v2.length : Int) then
      idx v2 v5 fun v7 =>
      if v7<0 then
        some false
      else
        idx v1 v5 fun v8 =>
        if v8.Cap<v7 then
          some false
        else
          chk ((0 : Int)≤v8.From∧(v8.From).toNat<v6.length) <|
          idx v6 v8.From fun v9 =>
          chk ((0 : Int)≤v8.From∧(v8.From).toNat<v6.length) <|
          chk ((0 : Int)≤v8.To∧(v8.To).toNat<(v6.set (v8.From).toNat (IntKind.wrap .i64 (v9-v7))).length) <|
          idx (v6.set (v8.From).toNat (IntKind.wrap .i64 (v9-v7))) v8.To fun v10 =>
          chk ((0 : Int)≤v8.To∧(v8.To).toNat<(v6.set (v8.From).toNat (IntKind.wrap .i64 (v9-v7))).length) <|
          AbD.L1 k v0 v1 v2 n (IntKind.wrap .i64 (v5+1)) ((v6.set (v8.From).toNat (IntKind.wrap .i64 (v9-v7))).set (v8.To).toNat (IntKind.wrap .i64 (v10+v7)))
    else
      AbD.L2 k v0 v6 k 2
def AbD (k : Nat) (v0 : Int) (v1 : (List AaE)) (v2 : (List Int)) : Option Bool :=
  Abh (Abn k v0 v1) fun v4 =>
  if v4≠0 then
    some false
  else
    if (v2.length : Int)≠(v1.length : Int) then
      some false
    else
      chk ((0 : Int)≤v0∧16*v0≤281474976710656) <|
      AbD.L1 k v0 v1 v2 k 0 (List.replicate (v0).toNat (0 : Int))
def Aa6.J2 (k : Nat) (v6 : Int) (kb1 : Int→Int→Option Int) (v7 : Int) : Option Int :=
  kb1 v7 (IntKind.wrap .i64 (v6+1))
def Aa6.L1 (k : Nat) (v1 : (List AaE)) (v2 : (List Int)) : Nat→Int→Int→Option Int
  | 0,_,_=>none
  | n+1,v5,v6 =>
    if v6<(v2.length : Int) then
      idx v1 v6 fun v8 =>
      if v8.From=0 then
        idx v2 v6 fun v9 =>
        Aa6.J2 k v6 (fun v5_ v6_=>Aa6.L1 k v1 v2 n v5_ v6_) (IntKind.wrap .i64 (v5+v9))
      else
        Aa6.J2 k v6 (fun v5_ v6_=>Aa6.L1 k v1 v2 n v5_ v6_) v5
    else
      some v5
def Aa6 (k : Nat) (v0 : Int) (v1 : (List AaE)) (v2 : (List Int)) : Option Int :=
  Abh (AbD k v0 v1 v2) fun v4 =>
  if (!v4)=true then
    some 0
  else
    Aa6.L1 k v1 v2 k 0 0
def Aac.J2 (k : Nat) (v11 : Int) (kb1 : Int→(List AaE)→Option Int) (v13 : (List AaE)) : Option Int :=
  kb1 (IntKind.wrap .i64 (v11+1)) v13
def Aac.J4 (k : Nat) (v14 : Int) (kb3 : Int→(List AaE)→Option Int) (v16 : (List AaE)) : Option Int :=
  kb3 (IntKind.wrap .i64 (v14+1)) v16
def Aac.J6 (k : Nat) (v4 v5 v14 : Int) (v15 : (List AaE)) (v17 : AaA) (v18 : Int) (kb3 : Int→(List AaE)→Option Int) (v19 : Int) : Option Int :=
  if v17.To≠v4 then
    if v17.From≠v5 then
      chk ((v15.length+([(AaE.mk v18 v19 1)] : List AaE).length)*24≤140737488355328) <|
      Aac.J4 k v14 kb3 (v15++([(AaE.mk v18 v19 1)] : List AaE))
    else
      Aac.J4 k v14 kb3 v15
  else
    Aac.J4 k v14 kb3 v15
def Aac.J5 (k : Nat) (v4 v5 v14 : Int) (v15 : (List AaE)) (v17 : AaA) (kb3 : Int→(List AaE)→Option Int) (v18 : Int) : Option Int :=
  if v17.To=v5 then
    Aac.J6 k v4 v5 v14 v15 v17 v18 kb3 1
  else
    Aac.J6 k v4 v5 v14 v15 v17 v18 kb3 (IntKind.wrap .i64 (2+IntKind.wrap .i64 (2*v17.To)))
def Aac.L3 (k : Nat) (v4 v5 v8 : Int) (v9 : (List AaA)) : Nat→Int→(List AaE)→Option Int
  | 0,_,_=>none
  | n+1,v14,v15 =>
    if v14<(v9.length : Int) then
      idx v9 v14 fun v17 =>
      if v17.From=v4 then
        Aac.J5 k v4 v5 v14 v15 v17 (fun v14_ v15_=>Aac.L3 k v4 v5 v8 v9 n v14_ v15_) 0
      else
        Aac.J5 k v4 v5 v14 v15 v17 (fun v14_ v15_=>Aac.L3 k v4 v5 v8 v9 n v14_ v15_) (IntKind.wrap .i64 (3+IntKind.wrap .i64 (2*v17.From)))
    else
      Agh (Aav k (IntKind.wrap .i64 (2+IntKind.wrap .i64 (2*v8))) v15) fun v20 v21 =>
      Abh (Aa6 k (IntKind.wrap .i64 (2+IntKind.wrap .i64 (2*v8))) v15 v20) fun v22 =>
      some v22
def Aac.L1 (k : Nat) (v4 v5 v8 : Int) (v9 : (List AaA)) : Nat→Int→(List AaE)→Option Int
  | 0,_,_=>none
  | n+1,v11,v12 =>
    if v11<v8 then
      if v11≠v4 then
        if v11≠v5 then
          chk ((v12.length+([(AaE.mk (IntKind.wrap .i64 (2+IntKind.wrap .i64 (2*v11))) (IntKind.wrap .i64 (3+IntKind.wrap .i64 (2*v11))) 1)] : List AaE).length)*24≤140737488355328) <|
          Aac.J2 k v11 (fun v11_ v12_=>Aac.L1 k v4 v5 v8 v9 n v11_ v12_) (v12++([(AaE.mk (IntKind.wrap .i64 (2+IntKind.wrap .i64 (2*v11))) (IntKind.wrap .i64 (3+IntKind.wrap .i64 (2*v11))) 1)] : List AaE))
        else
          Aac.J2 k v11 (fun v11_ v12_=>Aac.L1 k v4 v5 v8 v9 n v11_ v12_) v12
      else
        Aac.J2 k v11 (fun v11_ v12_=>Aac.L1 k v4 v5 v8 v9 n v11_ v12_) v12
    else
      Aac.L3 k v4 v5 v8 v9 k 0 v12
def Aac (k : Nat) (v0 : Int) (v1 : (List AaA)) (v2 : (List Int)) (v3 v4 v5 : Int) : Option Int :=
  Abh (Aci k v0 v1 v2 v3 v4 v5) fun v7 =>
  if (!v7)=true then
    some 0
  else
    AoY (Aa7 k v0 v1 v2 v3) fun v8 v9 v10 =>
    Aac.L1 k v4 v5 v8 v9 k 0 ([] : List AaE)
def Abb.J2 (k : Nat) (v5 : Int) (kb1 : Int→(List Int)→Option (List Int)) (v7 : (List Int)) : Option (List Int) :=
  kb1 (IntKind.wrap .i64 (v5+1)) v7
def Abb.L1 (k : Nat) (v1 : (List AaA)) (v3 : Int) : Nat→Int→(List Int)→Option (List Int)
  | 0,_,_=>none
  | n+1,v5,v6 =>
    if v5<(v1.length : Int) then
      idx v1 v5 fun v8 =>
      if v8.From=v3 then
        chk ((v6.length+([v8.To] : List Int).length)*8≤140737488355328) <|
        Abb.J2 k v5 (fun v5_ v6_=>Abb.L1 k v1 v3 n v5_ v6_) (v6++([v8.To] : List Int))
      else
        Abb.J2 k v5 (fun v5_ v6_=>Abb.L1 k v1 v3 n v5_ v6_) v6
    else
      some v6
def Abb (k : Nat) (v0 : Int) (v1 : (List AaA)) (v2 : (List Int)) (v3 : Int) : Option (List Int) :=
  Abb.L1 k v1 v3 k 0 ([] : List Int)
def AbQ.J2 (k : Nat) (v9 : Int) (kb1 : Int→Option Bool) : Option Bool :=
  kb1 (IntKind.wrap .i64 (v9+1))
def AbQ.L1 (k : Nat) (v0 : Int) (v1 : (List AaA)) (v2 v5 : (List Int)) : Nat→Int→Option Bool
  | 0,_=>none
  | n+1,v9 =>
    if v9<(v5.length : Int) then
      chk ((0 : Int)≤v9∧(v9 : Int)≤(v5.length : Int)) <|
      idx v5 v9 fun v10 =>
      Abh (AbM k (v5.take (v9).toNat) v10) fun v11 =>
      if v11=true then
        some false
      else
        if 0<v9 then
          idx v5 (IntKind.wrap .i64 (v9-1)) fun v12 =>
          Abh (Abb k v0 v1 v2 v12) fun v13 =>
          Abh (AbM k v13 v10) fun v14 =>
          if (!v14)=true then
            some false
          else
            AbQ.J2 k v9 (fun v9_=>AbQ.L1 k v0 v1 v2 v5 n v9_)
        else
          AbQ.J2 k v9 (fun v9_=>AbQ.L1 k v0 v1 v2 v5 n v9_)
    else
      some true
def AbQ (k : Nat) (v0 : Int) (v1 : (List AaA)) (v2 : (List Int)) (v3 v4 : Int) (v5 : (List Int)) : Option Bool :=
  if (v5.length : Int)<2 then
    some false
  else
    idx v5 0 fun v7 =>
    if v7≠v3 then
      some false
    else
      idx v5 (IntKind.wrap .i64 ((v5.length : Int)-1)) fun v8 =>
      if v8≠v4 then
        some false
      else
        AbQ.L1 k v0 v1 v2 v5 k 0
def Aaq.L3 (k : Nat) (v13 : Int) (v15 : (List Int)) (v17 : Int) (kb1 : Int→Int→(List Int)→Option Bool) : Nat→Int→(List Int)→Option Bool
  | 0,_,_=>none
  | n+1,v18,v19 =>
    if IntKind.wrap .i64 (v18+1)<(v15.length : Int) then
      idx v15 v18 fun v20 =>
      Abh (AbM k v19 v20) fun v21 =>
      if v21=true then
        some false
      else
        chk ((v19.length+([v20] : List Int).length)*8≤140737488355328) <|
        Aaq.L3 k v13 v15 v17 kb1 n (IntKind.wrap .i64 (v18+1)) (v19++([v20] : List Int))
    else
      kb1 v17 (IntKind.wrap .i64 (v13+1)) v19
def Aaq.J2 (k : Nat) (v13 : Int) (v14 v15 : (List Int)) (kb1 : Int→Int→(List Int)→Option Bool) (v17 : Int) : Option Bool :=
  Aaq.L3 k v13 v15 v17 kb1 k 1 v14
def Aaq.L1 (k : Nat) (v4 v5 : Int) (v6 : (List (List Int))) (v9 : Int) (v10 : (List AaA)) (v11 : (List Int)) : Nat→Int→Int→(List Int)→Option Bool
  | 0,_,_,_=>none
  | n+1,v12,v13,v14 =>
    if v13<(v6.length : Int) then
      idx v6 v13 fun v15 =>
      Abh (AbQ k v9 v10 v11 v4 v5 v15) fun v16 =>
      if (!v16)=true then
        some false
      else
        if (v15.length : Int)=2 then
          Aaq.J2 k v13 v14 v15 (fun v12_ v13_ v14_=>Aaq.L1 k v4 v5 v6 v9 v10 v11 n v12_ v13_ v14_) (IntKind.wrap .i64 (v12+1))
        else
          Aaq.J2 k v13 v14 v15 (fun v12_ v13_ v14_=>Aaq.L1 k v4 v5 v6 v9 v10 v11 n v12_ v13_ v14_) v12
    else
      some (decide (v12≤1))
def Aaq (k : Nat) (v0 : Int) (v1 : (List AaA)) (v2 : (List Int)) (v3 v4 v5 : Int) (v6 : (List (List Int))) : Option Bool :=
  Abh (Aci k v0 v1 v2 v3 v4 v5) fun v8 =>
  if (!v8)=true then
    some ((v6.length : Int)==0)
  else
    AoY (Aa7 k v0 v1 v2 v3) fun v9 v10 v11 =>
    Aaq.L1 k v4 v5 v6 v9 v10 v11 k 0 0 ([] : List Int)
def Aan.J2 (k : Nat) (v5 : Int) (kb1 : Int→(List Int)→Option (List Int)) (v7 : (List Int)) : Option (List Int) :=
  kb1 (IntKind.wrap .i64 (v5+1)) v7
def Aan.J5 (k : Nat) (v12 : Int) (kb4 : Int→(List Int)→Option (List Int)) (v14 : (List Int)) : Option (List Int) :=
  kb4 (IntKind.wrap .i64 (v12+1)) v14
def Aan.L4 (k : Nat) (v1 : (List AaA)) (v10 : Int) (kb3 : Int→(List Int)→Option (List Int)) : Nat→Int→(List Int)→Option (List Int)
  | 0,_,_=>none
  | n+1,v12,v13 =>
    if v12<(v1.length : Int) then
      idx v1 v12 fun v15 =>
      chk ((0 : Int)≤v15.From∧(v15.From).toNat<v13.length) <|
      idx v13 v15.From fun v16 =>
      if v16=v10 then
        chk ((0 : Int)≤v15.To∧(v15.To).toNat<v13.length) <|
        idx v13 v15.To fun v17 =>
        if v17=(-1) then
          chk ((0 : Int)≤v15.To∧(v15.To).toNat<v13.length) <|
          Aan.J5 k v12 (fun v12_ v13_=>Aan.L4 k v1 v10 kb3 n v12_ v13_) (v13.set (v15.To).toNat (IntKind.wrap .i64 (v10+1)))
        else
          Aan.J5 k v12 (fun v12_ v13_=>Aan.L4 k v1 v10 kb3 n v12_ v13_) v13
      else
        Aan.J5 k v12 (fun v12_ v13_=>Aan.L4 k v1 v10 kb3 n v12_ v13_) v13
    else
      kb3 (IntKind.wrap .i64 (v10+1)) v13
def Aan.L3 (k : Nat) (v0 : Int) (v1 : (List AaA)) : Nat→Int→(List Int)→Option (List Int)
  | 0,_,_=>none
  | n+1,v10,v11 =>
    if v10<v0 then
      Aan.L4 k v1 v10 (fun v10_ v11_=>Aan.L3 k v0 v1 n v10_ v11_) k 0 v11
    else
      some v11
def Aan.L1 (k : Nat) (v0 : Int) (v1 : (List AaA)) (v2 v3 : (List Int)) : Nat→Int→(List Int)→Option (List Int)
  | 0,_,_=>none
  | n+1,v5,v6 =>
    if v5<v0 then
      chk ((v6.length+([-1] : List Int).length)*8≤140737488355328) <|
      Abh (AbM k v3 v5) fun v8 =>
      if v8=true then
        Abh (AbM k v2 v5) fun v9 =>
        if (!v9)=true then
          chk ((0 : Int)≤v5∧(v5).toNat<(v6++([-1] : List Int)).length) <|
          Aan.J2 k v5 (fun v5_ v6_=>Aan.L1 k v0 v1 v2 v3 n v5_ v6_) ((v6++([-1] : List Int)).set (v5).toNat 0)
        else
          Aan.J2 k v5 (fun v5_ v6_=>Aan.L1 k v0 v1 v2 v3 n v5_ v6_) (v6++([-1] : List Int))
      else
        Aan.J2 k v5 (fun v5_ v6_=>Aan.L1 k v0 v1 v2 v3 n v5_ v6_) (v6++([-1] : List Int))
    else
      Aan.L3 k v0 v1 k 0 v6
def Aan (k : Nat) (v0 : Int) (v1 : (List AaA)) (v2 v3 : (List Int)) : Option (List Int) :=
  Aan.L1 k v0 v1 v2 v3 k 0 ([] : List Int)
def AaU.J3 (k : Nat) (v12 : Int) (kb2 : Int→(List Bool)→Option ((List Int)×Bool)) (v14 : (List Bool)) : Option ((List Int)×Bool) :=
  kb2 (IntKind.wrap .i64 (v12+1)) v14
def AaU.L2 (k : Nat) (v1 : (List AaA)) (v7 : (List Int)) (v10 : Int) (kb1 : Int→(List Bool)→Option ((List Int)×Bool)) : Nat→Int→(List Bool)→Option ((List Int)×Bool)
  | 0,_,_=>none
  | n+1,v12,v13 =>
    if v12<(v1.length : Int) then
      idx v1 v12 fun v15 =>
      chk ((0 : Int)≤v15.To∧(v15.To).toNat<v13.length) <|
      idx v13 v15.To fun v16 =>
      if v16=true then
        idx v7 v15.To fun v17 =>
        if v17=v10 then
          idx v7 v15.From fun v18 =>
          if v18=(IntKind.wrap .i64 (v10-1)) then
            chk ((0 : Int)≤v15.From∧(v15.From).toNat<v13.length) <|
            AaU.J3 k v12 (fun v12_ v13_=>AaU.L2 k v1 v7 v10 kb1 n v12_ v13_) (v13.set (v15.From).toNat true)
          else
            AaU.J3 k v12 (fun v12_ v13_=>AaU.L2 k v1 v7 v10 kb1 n v12_ v13_) v13
        else
          AaU.J3 k v12 (fun v12_ v13_=>AaU.L2 k v1 v7 v10 kb1 n v12_ v13_) v13
      else
        AaU.J3 k v12 (fun v12_ v13_=>AaU.L2 k v1 v7 v10 kb1 n v12_ v13_) v13
    else
      kb1 (IntKind.wrap .i64 (v10-1)) v13
def AaU.J5 (k : Nat) (v19 : Int) (kb4 : Int→(List Int)→Option ((List Int)×Bool)) (v21 : (List Int)) : Option ((List Int)×Bool) :=
  kb4 (IntKind.wrap .i64 (v19+1)) v21
def AaU.J7 (k : Nat) (v22 : Int) (kb6 : Int→Option ((List Int)×Bool)) : Option ((List Int)×Bool) :=
  kb6 (IntKind.wrap .i64 (v22+1))
def AaU.L6 (k : Nat) (v0 : Int) (v1 : (List AaA)) (v2 v7 : (List Int)) (v11 : (List Bool)) (v19 : Int) (v20 : (List Int)) (kb4 : Int→(List Int)→Option ((List Int)×Bool)) : Nat→Int→Option ((List Int)×Bool)
  | 0,_=>none
  | n+1,v22 =>
    if v22<v0 then
      idx v11 v22 fun v23 =>
      if v23=true then
        idx v7 v22 fun v24 =>
        if v24=v19 then
          if v19=0 then
            chk ((v20.length+([v22] : List Int).length)*8≤140737488355328) <|
            AaU.J5 k v19 kb4 (v20++([v22] : List Int))
          else
            chk ((0 : Int)≤(IntKind.wrap .i64 (v19-1))∧(IntKind.wrap .i64 (v19-1)).toNat<v20.length) <|
            idx v20 (IntKind.wrap .i64 (v19-1)) fun v25 =>
            Abh (Abb k v0 v1 v2 v25) fun v26 =>
            Abh (AbM k v26 v22) fun v27 =>
            if v27=true then
              chk ((v20.length+([v22] : List Int).length)*8≤140737488355328) <|
              AaU.J5 k v19 kb4 (v20++([v22] : List Int))
            else
              AaU.J7 k v22 (fun v22_=>AaU.L6 k v0 v1 v2 v7 v11 v19 v20 kb4 n v22_)
        else
          AaU.J7 k v22 (fun v22_=>AaU.L6 k v0 v1 v2 v7 v11 v19 v20 kb4 n v22_)
      else
        AaU.J7 k v22 (fun v22_=>AaU.L6 k v0 v1 v2 v7 v11 v19 v20 kb4 n v22_)
    else
      AaU.J5 k v19 kb4 v20
def AaU.L4 (k : Nat) (v0 : Int) (v1 : (List AaA)) (v2 v7 : (List Int)) (v8 : Int) (v11 : (List Bool)) : Nat→Int→(List Int)→Option ((List Int)×Bool)
  | 0,_,_=>none
  | n+1,v19,v20 =>
    if v19≤v8 then
      AaU.L6 k v0 v1 v2 v7 v11 v19 v20 (fun v19_ v20_=>AaU.L4 k v0 v1 v2 v7 v8 v11 n v19_ v20_) k 0
    else
      some (v20,true)
def AaU.L1 (k : Nat) (v0 : Int) (v1 : (List AaA)) (v2 v7 : (List Int)) (v8 : Int) : Nat→Int→(List Bool)→Option ((List Int)×Bool)
  | 0,_,_=>none
  | n+1,v10,v11 =>
    if 0<v10 then
      AaU.L2 k v1 v7 v10 (fun v10_ v11_=>AaU.L1 k v0 v1 v2 v7 v8 n v10_ v11_) k 0 v11
    else
      AaU.L4 k v0 v1 v2 v7 v8 v11 k 0 ([] : List Int)
def AaU (k : Nat) (v0 : Int) (v1 : (List AaA)) (v2 v3 : (List Int)) (v4 : Int) : Option ((List Int)×Bool) :=
  Abh (Aan k v0 v1 v2 v3) fun v7 =>
  if v4<0 then
    some (([] : List Int),false)
  else
    if v0≤v4 then
      some (([] : List Int),false)
    else
      idx v7 v4 fun v8 =>
      if v8<0 then
        some (([] : List Int),false)
      else
        chk ((0 : Int)≤v0∧16*v0≤281474976710656) <|
        Anh (List.replicate (v0).toNat false) fun v9 =>
        chk ((0 : Int)≤v4∧(v4).toNat<v9.length) <|
        AaU.L1 k v0 v1 v2 v7 v8 k v8 (v9.set (v4).toNat true)
def Aaf.J3 (k : Nat) (v19 : Int) (kb2 : Int→(List AaA)→Option (List (List Int))) (v21 : (List AaA)) : Option (List (List Int)) :=
  kb2 (IntKind.wrap .i64 (v19+1)) v21
def Aaf.J4 (k : Nat) (v4 v5 : Int) (v17 : (List Int)) (v19 : Int) (v20 : (List AaA)) (v22 : AaA) (kb2 : Int→(List AaA)→Option (List (List Int))) (v23 : Bool) : Option (List (List Int)) :=
  if (!v23)=true then
    if (v17.length : Int)=2 then
      if v22.From=v4 then
        if v22.To≠v5 then
          chk ((v20.length+([v22] : List AaA).length)*24≤140737488355328) <|
          Aaf.J3 k v19 kb2 (v20++([v22] : List AaA))
        else
          Aaf.J3 k v19 kb2 v20
      else
        chk ((v20.length+([v22] : List AaA).length)*24≤140737488355328) <|
        Aaf.J3 k v19 kb2 (v20++([v22] : List AaA))
    else
      chk ((v20.length+([v22] : List AaA).length)*24≤140737488355328) <|
      Aaf.J3 k v19 kb2 (v20++([v22] : List AaA))
  else
    Aaf.J3 k v19 kb2 v20
def Aaf.L2 (k : Nat) (v4 v5 : Int) (v15 : (List AaA)) (v16 : (List (List Int))) (v17 : (List Int)) (kb1 : (List AaA)→(List (List Int))→Option (List (List Int))) : Nat→Int→(List AaA)→Option (List (List Int))
  | 0,_,_=>none
  | n+1,v19,v20 =>
    if v19<(v15.length : Int) then
      idx v15 v19 fun v22 =>
      chk ((1 : Int)≤IntKind.wrap .i64 ((v17.length : Int)-1)∧(IntKind.wrap .i64 ((v17.length : Int)-1) : Int)≤(v17.length : Int)) <|
      Abh (AbM k ((v17.take (IntKind.wrap .i64 ((v17.length : Int)-1)).toNat).drop (1 : Int).toNat) v22.From) fun v24 =>
      if v24=true then
        Aaf.J4 k v4 v5 v17 v19 v20 v22 (fun v19_ v20_=>Aaf.L2 k v4 v5 v15 v16 v17 kb1 n v19_ v20_) true
      else
        chk ((1 : Int)≤IntKind.wrap .i64 ((v17.length : Int)-1)∧(IntKind.wrap .i64 ((v17.length : Int)-1) : Int)≤(v17.length : Int)) <|
        Abh (AbM k ((v17.take (IntKind.wrap .i64 ((v17.length : Int)-1)).toNat).drop (1 : Int).toNat) v22.To) fun v25 =>
        Aaf.J4 k v4 v5 v17 v19 v20 v22 (fun v19_ v20_=>Aaf.L2 k v4 v5 v15 v16 v17 kb1 n v19_ v20_) v25
    else
      kb1 v20 (v16++([v17] : List (List Int)))
def Aaf.L1 (k : Nat) (v4 v5 v6 v12 : Int) : Nat→(List AaA)→(List (List Int))→Option (List (List Int))
  | 0,_,_=>none
  | n+1,v15,v16 =>
    Agh (AaU k v12 v15 ([] : List Int) ([v4] : List Int) v5) fun v17 v18 =>
    if (!v18)=true then
      some v16
    else
      if v6<IntKind.wrap .i64 ((v17.length : Int)-1) then
        some v16
      else
        chk ((v16.length+([v17] : List (List Int)).length)*24≤140737488355328) <|
        Aaf.L2 k v4 v5 v15 v16 v17 (fun v15_ v16_=>Aaf.L1 k v4 v5 v6 v12 n v15_ v16_) k 0 ([] : List AaA)
def Aaf (k : Nat) (v0 : Int) (v1 : (List AaA)) (v2 : (List Int)) (v3 v4 v5 v6 : Int) : Option (List (List Int)) :=
  Abh (Aci k v0 v1 v2 v3 v4 v5) fun v8 =>
  if (!v8)=true then
    some ([] : List (List Int))
  else
    AoY (Aa7 k v0 v1 v2 v3) fun v9 v10 v11 =>
    AoY (AcQ k v9 v10 v11) fun v12 v13 v14 =>
    Aaf.L1 k v4 v5 v6 v12 k v13 ([] : List (List Int))
def AbR.L1 (k : Nat) (v0 v1 : (List Int)) : Nat→Int→Option Bool
  | 0,_=>none
  | n+1,v3 =>
    if v3<(v0.length : Int) then
      idx v0 v3 fun v4 =>
      idx v1 v3 fun v5 =>
      if v4≠v5 then
        some false
      else
        AbR.L1 k v0 v1 n (IntKind.wrap .i64 (v3+1))
    else
      some true
def AbR (k : Nat) (v0 v1 : (List Int)) : Option Bool :=
  if (v0.length : Int)≠(v1.length : Int) then
    some false
  else
    AbR.L1 k v0 v1 k 0
def AcA.L1 (k : Nat) (v0 v1 : (List (List Int))) : Nat→Int→Option Bool
  | 0,_=>none
  | n+1,v3 =>
    if v3<(v0.length : Int) then
      idx v0 v3 fun v4 =>
      idx v1 v3 fun v5 =>
      Abh (AbR k v4 v5) fun v6 =>
      if (!v6)=true then
        some false
      else
        AcA.L1 k v0 v1 n (IntKind.wrap .i64 (v3+1))
    else
      some true
def AcA (k : Nat) (v0 v1 : (List (List Int))) : Option Bool :=
  if (v0.length : Int)≠(v1.length : Int) then
    some false
  else
    AcA.L1 k v0 v1 k 0
def Ac3 (k : Nat) (v0 : Int) (v1 : (List AaA)) (v2 : (List Int)) (v3 v4 v5 v6 : Int) : Option Bool :=
  Abh (Aap k v0 v1 v2 v3 v4 v5) fun v8 =>
  Abh (Aac k v0 v1 v2 v3 v4 v5) fun v9 =>
  Abh (AdQ k v0 v1 v2 v3 v4 v5) fun v10 =>
  if v10=v9 then
    if (v8.length : Int)=v9 then
      Abh (Aaq k v0 v1 v2 v3 v4 v5 v8) fun v11 =>
      if v11=true then
        Abh (Aao k v0 v1 v2 v3 v4 v5 v6) fun v12 =>
        Abh (Aaf k v0 v1 v2 v3 v4 v5 v6) fun v13 =>
        Abh (AcA k v12 v13) fun v14 =>
        some v14
      else
        some false
    else
      some false
  else
    some false
def AbN.L1 (k : Nat) (v1 v5 : (List Int)) (v7 : Int) (v8 : (List AaA)) (v9 : (List Int)) : Nat→Int→Int→Option Bool
  | 0,_,_=>none
  | n+1,v11,v12 =>
    if v11<3 then
      Agh (Ac6 k v5 v12 ([1,1,2,3] : List Int)) fun v13 v14 =>
      Agh (AbI k v5 v14 v7) fun v15 v16 =>
      Agh (AbI k v5 v16 v7) fun v17 v18 =>
      Agh (Ac6 k v5 v18 ([1,2,3,9,0] : List Int)) fun v19 v20 =>
      Abh (Ac3 k v7 v8 v9 v13 v15 v17 v19) fun v21 =>
      if (!v21)=true then
        some false
      else
        AbN.L1 k v1 v5 v7 v8 v9 n (IntKind.wrap .i64 (v11+1)) v20
    else
      Abh (AeC k) fun v22 =>
      if v22=true then
        chk ((0 : Int)≤0∧0<4∧(0 : Int).toNat<v1.length) <|
        idx v1 (0 : Int) fun v23 =>
        chk ((0 : Int)≤1∧1<4∧(1 : Int).toNat<v1.length) <|
        idx v1 (1 : Int) fun v24 =>
        chk ((0 : Int)≤2∧2<4∧(2 : Int).toNat<v1.length) <|
        idx v1 (2 : Int) fun v25 =>
        chk ((0 : Int)≤3∧3<4∧(3 : Int).toNat<v1.length) <|
        idx v1 (3 : Int) fun v26 =>
        Abh (Ac3 k v7 v8 v9 v23 v24 v25 v26) fun v27 =>
        if v27=true then
          chk ((0 : Int)≤0∧0<4∧(0 : Int).toNat<v1.length) <|
          Abh (Acd k v23 5) fun v28 =>
          chk ((0 : Int)≤1∧1<4∧(1 : Int).toNat<v1.length) <|
          Abh (Acd k v24 10) fun v29 =>
          chk ((0 : Int)≤2∧2<4∧(2 : Int).toNat<v1.length) <|
          Abh (Acd k v25 10) fun v30 =>
          chk ((0 : Int)≤3∧3<4∧(3 : Int).toNat<v1.length) <|
          Abh (Ac3 k v7 v8 v9 v28 v29 v30 v26) fun v31 =>
          some v31
        else
          some false
      else
        some false
def AbN (k : Nat) (v0 v1 : (List Int)) : Option Bool :=
  Abh (Afa k v0) fun v3 =>
  if (!v3)=true then
    Abh (AeC k) fun v4 =>
    some v4
  else
    Agh (AgV k v0) fun v5 v6 =>
    Ati (AaZ k v5 v6) fun v7 v8 v9 v10 =>
    AbN.L1 k v1 v5 v7 v8 v9 k 0 v10
theorem GK {P : List (List Nat×List Nat)→Prop} {c : List (List Nat×List Nat)→Bool} {l : List (List Nat×List Nat)} (g : ∀ l,c l=true→P l) (h : c l=true:=by kernel_rfl) : P l:=g l h
abbrev Q0 (l : List AaA) : AV := .lst false false (List.map AaA.av l)
abbrev Q1 (l : List AaE) : AV := .lst false false (List.map AaE.av l)
abbrev Q2 (l : List AaC) : AV := .lst false false (List.map AaC.av l)
abbrev Gi (l : List Int) : Aah := .grow (List.map (AV.int .i64) l)
abbrev Ci (l : List Int) : Aah := .cells (List.map (AV.int .i64) l)
theorem A2 {p0 p1 : Prop} (a0 : p0) (a1 : p1) : p0∧p1:=⟨a0,a1⟩
theorem A3 {p0 p1 p2 : Prop} (a0 : p0) (a1 : p1) (a2 : p2) : p0∧p1∧p2:=⟨a0,a1,a2⟩
theorem A4 {p0 p1 p2 p3 : Prop} (a0 : p0) (a1 : p1) (a2 : p2) (a3 : p3) : p0∧p1∧p2∧p3:=⟨a0,a1,a2,a3⟩
theorem A5 {p0 p1 p2 p3 p4 : Prop} (a0 : p0) (a1 : p1) (a2 : p2) (a3 : p3) (a4 : p4) : p0∧p1∧p2∧p3∧p4:=⟨a0,a1,a2,a3,a4⟩
theorem A6 {p0 p1 p2 p3 p4 p5 : Prop} (a0 : p0) (a1 : p1) (a2 : p2) (a3 : p3) (a4 : p4) (a5 : p5) : p0∧p1∧p2∧p3∧p4∧p5:=⟨a0,a1,a2,a3,a4,a5⟩
theorem A7 {p0 p1 p2 p3 p4 p5 p6 : Prop} (a0 : p0) (a1 : p1) (a2 : p2) (a3 : p3) (a4 : p4) (a5 : p5) (a6 : p6) : p0∧p1∧p2∧p3∧p4∧p5∧p6:=⟨a0,a1,a2,a3,a4,a5,a6⟩
theorem A8 {p0 p1 p2 p3 p4 p5 p6 p7 : Prop} (a0 : p0) (a1 : p1) (a2 : p2) (a3 : p3) (a4 : p4) (a5 : p5) (a6 : p6) (a7 : p7) : p0∧p1∧p2∧p3∧p4∧p5∧p6∧p7:=⟨a0,a1,a2,a3,a4,a5,a6,a7⟩
theorem A9 {p0 p1 p2 p3 p4 p5 p6 p7 p8 : Prop} (a0 : p0) (a1 : p1) (a2 : p2) (a3 : p3) (a4 : p4) (a5 : p5) (a6 : p6) (a7 : p7) (a8 : p8) : p0∧p1∧p2∧p3∧p4∧p5∧p6∧p7∧p8:=⟨a0,a1,a2,a3,a4,a5,a6,a7,a8⟩
end Go.TF
