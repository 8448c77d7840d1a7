import Derived.Test.YtelffnegemdicaaPtzLay28
import Derived.Test.YtelffnegemdicaaPtzLay22
import Derived.Test.YtelffnegemdicaaProg
import Derived.KernelRfl
set_option linter.unusedVariables false
set_option maxRecDepth 100000
namespace Go.TF
open Go Go.Abs
abbrev Iz (n : Int) : AV := .int .i64 n
abbrev Lz (l : List Int) : AV := .lst false false (l.map (.int .i64))
abbrev Lb (l : List Int) : AV := .lst false false (l.map (.int .u8))
abbrev Lw (l : List Int) : AV := .lst false false (l.map (.int .u32))
structure AaA where
  From : Int
  To : Int
  Level : Int
@[simp] def AaA.av (x : AaA) : AV:=AV.agg [AV.int .i64 x.From,AV.int .i64 x.To,AV.int .i64 x.Level]
@[simp] theorem AaA.okEls (l : List AaA) : okEls 3 (l.map AaA.av)↔True:=iff_true_intro (Ace.2 fun x hx=>by
  simp only [List.mem_map] at hx
  obtain ⟨b,_,rfl⟩:=hx
  simp)
@[simp] theorem AaA.gdF (S : Nat→Prop) (l : List AaA) : gdL S (AaJ (l.map AaA.av))↔True:=iff_true_intro (Aid (by simp) l)
@[simp] theorem AaA.frF (l : List AaA) : Acq (AaJ (l.map AaA.av))=true:=AfU (by simp) l
@[simp] theorem AaA.renF (σ : Nat→Nat) (l : List AaA) : Adl σ (AaJ (l.map AaA.av))=AaJ (l.map AaA.av):=Agw (by simp) l
@[simp] theorem AaA.lenF (l : List AaA) : (AaJ (l.map AaA.av)).length=l.length*3:=AcQ (F:=AaA.av) (fun _=>rfl) l
@[simp↓] theorem AaA.oneF (l : List AaA) : (AaJ (l.map AaA.av)).all AV.one=true:=AiN (by simp) l
@[simp] theorem AaA.setR (σ : Nat→Nat) (l : List AaA) (i : Nat) (f0 : Int) (f1 : Int) (f2 : Int) : Adl σ (AaJ ((l.map AaA.av).set i (AV.agg [AV.int .i64 f0,AV.int .i64 f1,AV.int .i64 f2])))=AaJ ((l.map AaA.av).set i (AV.agg [AV.int .i64 f0,AV.int .i64 f1,AV.int .i64 f2])):=by
  have h:=AaA.renF σ (l.set i (AaA.mk f0 f1 f2))
  rw [List.map_set] at h; exact h
@[simp] theorem AaA.setG (S : Nat→Prop) (l : List AaA) (i : Nat) (f0 : Int) (f1 : Int) (f2 : Int) : gdL S (AaJ ((l.map AaA.av).set i (AV.agg [AV.int .i64 f0,AV.int .i64 f1,AV.int .i64 f2])))↔True:=by
  have h:=AaA.gdF S (l.set i (AaA.mk f0 f1 f2))
  rw [List.map_set] at h; exact h
@[simp] theorem AaA.setF (l : List AaA) (i : Nat) (f0 : Int) (f1 : Int) (f2 : Int) : Acq (AaJ ((l.map AaA.av).set i (AV.agg [AV.int .i64 f0,AV.int .i64 f1,AV.int .i64 f2])))=true:=by
  have h:=AaA.frF (l.set i (AaA.mk f0 f1 f2))
  rw [List.map_set] at h; exact h
@[simp] theorem AaA.len_take (i : Nat) (l : List AaA) : (AaJ (List.take i (l.map AaA.av))).length=(l.take i).length*3:=by rw [← List.map_take]; exact AaA.lenF _
@[simp] theorem AaA.ren_take (σ : Nat→Nat) (i : Nat) (l : List AaA) : Adl σ (AaJ (List.take i (l.map AaA.av)))=AaJ (List.take i (l.map AaA.av)):=by rw [← List.map_take]; exact AaA.renF σ _
@[simp] theorem AaA.gd_take (S : Nat→Prop) (i : Nat) (l : List AaA) : gdL S (AaJ (List.take i (l.map AaA.av)))↔True:=by rw [← List.map_take]; exact AaA.gdF S _
@[simp] theorem AaA.one_take (i : Nat) (l : List AaA) : (∀ x : AV,x ∈ AaJ (List.take i (l.map AaA.av))→x.one=true)↔True:=iff_true_intro (List.all_eq_true.1 (by rw [← List.map_take]; exact AaA.oneF _))
@[simp] theorem AaA.len_drop (i : Nat) (l : List AaA) : (AaJ (List.drop i (l.map AaA.av))).length=(l.drop i).length*3:=by rw [← List.map_drop]; exact AaA.lenF _
@[simp] theorem AaA.ren_drop (σ : Nat→Nat) (i : Nat) (l : List AaA) : Adl σ (AaJ (List.drop i (l.map AaA.av)))=AaJ (List.drop i (l.map AaA.av)):=by rw [← List.map_drop]; exact AaA.renF σ _
@[simp] theorem AaA.gd_drop (S : Nat→Prop) (i : Nat) (l : List AaA) : gdL S (AaJ (List.drop i (l.map AaA.av)))↔True:=by rw [← List.map_drop]; exact AaA.gdF S _
@[simp] theorem AaA.ids (S : Nat→Prop) (l : List AaA) : AbY S (l.map AaA.av)↔True:=iff_true_intro (AgJ (by simp) l)
structure AaD where
  From : Int
  To : Int
  Cap : Int
@[simp] def AaD.av (x : AaD) : AV:=AV.agg [AV.int .i64 x.From,AV.int .i64 x.To,AV.int .i64 x.Cap]
@[simp] theorem AaD.okEls (l : List AaD) : okEls 3 (l.map AaD.av)↔True:=iff_true_intro (Ace.2 fun x hx=>by
  simp only [List.mem_map] at hx
  obtain ⟨b,_,rfl⟩:=hx
  simp)
@[simp] theorem AaD.gdF (S : Nat→Prop) (l : List AaD) : gdL S (AaJ (l.map AaD.av))↔True:=iff_true_intro (Aid (by simp) l)
@[simp] theorem AaD.frF (l : List AaD) : Acq (AaJ (l.map AaD.av))=true:=AfU (by simp) l
@[simp] theorem AaD.renF (σ : Nat→Nat) (l : List AaD) : Adl σ (AaJ (l.map AaD.av))=AaJ (l.map AaD.av):=Agw (by simp) l
@[simp] theorem AaD.lenF (l : List AaD) : (AaJ (l.map AaD.av)).length=l.length*3:=AcQ (F:=AaD.av) (fun _=>rfl) l
@[simp↓] theorem AaD.oneF (l : List AaD) : (AaJ (l.map AaD.av)).all AV.one=true:=AiN (by simp) l
@[simp] theorem AaD.ids (S : Nat→Prop) (l : List AaD) : AbY S (l.map AaD.av)↔True:=iff_true_intro (AgJ (by simp) l)
structure AaB where
  arc : Int
  back : Bool
@[simp] def AaB.av (x : AaB) : AV:=AV.agg [AV.int .i64 x.arc,AV.bool x.back]
@[simp] theorem AaB.okEls (l : List AaB) : okEls 2 (l.map AaB.av)↔True:=iff_true_intro (Ace.2 fun x hx=>by
  simp only [List.mem_map] at hx
  obtain ⟨b,_,rfl⟩:=hx
  simp)
@[simp] theorem AaB.gdF (S : Nat→Prop) (l : List AaB) : gdL S (AaJ (l.map AaB.av))↔True:=iff_true_intro (Aid (by simp) l)
@[simp] theorem AaB.frF (l : List AaB) : Acq (AaJ (l.map AaB.av))=true:=AfU (by simp) l
@[simp] theorem AaB.renF (σ : Nat→Nat) (l : List AaB) : Adl σ (AaJ (l.map AaB.av))=AaJ (l.map AaB.av):=Agw (by simp) l
@[simp] theorem AaB.lenF (l : List AaB) : (AaJ (l.map AaB.av)).length=l.length*2:=AcQ (F:=AaB.av) (fun _=>rfl) l
@[simp↓] theorem AaB.oneF (l : List AaB) : (AaJ (l.map AaB.av)).all AV.one=true:=AiN (by simp) l
@[simp] theorem AaB.mpR (σ : Nat→Nat) (k : IntKind) (l : List (Int×AaB)) : AdX σ (.mp (mpA (AV.int k) AaB.av l)) = .mp (mpA (AV.int k) AaB.av l):=Aga σ _ _ l (by simp) (by simp)
@[simp] theorem AaB.mpG (S : Nat→Prop) (k : IntKind) (l : List (Int×AaB)) : gdO S (.mp (mpA (AV.int k) AaB.av l))↔True:=Aic S _ _ l (by simp) (by simp)
@[simp] theorem AaB.mpF (k : IntKind) (l : List (Int×AaB)) : Afy (.mp (mpA (AV.int k) AaB.av l))=true:=AlY _ _ l (by simp) (by simp)
@[simp] theorem AaB.mpPR (σ : Nat→Nat) (k : IntKind) (l : List (Int×AaB)) (i : Int) (f0 : Int) (f1 : Bool) : AdX σ (.mp (AcW (mpA (AV.int k) AaB.av l) (AV.int k i) (AV.agg [AV.int .i64 f0,AV.bool f1]))) = .mp (AcW (mpA (AV.int k) AaB.av l) (AV.int k i) (AV.agg [AV.int .i64 f0,AV.bool f1])):=by
  have h:=AaB.mpR σ k (AbC l i (AaB.mk f0 f1))
  rw [AgH] at h; exact h
@[simp] theorem AaB.mpPG (S : Nat→Prop) (k : IntKind) (l : List (Int×AaB)) (i : Int) (f0 : Int) (f1 : Bool) : gdO S (.mp (AcW (mpA (AV.int k) AaB.av l) (AV.int k i) (AV.agg [AV.int .i64 f0,AV.bool f1])))↔True:=by
  have h:=AaB.mpG S k (AbC l i (AaB.mk f0 f1))
  rw [AgH] at h; exact h
@[simp] theorem AaB.ids (S : Nat→Prop) (l : List AaB) : AbY S (l.map AaB.av)↔True:=iff_true_intro (AgJ (by simp) l)
def Ae5 (k : Nat) (v0 : (List Int)) : Option Bool :=
  some (decide ((v0.length : Int)≤400))
def Ach (k : Nat) (v0 : Int) (v1 : Int) (v2 : Int) : Option Bool :=
  if v1≤v0 then
    some (decide (v0≤v2))
  else
    some false
def AcU (k : Nat) (v0 : Int) (v1 : (List AaA)) (v2 : (List Int)) (v3 : Int) (v4 : Int) (v5 : Int) : Option Bool :=
  Abw (Ach k v3 1 3) fun v7 =>
  if v7=true then
    Abw (Ach k v4 0 (IntKind.wrap .i64 (v0-1))) fun v8 =>
    if v8=true then
      Abw (Ach k v5 0 (IntKind.wrap .i64 (v0-1))) fun v9 =>
      if v9=true then
        some (v4 !=v5)
      else
        some false
    else
      some false
  else
    some false
def AcG (k : Nat) (v0 : Int) : Option Int :=
  some (IntKind.wrap .i64 (2+IntKind.wrap .i64 (2*v0)))
def AaP.J2 (k : Nat) (v9 : Int) (kb1 : Int→(List AaD)→Option (Int×(List AaD))) (v11 : (List AaD)) : Option (Int×(List AaD)) :=
  kb1 (IntKind.wrap .i64 (v9+1)) v11
def AaP.J4 (k : Nat) (v14 : Int) (kb3 : Int→(List AaD)→Option (Int×(List AaD))) (v16 : (List AaD)) : Option (Int×(List AaD)) :=
  kb3 (IntKind.wrap .i64 (v14+1)) v16
def AaP.J6 (k : Nat) (v14 : Int) (v15 : (List AaD)) (v20 : Int) (kb3 : Int→(List AaD)→Option (Int×(List AaD))) (v21 : Int) : Option (Int×(List AaD)) :=
  chk ((v15.length+([(AaD.mk v20 v21 1)] : List AaD).length)*24≤140737488355328) <|
  AaP.J4 k v14 kb3 (v15++([(AaD.mk v20 v21 1)] : List AaD))
def AaP.J5 (k : Nat) (v5 : Int) (v14 : Int) (v15 : (List AaD)) (v17 : AaA) (v19 : Int) (kb3 : Int→(List AaD)→Option (Int×(List AaD))) (v20 : Int) : Option (Int×(List AaD)) :=
  if v17.To=v5 then
    AaP.J6 k v14 v15 v20 kb3 1
  else
    AaP.J6 k v14 v15 v20 kb3 v19
def AaP.L3 (k : Nat) (v1 : (List AaA)) (v3 : Int) (v4 : Int) (v5 : Int) (v8 : Int) : Nat→Int→(List AaD)→Option (Int×(List AaD))
  | 0,_,_=>none
  | n+1,v14,v15 =>
    if v14<(v1.length : Int) then
      idx v1 v14 fun v17 =>
      if v17.Level<v3 then
        AaP.J4 k v14 (fun v14_ v15_=>AaP.L3 k v1 v3 v4 v5 v8 n v14_ v15_) v15
      else
        if v17.To=v4 then
          AaP.J4 k v14 (fun v14_ v15_=>AaP.L3 k v1 v3 v4 v5 v8 n v14_ v15_) v15
        else
          if v17.From=v5 then
            AaP.J4 k v14 (fun v14_ v15_=>AaP.L3 k v1 v3 v4 v5 v8 n v14_ v15_) v15
          else
            Abw (AcG k v17.From) fun v18 =>
            Abw (AcG k v17.To) fun v19 =>
            if v17.From=v4 then
              AaP.J5 k v5 v14 v15 v17 v19 (fun v14_ v15_=>AaP.L3 k v1 v3 v4 v5 v8 n v14_ v15_) 0
            else
              AaP.J5 k v5 v14 v15 v17 v19 (fun v14_ v15_=>AaP.L3 k v1 v3 v4 v5 v8 n v14_ v15_) (IntKind.wrap .i64 (v18+1))
    else
      some (v8,v15)
def AaP.L1 (k : Nat) (v0 : Int) (v1 : (List AaA)) (v3 : Int) (v4 : Int) (v5 : Int) (v8 : Int) : Nat→Int→(List AaD)→Option (Int×(List AaD))
  | 0,_,_=>none
  | n+1,v9,v10 =>
    if v9<v0 then
      if v9≠v4 then
        if v9≠v5 then
          Abw (AcG k v9) fun v12 =>
          Abw (AcG k v9) fun v13 =>
          chk ((v10.length+([(AaD.mk v12 (IntKind.wrap .i64 (v13+1)) 1)] : List AaD).length)*24≤140737488355328) <|
          AaP.J2 k v9 (fun v9_ v10_=>AaP.L1 k v0 v1 v3 v4 v5 v8 n v9_ v10_) (v10++([(AaD.mk v12 (IntKind.wrap .i64 (v13+1)) 1)] : List AaD))
        else
          AaP.J2 k v9 (fun v9_ v10_=>AaP.L1 k v0 v1 v3 v4 v5 v8 n v9_ v10_) v10
      else
        AaP.J2 k v9 (fun v9_ v10_=>AaP.L1 k v0 v1 v3 v4 v5 v8 n v9_ v10_) v10
    else
      AaP.L3 k v1 v3 v4 v5 v8 k 0 v10
def AaP (k : Nat) (v0 : Int) (v1 : (List AaA)) (v2 : (List Int)) (v3 : Int) (v4 : Int) (v5 : Int) : Option (Int×(List AaD)) :=
  Abw (AcG k v0) fun v8 =>
  AaP.L1 k v0 v1 v3 v4 v5 v8 k 0 ([] : List AaD)
def AdP (k : Nat) (v0 : Int) (v1 : Int) (v2 : Int) (v3 : Int) (v4 : (List AaD)) : Option Bool :=
  Abw (Ach k v0 0 (IntKind.wrap .i64 (v3-1))) fun v6 =>
  if (!v6)=true then
    some true
  else
    Abw (Ach k v1 0 (IntKind.wrap .i64 (v3-1))) fun v7 =>
    if (!v7)=true then
      some true
    else
      if v0=v1 then
        some true
      else
        if v1=0 then
          some true
        else
          if v0=1 then
            some true
          else
            Abw (Ach k v2 0 1048576) fun v8 =>
            some (!v8)
def AaU.L1 (k : Nat) (v0 : (List AaD)) (v1 : Int) (v2 : (List AaD)) : Nat→Int→Option Int
  | 0,_=>none
  | n+1,v4 =>
    if v4<(v0.length : Int) then
      idx v0 v4 fun v5 =>
      Abw (AdP k v5.From v5.To v5.Cap v1 v2) fun v6 =>
      if v6=true then
        some v4
      else
        AaU.L1 k v0 v1 v2 n (IntKind.wrap .i64 (v4+1))
    else
      some (-1)
def AaU (k : Nat) (v0 : (List AaD)) (v1 : Int) (v2 : (List AaD)) : Option Int :=
  AaU.L1 k v0 v1 v2 k 0
def Aa8 (k : Nat) (v0 : (List AaD)) (v1 : Int) (v2 : (List AaD)) : Option Bool :=
  Abw (AaU k v0 v1 v2) fun v4 =>
  some (decide (0≤v4))
def AdF (k : Nat) (v0 : Int) (v1 : (List AaD)) : Option Int :=
  Abw (Ach k v0 2 130) fun v3 =>
  if (!v3)=true then
    some 16
  else
    if 1200<(v1.length : Int) then
      some 16
    else
      Abw (Aa8 k v1 v0 v1) fun v4 =>
      if v4=true then
        some 16
      else
        some 0
def AbL (k : Nat) (v0 : (List Int)) : Option (List Int) :=
  chk (v0.length*8≤140737488355328) <| some v0
def Abc.S (v4 : (List (List AaB))) (x : Int) (e : AaB) (F : (List (List AaB))→Option (List (List AaB))) : Option (List (List AaB)) :=
  chk ((0 : Int)≤x∧x.toNat<v4.length) <|
  idx v4 x fun l =>
  chk ((l.length+([e] : List AaB).length)*16≤140737488355328) <|
  F (v4.set x.toNat (l++[e]))
def Abc.L1 (k : Nat) (v1 : (List AaD)) : Nat→Int→(List (List AaB))→Option (List (List AaB))
  | 0,_,_=>none
  | n+1,v3,v4 =>
    if v3<(v1.length : Int) then
      idx v1 v3 fun v5 =>
      Abc.S v4 v5.From ⟨v3,false⟩ fun v6 =>
      Abc.S v6 v5.To ⟨v3,true⟩ fun v7 =>
      Abc.L1 k v1 n (IntKind.wrap .i64 (v3+1)) v7
    else
      some v4
def Abc (k : Nat) (v0 : Int) (v1 : (List AaD)) (v2 : (List Int)) : Option (List (List AaB)) :=
  chk ((0 : Int)≤v0∧24*v0≤281474976710656) <|
  Abc.L1 k v1 k 0 (List.replicate v0.toNat ([] : List AaB))
def Abu (k : Nat) (v0 : Int) (v1 : (List AaD)) (v2 : (List Int)) (v3 : (List (List AaB))) (v4 : Int) (v5 : Bool) : Option (Int×Int) :=
  idx v1 v4 fun v8 =>
  if v5=true then
    idx v2 v4 fun v9 =>
    some (v9,v8.From)
  else
    idx v2 v4 fun v10 =>
    some (IntKind.wrap .i64 (v8.Cap-v10),v8.To)
def AaL.J3 (k : Nat) (v11 : Int) (kb2 : Nat→Int→(List (Int×AaB))→(List Int)→Option (List (Int×AaB))) (v14 : (List (Int×AaB))) (v15 : (List Int)) (v16 : Nat) : Option (List (Int×AaB)) :=
  kb2 v16 (IntKind.wrap .i64 (v11+1)) v14 v15
def AaL.J4 (k : Nat) (v10 : Nat) (v11 : Int) (v12 : (List (Int×AaB))) (v13 : (List Int)) (v17 : AaB) (v18 : Int) (v19 : Int) (kb2 : Nat→Int→(List (Int×AaB))→(List Int)→Option (List (Int×AaB))) (v20 : Bool) : Option (List (Int×AaB)) :=
  if 0<v18 then
    if (!v20)=true then
      chk (((v13.drop v10).length+([v19] : List Int).length)*8≤140737488355328∧v10≤v13.length) <|
      AaL.J3 k v11 kb2 (AbC v12 v19 v17) ((v13.drop v10)++([v19] : List Int)) 0
    else
      AaL.J3 k v11 kb2 v12 v13 v10
  else
    AaL.J3 k v11 kb2 v12 v13 v10
def AaL.L2 (k : Nat) (v0 : Int) (v1 : (List AaD)) (v2 : (List Int)) (v3 : (List (List AaB))) (v9 : (List AaB)) (kb1 : Nat→(List (Int×AaB))→(List Int)→Option (List (Int×AaB))) : Nat→Nat→Int→(List (Int×AaB))→(List Int)→Option (List (Int×AaB))
  | 0,_,_,_,_=>none
  | n+1,v10,v11,v12,v13 =>
    if v11<(v9.length : Int) then
      idx v9 v11 fun v17 =>
      AhI (Abu k v0 v1 v2 v3 v17.arc v17.back) fun v18 v19 =>
      AgG (Ab4 v12 v19) (fun v21 =>
        AaL.J4 k v10 v11 v12 v13 v17 v18 v19 (fun v10_ v11_ v12_ v13_=>AaL.L2 k v0 v1 v2 v3 v9 kb1 n v10_ v11_ v12_ v13_) true
      ) <|
      AaL.J4 k v10 v11 v12 v13 v17 v18 v19 (fun v10_ v11_ v12_ v13_=>AaL.L2 k v0 v1 v2 v3 v9 kb1 n v10_ v11_ v12_ v13_) false
    else
      chk (0<v13.length∧(1 : Int)≤(((v13.length-v10) : Nat) : Int)) <|
      kb1 (v10+(1 : Int).toNat) v12 v13
def AaL.L1 (k : Nat) (v0 : Int) (v1 : (List AaD)) (v2 : (List Int)) (v3 : (List (List AaB))) : Nat→Nat→(List (Int×AaB))→(List Int)→Option (List (Int×AaB))
  | 0,_,_,_=>none
  | n+1,v5,v6,v7 =>
    if 0<(((v7.length-v5) : Nat) : Int) then
      chk ((0 : Int)≤0∧(0 : Int).toNat<(v7.length-v5)∧v5+(0 : Int).toNat<v7.length) <|
      idx v7 ((v5+(0 : Int).toNat : Nat) : Int) fun v8 =>
      idx v3 v8 fun v9 =>
      AaL.L2 k v0 v1 v2 v3 v9 (fun v5_ v6_ v7_=>AaL.L1 k v0 v1 v2 v3 n v5_ v6_ v7_) k v5 0 v6 v7
    else
      some v6
def AaL (k : Nat) (v0 : Int) (v1 : (List AaD)) (v2 : (List Int)) (v3 : (List (List AaB))) : Option (List (Int×AaB)) :=
  AaL.L1 k v0 v1 v2 v3 k 0 (AbC ([] : (List (Int×AaB))) 0 (AaB.mk (-1) false)) ([0] : List Int)
def AaN.J3 (k : Nat) (v0 : Int) (v1 : (List AaD)) (v2 : (List Int)) (v3 : (List (List AaB))) (v8 : Int) (v10 : (List AaB)) (kb2 : Int→Int→(List AaB)→Option (Bool×(List Int))) (v11 : Int) (v12 : Bool) : Option (Bool×(List Int)) :=
  AhI (Abu k v0 v1 v2 v3 v11 v12) fun v13 v14 =>
  chk ((v10.length+([(AaB.mk v11 v12)] : List AaB).length)*16≤140737488355328) <|
  Am8 (if v13<v8 then v13 else v8) fun v15 =>
  idx v1 v11 fun v16 =>
  if v12=true then
    kb2 v15 v16.To (v10++([(AaB.mk v11 v12)] : List AaB))
  else
    kb2 v15 v16.From (v10++([(AaB.mk v11 v12)] : List AaB))
def AaN.J5 (k : Nat) (v18 : Int) (kb4 : Int→(List Int)→Option (Bool×(List Int))) (v20 : (List Int)) : Option (Bool×(List Int)) :=
  kb4 (IntKind.wrap .i64 (v18+1)) v20
def AaN.L4 (k : Nat) (v8 : Int) (v10 : (List AaB)) : Nat→Int→(List Int)→Option (Bool×(List Int))
  | 0,_,_=>none
  | n+1,v18,v19 =>
    if v18<(v10.length : Int) then
      idx v10 v18 fun v21 =>
      if v21.back=true then
        chk ((0 : Int)≤v21.arc∧(v21.arc).toNat<v19.length) <|
        idx v19 v21.arc fun v22 =>
        chk ((0 : Int)≤v21.arc∧(v21.arc).toNat<v19.length) <|
        AaN.J5 k v18 (fun v18_ v19_=>AaN.L4 k v8 v10 n v18_ v19_) (v19.set (v21.arc).toNat (IntKind.wrap .i64 (v22-v8)))
      else
        chk ((0 : Int)≤v21.arc∧(v21.arc).toNat<v19.length) <|
        idx v19 v21.arc fun v23 =>
        chk ((0 : Int)≤v21.arc∧(v21.arc).toNat<v19.length) <|
        AaN.J5 k v18 (fun v18_ v19_=>AaN.L4 k v8 v10 n v18_ v19_) (v19.set (v21.arc).toNat (IntKind.wrap .i64 (v23+v8)))
    else
      some (true,v19)
def AaN.L2 (k : Nat) (v0 : Int) (v1 : (List AaD)) (v2 : (List Int)) (v3 : (List (List AaB))) (v6 : (List (Int×AaB))) : Nat→Int→Int→(List AaB)→Option (Bool×(List Int))
  | 0,_,_,_=>none
  | n+1,v8,v9,v10 =>
    if v9≠0 then
      AgG (Ab4 v6 v9) (fun v17 =>
        AaN.J3 k v0 v1 v2 v3 v8 v10 (fun v8_ v9_ v10_=>AaN.L2 k v0 v1 v2 v3 v6 n v8_ v9_ v10_) v17.arc v17.back
      ) <|
      AaN.J3 k v0 v1 v2 v3 v8 v10 (fun v8_ v9_ v10_=>AaN.L2 k v0 v1 v2 v3 v6 n v8_ v9_ v10_) 0 false
    else
      AaN.L4 k v8 v10 k 0 v2
def AaN.J1 (k : Nat) (v0 : Int) (v1 : (List AaD)) (v2 : (List Int)) (v3 : (List (List AaB))) (v6 : (List (Int×AaB))) (v7 : Bool) : Option (Bool×(List Int)) :=
  if (!v7)=true then
    some (false,v2)
  else
    AaN.L2 k v0 v1 v2 v3 v6 k 1048576 1 ([] : List AaB)
def AaN (k : Nat) (v0 : Int) (v1 : (List AaD)) (v2 : (List Int)) (v3 : (List (List AaB))) : Option (Bool×(List Int)) :=
  Abw (AaL k v0 v1 v2 v3) fun v6 =>
  AgG (Ab4 v6 1) (fun v24 =>
    AaN.J1 k v0 v1 v2 v3 v6 true
  ) <|
  AaN.J1 k v0 v1 v2 v3 v6 false
def AcA.L1 (k : Nat) (v0 : Int) (v1 : (List AaD)) (v5 : (List (List AaB))) : Nat→(List Int)→Option (List Int)
  | 0,_=>none
  | n+1,v6 =>
    AhI (AaN k v0 v1 v6 v5) fun v7 v8 =>
    chk (v8.length=v6.length) <|
    if v7=true then
      AcA.L1 k v0 v1 v5 n v8
    else
      some v8
def AcA (k : Nat) (v0 : Int) (v1 : (List AaD)) (v2 : (List Int)) : Option (List Int) :=
  Abw (AbL k v2) fun v4 =>
  Abw (Abc k v0 v1 v4) fun v5 =>
  AcA.L1 k v0 v1 v5 k v4
def Ae6 (k : Nat) (v0 : Int) (v1 : (List AaD)) : Option ((List Int)×Int) :=
  Abw (AdF k v0 v1) fun v4 =>
  if v4≠0 then
    some (([] : List Int),v4)
  else
    chk ((0 : Int)≤(v1.length : Int)∧16*(v1.length : Int)≤281474976710656) <|
    Abw (AcA k v0 v1 (List.replicate ((v1.length : Int)).toNat (0 : Int))) fun v5 =>
    some (v5,0)
def AbS.L1 (k : Nat) (v1 : (List AaD)) (v2 : (List Int)) : Nat→Int→(List Int)→Option (List Int)
  | 0,_,_=>none
  | n+1,v4,v5 =>
    if v4<(v1.length : Int) then
      idx v1 v4 fun v6 =>
      chk ((0 : Int)≤v6.From∧(v6.From).toNat<v5.length) <|
      idx v5 v6.From fun v7 =>
      idx v2 v4 fun v8 =>
      chk ((0 : Int)≤v6.From∧(v6.From).toNat<v5.length) <|
      chk ((0 : Int)≤v6.To∧(v6.To).toNat<(v5.set (v6.From).toNat (IntKind.wrap .i64 (v7+v8))).length) <|
      idx (v5.set (v6.From).toNat (IntKind.wrap .i64 (v7+v8))) v6.To fun v9 =>
      chk ((0 : Int)≤v6.To∧(v6.To).toNat<(v5.set (v6.From).toNat (IntKind.wrap .i64 (v7+v8))).length) <|
      AbS.L1 k v1 v2 n (IntKind.wrap .i64 (v4+1)) ((v5.set (v6.From).toNat (IntKind.wrap .i64 (v7+v8))).set (v6.To).toNat (IntKind.wrap .i64 (v9-v8)))
    else
      some v5
def AbS (k : Nat) (v0 : Int) (v1 : (List AaD)) (v2 : (List Int)) : Option (List Int) :=
  chk ((0 : Int)≤v0∧16*v0≤281474976710656) <|
  AbS.L1 k v1 v2 k 0 (List.replicate (v0).toNat (0 : Int))
def Adx (k : Nat) (v0 : Int) : Option Bool :=
  some (v0 !=0)
def Aaf.L1 (k : Nat) (v0 : (List Int)) : Nat→Int→Option Int
  | 0,_=>none
  | n+1,v2 =>
    if v2<(v0.length : Int) then
      idx v0 v2 fun v3 =>
      Abw (Adx k v3) fun v4 =>
      if v4=true then
        some v2
      else
        Aaf.L1 k v0 n (IntKind.wrap .i64 (v2+1))
    else
      some (-1)
def Aaf (k : Nat) (v0 : (List Int)) : Option Int :=
  Aaf.L1 k v0 k 0
def AbI (k : Nat) (v0 : (List Int)) : Option Bool :=
  Abw (Aaf k v0) fun v2 =>
  some (decide (0≤v2))
def Abp.L1 (k : Nat) (v0 : Int) (v1 : (List AaD)) (v2 : (List Int)) : Nat→Int→Option Bool
  | 0,_=>none
  | n+1,v5 =>
    if v5<(v1.length : Int) then
      idx v1 v5 fun v6 =>
      idx v2 v5 fun v7 =>
      Abw (Ach k v7 0 v6.Cap) fun v8 =>
      if (!v8)=true then
        some false
      else
        Abp.L1 k v0 v1 v2 n (IntKind.wrap .i64 (v5+1))
    else
      Abw (AbS k v0 v1 v2) fun v9 =>
      chk ((2 : Int)≤((v9.length : Nat) : Int)) <|
      Abw (AbI k (v9.drop ((2 : Int).toNat))) fun v10 =>
      some (!v10)
def Abp (k : Nat) (v0 : Int) (v1 : (List AaD)) (v2 : (List Int)) : Option Bool :=
  Abw (AdF k v0 v1) fun v4 =>
  if v4≠0 then
    some false
  else
    if (v2.length : Int)≠(v1.length : Int) then
      some false
    else
      Abp.L1 k v0 v1 v2 k 0
def AdE (k : Nat) (v0 : Int) (v1 : (List AaD)) (v2 : (List Int)) : Option Int :=
  Abw (Abp k v0 v1 v2) fun v4 =>
  if (!v4)=true then
    some 0
  else
    Abw (AbS k v0 v1 v2) fun v5 =>
    chk ((0 : Int)≤0∧(0 : Int).toNat<v5.length) <|
    idx v5 (0 : Int) fun v6 =>
    some v6
def Aeu (k : Nat) (v0 : Int) (v1 : Int) (v2 : Int) (v3 : Int) : Option Bool :=
  some (v0==v3)
def Aak.L1 (k : Nat) (v0 : (List AaD)) (v1 : Int) : Nat→Int→Option Int
  | 0,_=>none
  | n+1,v3 =>
    if v3<(v0.length : Int) then
      idx v0 v3 fun v4 =>
      Abw (Aeu k v4.From v4.To v4.Cap v1) fun v5 =>
      if v5=true then
        some v3
      else
        Aak.L1 k v0 v1 n (IntKind.wrap .i64 (v3+1))
    else
      some (-1)
def Aak (k : Nat) (v0 : (List AaD)) (v1 : Int) : Option Int :=
  Aak.L1 k v0 v1 k 0
def AcP (k : Nat) (v0 : (List Int)) : Option (List Int) :=
  chk (v0.length*8≤140737488355328) <| some v0
def Aae.J4 (k : Nat) (v12 : (List Int)) (v17 : Int) (v18 : Int) (v19 : AaD) (kb2 : (List Int)→(List Int)→(List (Int×Int))→Int→Option ((List (List Int))×Int)) (v20 : (List Int)) (v21 : (List (Int×Int))) : Option ((List (List Int))×Int) :=
  kb2 (v12.set (v17).toNat (IntKind.wrap .i64 (v18-1))) v20 (AbC v21 v19.To (v20.length : Int)) v19.To
def Aae.L6 (k : Nat) (v1 : (List AaD)) (v12 : (List Int)) (v13 : (List Int)) (v17 : Int) (v18 : Int) (v19 : AaD) (v22 : Int) (kb2 : (List Int)→(List Int)→(List (Int×Int))→Int→Option ((List (List Int))×Int)) : Nat→Int→(List (Int×Int))→Option ((List (List Int))×Int)
  | 0,_,_=>none
  | n+1,v24,v25 =>
    if v24<((((v13++([v17] : List Int)).length-((v22).toNat)) : Nat) : Int) then
      chk ((0 : Int)≤v24∧(v24).toNat<((v13++([v17] : List Int)).length-((v22).toNat))∧(v22).toNat+(v24).toNat<(v13++([v17] : List Int)).length) <|
      idx (v13++([v17] : List Int)) (((v22).toNat+(v24).toNat : Nat) : Int) fun v26 =>
      idx v1 v26 fun v27 =>
      Aae.L6 k v1 v12 v13 v17 v18 v19 v22 kb2 n (IntKind.wrap .i64 (v24+1)) (Akr v25 v27.To)
    else
      chk (0<(v13++([v17] : List Int)).length∧(0 : Int)<v22∧(0 : Int)≤v22∧(v22 : Int)≤(((v13++([v17] : List Int)).length : Nat) : Int)) <|
      Aae.J4 k v12 v17 v18 v19 kb2 ((v13++([v17] : List Int)).take ((v22).toNat)) v25
def Aae.J5 (k : Nat) (v1 : (List AaD)) (v12 : (List Int)) (v13 : (List Int)) (v14 : (List (Int×Int))) (v17 : Int) (v18 : Int) (v19 : AaD) (kb2 : (List Int)→(List Int)→(List (Int×Int))→Int→Option ((List (List Int))×Int)) (v22 : Int) (v23 : Bool) : Option ((List (List Int))×Int) :=
  if v23=true then
    chk (0<(v13++([v17] : List Int)).length∧(0 : Int)≤v22∧(v22 : Int)≤(((v13++([v17] : List Int)).length : Nat) : Int)) <|
    Aae.L6 k v1 v12 v13 v17 v18 v19 v22 kb2 k 0 v14
  else
    Aae.J4 k v12 v17 v18 v19 kb2 (v13++([v17] : List Int)) v14
def Aae.J3 (k : Nat) (v1 : (List AaD)) (v12 : (List Int)) (v13 : (List Int)) (v14 : (List (Int×Int))) (kb2 : (List Int)→(List Int)→(List (Int×Int))→Int→Option ((List (List Int))×Int)) (v17 : Int) : Option ((List (List Int))×Int) :=
  chk ((0 : Int)≤v17∧(v17).toNat<v12.length) <|
  idx v12 v17 fun v18 =>
  chk ((0 : Int)≤v17∧(v17).toNat<v12.length) <|
  chk ((v13.length+([v17] : List Int).length)*8≤140737488355328) <|
  idx v1 v17 fun v19 =>
  AgG (Ab4 v14 v19.To) (fun v28 =>
    Aae.J5 k v1 v12 v13 v14 v17 v18 v19 kb2 v28 true
  ) <|
  Aae.J5 k v1 v12 v13 v14 v17 v18 v19 kb2 0 false
def Aae.J8 (k : Nat) (v29 : Int) (kb7 : Int→Option ((List (List Int))×Int)) : Option ((List (List Int))×Int) :=
  kb7 (IntKind.wrap .i64 (v29+1))
def Aae.L7 (k : Nat) (v1 : (List AaD)) (v12 : (List Int)) (v13 : (List Int)) (v14 : (List (Int×Int))) (v15 : Int) (kb2 : (List Int)→(List Int)→(List (Int×Int))→Int→Option ((List (List Int))×Int)) : Nat→Int→Option ((List (List Int))×Int)
  | 0,_=>none
  | n+1,v29 =>
    if v29<(v1.length : Int) then
      idx v1 v29 fun v30 =>
      if v30.From≠v15 then
        Aae.J8 k v29 (fun v29_=>Aae.L7 k v1 v12 v13 v14 v15 kb2 n v29_)
      else
        chk ((0 : Int)≤v29∧(v29).toNat<v12.length) <|
        idx v12 v29 fun v31 =>
        if v31=0 then
          Aae.J8 k v29 (fun v29_=>Aae.L7 k v1 v12 v13 v14 v15 kb2 n v29_)
        else
          Aae.J3 k v1 v12 v13 v14 kb2 v29
    else
      Aae.J3 k v1 v12 v13 v14 kb2 v29
def Aae.L2 (k : Nat) (v1 : (List AaD)) (v9 : Int) (v11 : (List (List Int))) (kb1 : Int→(List Int)→(List (List Int))→Option ((List (List Int))×Int)) : Nat→(List Int)→(List Int)→(List (Int×Int))→Int→Option ((List (List Int))×Int)
  | 0,_,_,_,_=>none
  | n+1,v12,v13,v14,v15 =>
    if v15≠1 then
      Abw (Aak k v1 v15) fun v16 =>
      Aae.L7 k v1 v12 v13 v14 v15 (fun v12_ v13_ v14_ v15_=>Aae.L2 k v1 v9 v11 kb1 n v12_ v13_ v14_ v15_) k v16
    else
      Abw (AcP k v13) fun v32 =>
      chk ((v11.length+([v32] : List (List Int)).length)*24≤140737488355328) <|
      kb1 (IntKind.wrap .i64 (v9+1)) v12 (v11++([v32] : List (List Int)))
def Aae.L1 (k : Nat) (v1 : (List AaD)) (v8 : Int) : Nat→Int→(List Int)→(List (List Int))→Option ((List (List Int))×Int)
  | 0,_,_,_=>none
  | n+1,v9,v10,v11 =>
    if v9<v8 then
      Aae.L2 k v1 v9 v11 (fun v9_ v10_ v11_=>Aae.L1 k v1 v8 n v9_ v10_ v11_) k v10 ([] : List Int) (AbC ([] : (List (Int×Int))) 0 0) 0
    else
      some (v11,0)
def Aae (k : Nat) (v0 : Int) (v1 : (List AaD)) (v2 : (List Int)) : Option ((List (List Int))×Int) :=
  Abw (AdF k v0 v1) fun v5 =>
  if v5≠0 then
    some (([] : List (List Int)),v5)
  else
    Abw (Abp k v0 v1 v2) fun v6 =>
    if (!v6)=true then
      some (([] : List (List Int)),17)
    else
      Abw (AbL k v2) fun v7 =>
      Abw (AdE k v0 v1 v2) fun v8 =>
      Aae.L1 k v1 v8 k 0 v7 ([] : List (List Int))
def Aa3.J3 (k : Nat) (v17 : Int) (kb2 : Int→(List Int)→Option (List (List Int))) (v19 : (List Int)) : Option (List (List Int)) :=
  kb2 (IntKind.wrap .i64 (v17+1)) v19
def Aa3.L2 (k : Nat) (v5 : Int) (v9 : (List AaD)) (v14 : Int) (v15 : (List (List Int))) (v16 : (List Int)) (kb1 : Int→(List (List Int))→Option (List (List Int))) : Nat→Int→(List Int)→Option (List (List Int))
  | 0,_,_=>none
  | n+1,v17,v18 =>
    if v17<(v16.length : Int) then
      idx v16 v17 fun v20 =>
      idx v9 v20 fun v21 =>
      if v21.To=1 then
        chk ((v18.length+([v5] : List Int).length)*8≤140737488355328) <|
        Aa3.J3 k v17 (fun v17_ v18_=>Aa3.L2 k v5 v9 v14 v15 v16 kb1 n v17_ v18_) (v18++([v5] : List Int))
      else
        if (Int.tmod v21.To 2)=0 then
          chk ((v18.length+([IntKind.wrap .i64 (Int.tdiv (IntKind.wrap .i64 (v21.To-2)) 2)] : List Int).length)*8≤140737488355328) <|
          Aa3.J3 k v17 (fun v17_ v18_=>Aa3.L2 k v5 v9 v14 v15 v16 kb1 n v17_ v18_) (v18++([IntKind.wrap .i64 (Int.tdiv (IntKind.wrap .i64 (v21.To-2)) 2)] : List Int))
        else
          Aa3.J3 k v17 (fun v17_ v18_=>Aa3.L2 k v5 v9 v14 v15 v16 kb1 n v17_ v18_) v18
    else
      chk ((v15.length+([v18] : List (List Int)).length)*24≤140737488355328) <|
      kb1 (IntKind.wrap .i64 (v14+1)) (v15++([v18] : List (List Int)))
def Aa3.L1 (k : Nat) (v4 : Int) (v5 : Int) (v9 : (List AaD)) (v12 : (List (List Int))) : Nat→Int→(List (List Int))→Option (List (List Int))
  | 0,_,_=>none
  | n+1,v14,v15 =>
    if v14<(v12.length : Int) then
      idx v12 v14 fun v16 =>
      Aa3.L2 k v5 v9 v14 v15 v16 (fun v14_ v15_=>Aa3.L1 k v4 v5 v9 v12 n v14_ v15_) k 0 ([v4] : List Int)
    else
      some v15
def Aa3 (k : Nat) (v0 : Int) (v1 : (List AaA)) (v2 : (List Int)) (v3 : Int) (v4 : Int) (v5 : Int) : Option (List (List Int)) :=
  Abw (AcU k v0 v1 v2 v3 v4 v5) fun v7 =>
  if (!v7)=true then
    some ([] : List (List Int))
  else
    AhI (AaP k v0 v1 v2 v3 v4 v5) fun v8 v9 =>
    AhI (Ae6 k v8 v9) fun v10 v11 =>
    AhI (Aae k v8 v9 v10) fun v12 v13 =>
    Aa3.L1 k v4 v5 v9 v12 k 0 ([] : List (List Int))
def AbX (k : Nat) (v0 : (List AaA)) : Option (List AaA) :=
  chk (v0.length*24≤140737488355328) <| some v0
def AdK (k : Nat) (v0 : Int) (v1 : (List AaA)) (v2 : (List Int)) : Option (Int×(List AaA)×(List Int)) :=
  Abw (AbX k v1) fun v6 =>
  Abw (AbL k v2) fun v7 =>
  some (v0,v6,v7)
def AcZ (k : Nat) (v0 : Int) (v1 : Int) (v2 : Int) (v3 : Int) : Option Bool :=
  some (decide (v2<v3))
def AaW.L1 (k : Nat) (v0 : (List AaA)) (v1 : Int) : Nat→Int→Option Int
  | 0,_=>none
  | n+1,v3 =>
    if v3<(v0.length : Int) then
      idx v0 v3 fun v4 =>
      Abw (AcZ k v4.From v4.To v4.Level v1) fun v5 =>
      if v5=true then
        some v3
      else
        AaW.L1 k v0 v1 n (IntKind.wrap .i64 (v3+1))
    else
      some (-1)
def AaW (k : Nat) (v0 : (List AaA)) (v1 : Int) : Option Int :=
  AaW.L1 k v0 v1 k 0
def AaH.J2 (k : Nat) (v5 : Int) (kb1 : Int→Int→(List AaA)→Option (List AaA)) (v7 : (List AaA)) (v8 : Int) : Option (List AaA) :=
  kb1 v8 (IntKind.wrap .i64 (v5+1)) v7
def AaH.L1 (k : Nat) (v1 : Int) : Nat→Int→Int→(List AaA)→Option (List AaA)
  | 0,_,_,_=>none
  | n+1,v4,v5,v6 =>
    if v5<(v6.length : Int) then
      idx v6 v5 fun v9 =>
      Abw (AcZ k v9.From v9.To v9.Level v1) fun v10 =>
      if (!v10)=true then
        idx v6 v4 fun v11 =>
        AaH.J2 k v5 (fun v4_ v5_ v6_=>AaH.L1 k v1 n v4_ v5_ v6_) (v6.set (v4).toNat v9) (IntKind.wrap .i64 (v4+1))
      else
        AaH.J2 k v5 (fun v4_ v5_ v6_=>AaH.L1 k v1 n v4_ v5_ v6_) v6 v4
    else
      chk ((0 : Int)≤v4∧(v4 : Int)≤((v6.length : Nat) : Int)) <|
      chk (0<v6.length∧(v4).toNat≤v6.length) <|
      Am8 (v6.take ((v4).toNat)++List.replicate (v6.length-((v4).toNat)) (AaA.mk 0 0 0)) fun v12 =>
      chk ((0 : Int)≤v4∧(v4 : Int)≤((v12.length : Nat) : Int)) <|
      some (v12.take ((v4).toNat))
def AaH (k : Nat) (v0 : (List AaA)) (v1 : Int) : Option (List AaA) :=
  Abw (AaW k v0 v1) fun v3 =>
  if v3=(-1) then
    some v0
  else
    AaH.L1 k v1 k v3 (IntKind.wrap .i64 (v3+1)) v0
def Ac3 (k : Nat) (v0 : Int) (v1 : (List AaA)) (v2 : (List Int)) (v3 : Int) : Option (Int×(List AaA)×(List Int)) :=
  Aq8 (AdK k v0 v1 v2) fun v7 v8 v9 =>
  Abw (AaH k v8 v3) fun v10 =>
  some (v7,v10,v9)
def Aa1.J3 (k : Nat) (v6 : Int) (v7 : Int) : Option Int :=
  idx (bI (ByteArray.mk #[0,1,2,2,3,3,3,3,4,4,4,4,4,4,4,4,5,5,5,5,5,5,5,5,5,5,5,5,5,5,5,5,6,6,6,6,6,6,6,6,6,6,6,6,6,6,6,6,6,6,6,6,6,6,6,6,6,6,6,6,6,6,6,6,7,7,7,7,7,7,7,7,7,7,7,7,7,7,7,7,7,7,7,7,7,7,7,7,7,7,7,7,7,7,7,7,7,7,7,7,7,7,7,7,7,7,7,7,7,7,7,7,7,7,7,7,7,7,7,7,7,7,7,7,7,7,7,7,8,8,8,8,8,8,8,8,8,8,8,8,8,8,8,8,8,8,8,8,8,8,8,8,8,8,8,8,8,8,8,8,8,8,8,8,8,8,8,8,8,8,8,8,8,8,8,8,8,8,8,8,8,8,8,8,8,8,8,8,8,8,8,8,8,8,8,8,8,8,8,8,8,8,8,8,8,8,8,8,8,8,8,8,8,8,8,8,8,8,8,8,8,8,8,8,8,8,8,8,8,8,8,8,8,8,8,8,8,8,8,8,8,8,8,8,8,8,8,8,8,8,8,8,8,8,8,8])) (IntKind.wrap .u8 v6) fun v8 =>
  some (IntKind.wrap .i64 (v7+IntKind.wrap .i64 v8))
def Aa1.J2 (k : Nat) (v4 : Int) (v5 : Int) : Option Int :=
  if 256≤v4 then
    Aa1.J3 k (Int.fdiv v4 (2 ^ (8))) (IntKind.wrap .i64 (v5+8))
  else
    Aa1.J3 k v4 v5
def Aa1.J1 (k : Nat) (v2 : Int) (v3 : Int) : Option Int :=
  if 65536≤v2 then
    Aa1.J2 k (Int.fdiv v2 (2 ^ (16))) (IntKind.wrap .i64 (v3+16))
  else
    Aa1.J2 k v2 v3
def Aa1 (k : Nat) (v0 : Int) : Option Int :=
  if 4294967296≤v0 then
    Aa1.J1 k (Int.fdiv v0 (2 ^ (32))) 32
  else
    Aa1.J1 k v0 0
def AcY (k : Nat) (v0 : Int) : Option Int :=
  Abw (Aa1 k v0) fun v2 =>
  some v2
def Ac4 (k : Nat) (v0 : Int) : Option Bool :=
  some (v0 !=v0)
def AdR (k : Nat) (v0 : Int) (v1 : Int) : Option Bool :=
  Abw (Ac4 k v0) fun v3 =>
  if v3=true then
    Abw (Ac4 k v1) fun v4 =>
    if (!v4)=true then
      some true
    else
      some (decide (v0<v1))
  else
    some (decide (v0<v1))
def AaM.J2 (k : Nat) (v4 : Int) (kb1 : Int→(List Int)→Option (List Int)) (v6 : (List Int)) : Option (List Int) :=
  kb1 (IntKind.wrap .i64 (v4+1)) v6
def AaM.L3 (k : Nat) (v1 : Int) (v4 : Int) (kb1 : Int→(List Int)→Option (List Int)) : Nat→Int→(List Int)→Option (List Int)
  | 0,_,_=>none
  | n+1,v7,v8 =>
    if v1<v7 then
      chk ((0 : Int)≤v7∧(v7).toNat<v8.length) <|
      idx v8 v7 fun v9 =>
      chk ((0 : Int)≤(IntKind.wrap .i64 (v7-1))∧(IntKind.wrap .i64 (v7-1)).toNat<v8.length) <|
      idx v8 (IntKind.wrap .i64 (v7-1)) fun v10 =>
      Abw (AdR k v9 v10) fun v11 =>
      if v11=true then
        chk ((0 : Int)≤(IntKind.wrap .i64 (v7-1))∧(IntKind.wrap .i64 (v7-1)).toNat<v8.length) <|
        chk ((0 : Int)≤v7∧(v7).toNat<v8.length) <|
        chk ((0 : Int)≤v7∧(v7).toNat<v8.length) <|
        chk ((0 : Int)≤(IntKind.wrap .i64 (v7-1))∧(IntKind.wrap .i64 (v7-1)).toNat<(v8.set (v7).toNat v10).length) <|
        AaM.L3 k v1 v4 kb1 n (IntKind.wrap .i64 (v7-1)) ((v8.set (v7).toNat v10).set (IntKind.wrap .i64 (v7-1)).toNat v9)
      else
        AaM.J2 k v4 kb1 v8
    else
      AaM.J2 k v4 kb1 v8
def AaM.L1 (k : Nat) (v1 : Int) (v2 : Int) : Nat→Int→(List Int)→Option (List Int)
  | 0,_,_=>none
  | n+1,v4,v5 =>
    if v4<v2 then
      AaM.L3 k v1 v4 (fun v4_ v5_=>AaM.L1 k v1 v2 n v4_ v5_) k v4 v5
    else
      some v5
def AaM (k : Nat) (v0 : (List Int)) (v1 : Int) (v2 : Int) : Option (List Int) :=
  AaM.L1 k v1 v2 k (IntKind.wrap .i64 (v1+1)) v0
def Aax.L1 (k : Nat) (v0 : (List Int)) (v1 : Int) (v2 : Int) (v3 : Int) : Nat→Option (List Int)
  | 0=>none
  | n+1 =>
    if IntKind.wrap .i64 (v2-v1)≤12 then
      Abw (AaM k v0 v1 v2) fun v5 =>
      chk (v5.length=v0.length) <|
      some v5
    else
      if v3=0 then
        none
      else
        none
def Aax (k : Nat) (v0 : (List Int)) (v1 : Int) (v2 : Int) (v3 : Int) : Option (List Int) :=
  Aax.L1 k v0 v1 v2 v3 k
def Ab0 (k : Nat) (v0 : (List Int)) : Option (List Int) :=
  Abw (AcY k (IntKind.wrap .u64 (v0.length : Int))) fun v2 =>
  Abw (Aax k v0 0 (v0.length : Int) v2) fun v3 =>
  chk (v3.length=v0.length) <|
  some v3
def AbE.J2 (k : Nat) (v5 : Int) (kb1 : Int→(List Int)→Option (List Int)) (v7 : (List Int)) : Option (List Int) :=
  kb1 (IntKind.wrap .i64 (v5+1)) v7
def AbE.L1 (k : Nat) (v1 : (List AaA)) (v3 : Int) : Nat→Int→(List Int)→Option (List Int)
  | 0,_,_=>none
  | n+1,v5,v6 =>
    if v5<(v1.length : Int) then
      idx v1 v5 fun v8 =>
      if v8.From=v3 then
        chk ((v6.length+([v8.To] : List Int).length)*8≤140737488355328) <|
        AbE.J2 k v5 (fun v5_ v6_=>AbE.L1 k v1 v3 n v5_ v6_) (v6++([v8.To] : List Int))
      else
        AbE.J2 k v5 (fun v5_ v6_=>AbE.L1 k v1 v3 n v5_ v6_) v6
    else
      Abw (Ab0 k v6) fun v9 =>
      chk (v9.length=v6.length) <|
      some v9
def AbE (k : Nat) (v0 : Int) (v1 : (List AaA)) (v2 : (List Int)) (v3 : Int) : Option (List Int) :=
  AbE.L1 k v1 v3 k 0 ([] : List Int)
def Abh (k : Nat) (v0 : Int) (v1 : Int) (v2 : (List AaA)) (v3 : (List Int)) (v4 : Int) (v5 : Int) (v6 : Int) (v7 : (List (Int×Bool))) (v8 : Bool) (v9 : Int) : Option Bool :=
  AgG (Ab4 v7 v0) (fun v11 =>
    if v11=true then
      some true
    else
      if v9=v5 then
        if v0=v6 then
          some v8
        else
          some false
      else
        some false
  ) <|
  if v9=v5 then
    if v0=v6 then
      some v8
    else
      some false
  else
    some false
def AaZ.L1 (k : Nat) (v0 : (List Int)) (v1 : Int) (v2 : (List AaA)) (v3 : (List Int)) (v4 : Int) (v5 : Int) (v6 : Int) (v7 : (List (Int×Bool))) (v8 : Bool) (v9 : Int) : Nat→Int→Option Int
  | 0,_=>none
  | n+1,v11 =>
    if v11<(v0.length : Int) then
      chk ((0 : Int)≤v11∧(v11).toNat<v0.length) <|
      idx v0 v11 fun v12 =>
      Abw (Abh k v12 v1 v2 v3 v4 v5 v6 v7 v8 v9) fun v13 =>
      if v13=true then
        some v11
      else
        AaZ.L1 k v0 v1 v2 v3 v4 v5 v6 v7 v8 v9 n (IntKind.wrap .i64 (v11+1))
    else
      some (-1)
def AaZ (k : Nat) (v0 : (List Int)) (v1 : Int) (v2 : (List AaA)) (v3 : (List Int)) (v4 : Int) (v5 : Int) (v6 : Int) (v7 : (List (Int×Bool))) (v8 : Bool) (v9 : Int) : Option Int :=
  AaZ.L1 k v0 v1 v2 v3 v4 v5 v6 v7 v8 v9 k 0
def AaO.J2 (k : Nat) (v13 : Int) (kb1 : Int→Int→(List Int)→Option (List Int)) (v15 : (List Int)) (v16 : Int) : Option (List Int) :=
  kb1 v16 (IntKind.wrap .i64 (v13+1)) v15
def AaO.L1 (k : Nat) (v1 : Int) (v2 : (List AaA)) (v3 : (List Int)) (v4 : Int) (v5 : Int) (v6 : Int) (v7 : (List (Int×Bool))) (v8 : Bool) (v9 : Int) : Nat→Int→Int→(List Int)→Option (List Int)
  | 0,_,_,_=>none
  | n+1,v12,v13,v14 =>
    if v13<(v14.length : Int) then
      chk ((0 : Int)≤v13∧(v13).toNat<v14.length) <|
      idx v14 v13 fun v17 =>
      Abw (Abh k v17 v1 v2 v3 v4 v5 v6 v7 v8 v9) fun v18 =>
      if (!v18)=true then
        chk ((0 : Int)≤v12∧(v12).toNat<v14.length) <|
        AaO.J2 k v13 (fun v12_ v13_ v14_=>AaO.L1 k v1 v2 v3 v4 v5 v6 v7 v8 v9 n v12_ v13_ v14_) (v14.set (v12).toNat v17) (IntKind.wrap .i64 (v12+1))
      else
        AaO.J2 k v13 (fun v12_ v13_ v14_=>AaO.L1 k v1 v2 v3 v4 v5 v6 v7 v8 v9 n v12_ v13_ v14_) v14 v12
    else
      chk ((0 : Int)≤v12∧(v12 : Int)≤((v14.length : Nat) : Int)) <|
      chk (0<v14.length∧(v12).toNat≤v14.length) <|
      Am8 (v14.take ((v12).toNat)++List.replicate (v14.length-((v12).toNat)) 0) fun v19 =>
      chk ((0 : Int)≤v12∧(v12 : Int)≤((v19.length : Nat) : Int)) <|
      some (v19.take ((v12).toNat))
def AaO (k : Nat) (v0 : (List Int)) (v1 : Int) (v2 : (List AaA)) (v3 : (List Int)) (v4 : Int) (v5 : Int) (v6 : Int) (v7 : (List (Int×Bool))) (v8 : Bool) (v9 : Int) : Option (List Int) :=
  Abw (AaZ k v0 v1 v2 v3 v4 v5 v6 v7 v8 v9) fun v11 =>
  if v11=(-1) then
    some v0
  else
    AaO.L1 k v1 v2 v3 v4 v5 v6 v7 v8 v9 k v11 (IntKind.wrap .i64 (v11+1)) v0
def AbN (k : Nat) (v0 : Int) (v1 : (List AaA)) (v2 : (List Int)) (v3 : Int) (v4 : Int) (v5 : Int) (v6 : (List (Int×Bool))) (v7 : Bool) (v8 : Int) : Option (List Int) :=
  Aq8 (Ac3 k v0 v1 v2 v3) fun v10 v11 v12 =>
  Abw (AbE k v10 v11 v12 v8) fun v13 =>
  Abw (AaO k v13 v0 v1 v2 v3 v4 v5 v6 v7 v8) fun v14 =>
  some v14
def Aaz.L1 (k : Nat) (v0 : (List Int)) (v1 : Int) : Nat→Int→Option Int
  | 0,_=>none
  | n+1,v3 =>
    if v3<(v0.length : Int) then
      idx v0 v3 fun v4 =>
      if v1=v4 then
        some v3
      else
        Aaz.L1 k v0 v1 n (IntKind.wrap .i64 (v3+1))
    else
      some (-1)
def Aaz (k : Nat) (v0 : (List Int)) (v1 : Int) : Option Int :=
  Aaz.L1 k v0 v1 k 0
def AbV (k : Nat) (v0 : (List Int)) (v1 : Int) : Option Bool :=
  Abw (Aaz k v0 v1) fun v3 =>
  some (decide (0≤v3))
def Abe (k : Nat) (v0 : Int) (v1 : (List (Int×Bool))) (v2 : (List (Int×(List Int)))) (v3 : Int) : Option Bool :=
  AgG (Ab4 v1 v0) (fun v5 =>
    if v5=true then
      AgG (Ab4 v2 v0) (fun v6 =>
        Abw (AbV k v6 v3) fun v7 =>
        some v7
      ) <|
      Abw (AbV k ([] : List Int) v3) fun v8 =>
      some v8
    else
      some false
  ) <|
  some false
def Aaj.L1 (k : Nat) (v0 : (List Int)) (v1 : (List (Int×Bool))) (v2 : (List (Int×(List Int)))) (v3 : Int) : Nat→Int→Option Int
  | 0,_=>none
  | n+1,v5 =>
    if v5<(v0.length : Int) then
      idx v0 v5 fun v6 =>
      Abw (Abe k v6 v1 v2 v3) fun v7 =>
      if v7=true then
        some v5
      else
        Aaj.L1 k v0 v1 v2 v3 n (IntKind.wrap .i64 (v5+1))
    else
      some (-1)
def Aaj (k : Nat) (v0 : (List Int)) (v1 : (List (Int×Bool))) (v2 : (List (Int×(List Int)))) (v3 : Int) : Option Int :=
  Aaj.L1 k v0 v1 v2 v3 k 0
def AaC.J3 (k : Nat) (v17 : Int) (kb2 : Nat→Int→(List (Int×Int))→(List (Int×(List Int)))→(List Int)→Option (List Int)) (v21 : (List (Int×Int))) (v22 : (List (Int×(List Int)))) (v23 : (List Int)) (v24 : Nat) : Option (List Int) :=
  kb2 v24 (IntKind.wrap .i64 (v17+1)) v21 v22 v23
def AaC.J6 (k : Nat) (v14 : Int) (v17 : Int) (v19 : (List (Int×(List Int)))) (v25 : Int) (v28 : (List (Int×Int))) (v29 : (List Int)) (v30 : Nat) (kb2 : Nat→Int→(List (Int×Int))→(List (Int×(List Int)))→(List Int)→Option (List Int)) (v32 : Bool) : Option (List Int) :=
  if v32=true then
    chk (v19.length<1000) <|
    AgG (Ab4 v19 v25) (fun v33 =>
      chk ((v33.length+([v14] : List Int).length)*8≤140737488355328) <|
      AaC.J3 k v17 kb2 v28 (AbC v19 v25 (v33++([v14] : List Int))) v29 v30
    ) <|
    chk (([v14] : List Int).length*8≤140737488355328) <|
    AaC.J3 k v17 kb2 v28 (AbC v19 v25 ([v14] : List Int)) v29 v30
  else
    AaC.J3 k v17 kb2 v28 v19 v29 v30
def AaC.J5 (k : Nat) (v14 : Int) (v17 : Int) (v19 : (List (Int×(List Int)))) (v25 : Int) (kb2 : Nat→Int→(List (Int×Int))→(List (Int×(List Int)))→(List Int)→Option (List Int)) (v28 : (List (Int×Int))) (v29 : (List Int)) (v30 : Nat) (v31 : Int) : Option (List Int) :=
  AgG (Ab4 v28 v14) (fun v34 =>
    AaC.J6 k v14 v17 v19 v25 v28 v29 v30 kb2 (v31==(IntKind.wrap .i64 (v34+1)))
  ) <|
  AaC.J6 k v14 v17 v19 v25 v28 v29 v30 kb2 (v31==(IntKind.wrap .i64 (0+1)))
def AaC.J7 (k : Nat) (v14 : Int) (v16 : Nat) (v17 : Int) (v19 : (List (Int×(List Int)))) (v20 : (List Int)) (v25 : Int) (kb2 : Nat→Int→(List (Int×Int))→(List (Int×(List Int)))→(List Int)→Option (List Int)) (v35 : (List (Int×Int))) (v36 : Int) : Option (List Int) :=
  chk (((v20.drop v16).length+([v25] : List Int).length)*8≤140737488355328∧v16≤v20.length) <|
  AaC.J5 k v14 v17 v19 v25 kb2 v35 ((v20.drop v16)++([v25] : List Int)) 0 v36
def AaC.J4 (k : Nat) (v14 : Int) (v16 : Nat) (v17 : Int) (v18 : (List (Int×Int))) (v19 : (List (Int×(List Int)))) (v20 : (List Int)) (v25 : Int) (kb2 : Nat→Int→(List (Int×Int))→(List (Int×(List Int)))→(List Int)→Option (List Int)) (v26 : Int) (v27 : Bool) : Option (List Int) :=
  if (!v27)=true then
    AgG (Ab4 v18 v14) (fun v37 =>
      AaC.J7 k v14 v16 v17 v19 v20 v25 kb2 (AbC v18 v25 (IntKind.wrap .i64 (v37+1))) (IntKind.wrap .i64 (v37+1))
    ) <|
    AaC.J7 k v14 v16 v17 v19 v20 v25 kb2 (AbC v18 v25 (IntKind.wrap .i64 (0+1))) (IntKind.wrap .i64 (0+1))
  else
    AaC.J5 k v14 v17 v19 v25 kb2 v18 v20 v16 v26
def AaC.L2 (k : Nat) (v14 : Int) (v15 : (List Int)) (kb1 : Nat→(List (Int×Int))→(List (Int×(List Int)))→(List Int)→Option (List Int)) : Nat→Nat→Int→(List (Int×Int))→(List (Int×(List Int)))→(List Int)→Option (List Int)
  | 0,_,_,_,_,_=>none
  | n+1,v16,v17,v18,v19,v20 =>
    if v17<(v15.length : Int) then
      idx v15 v17 fun v25 =>
      AgG (Ab4 v18 v25) (fun v38 =>
        AaC.J4 k v14 v16 v17 v18 v19 v20 v25 (fun v16_ v17_ v18_ v19_ v20_=>AaC.L2 k v14 v15 kb1 n v16_ v17_ v18_ v19_ v20_) v38 true
      ) <|
      AaC.J4 k v14 v16 v17 v18 v19 v20 v25 (fun v16_ v17_ v18_ v19_ v20_=>AaC.L2 k v14 v15 kb1 n v16_ v17_ v18_ v19_ v20_) 0 false
    else
      chk (0<v20.length∧(1 : Int)≤(((v20.length-v16) : Nat) : Int)) <|
      kb1 (v16+(1 : Int).toNat) v18 v19 v20
def AaC.J12 (k : Nat) (v47 : Int) (kb11 : Nat→Int→(List (Int×Bool))→(List Int)→Option (List Int)) (v50 : (List (Int×Bool))) (v51 : (List Int)) (v52 : Nat) : Option (List Int) :=
  kb11 v52 (IntKind.wrap .i64 (v47+1)) v50 v51
def AaC.L11 (k : Nat) (v44 : (List Int)) (v45 : Int) (kb9 : Nat→(List (Int×Bool))→(List Int)→Option (List Int)) : Nat→Nat→Int→(List (Int×Bool))→(List Int)→Option (List Int)
  | 0,_,_,_,_=>none
  | n+1,v46,v47,v48,v49 =>
    if v47<v45 then
      idx v44 v47 fun v53 =>
      AgG (Ab4 v48 v53) (fun v54 =>
        if (!v54)=true then
          chk (((v49.drop v46).length+([v53] : List Int).length)*8≤140737488355328∧v46≤v49.length) <|
          AaC.J12 k v47 (fun v46_ v47_ v48_ v49_=>AaC.L11 k v44 v45 kb9 n v46_ v47_ v48_ v49_) (AbC v48 v53 true) ((v49.drop v46)++([v53] : List Int)) 0
        else
          AaC.J12 k v47 (fun v46_ v47_ v48_ v49_=>AaC.L11 k v44 v45 kb9 n v46_ v47_ v48_ v49_) v48 v49 v46
      ) <|
      chk (((v49.drop v46).length+([v53] : List Int).length)*8≤140737488355328∧v46≤v49.length) <|
      AaC.J12 k v47 (fun v46_ v47_ v48_ v49_=>AaC.L11 k v44 v45 kb9 n v46_ v47_ v48_ v49_) (AbC v48 v53 true) ((v49.drop v46)++([v53] : List Int)) 0
    else
      chk (0<v49.length∧(1 : Int)≤(((v49.length-v46) : Nat) : Int)) <|
      kb9 (v46+(1 : Int).toNat) v48 v49
def AaC.J10 (k : Nat) (v41 : Nat) (v42 : (List (Int×Bool))) (v43 : (List Int)) (kb9 : Nat→(List (Int×Bool))→(List Int)→Option (List Int)) (v44 : (List Int)) (v45 : Int) : Option (List Int) :=
  AaC.L11 k v44 v45 kb9 k v41 0 v42 v43
def AaC.L13 (k : Nat) (v0 : Int) (v1 : (List AaA)) (v2 : (List Int)) (v3 : Int) (v4 : Int) (v5 : Int) (v6 : (List (Int×Bool))) (v7 : Bool) (v12 : (List (Int×(List Int)))) (v42 : (List (Int×Bool))) : Nat→(List Int)→Int→Option (List Int)
  | 0,_,_=>none
  | n+1,v57,v58 =>
    if v58≠v5 then
      Abw (AbN k v0 v1 v2 v3 v4 v5 v6 v7 v58) fun v59 =>
      Abw (Aaj k v59 v42 v12 v58) fun v60 =>
      idx v59 v60 fun v61 =>
      chk ((v57.length+([v61] : List Int).length)*8≤140737488355328) <|
      AaC.L13 k v0 v1 v2 v3 v4 v5 v6 v7 v12 v42 n (v57++([v61] : List Int)) v61
    else
      chk (¬ v57 = []) <|
      some v57
def AaC.L9 (k : Nat) (v0 : Int) (v1 : (List AaA)) (v2 : (List Int)) (v3 : Int) (v4 : Int) (v5 : Int) (v6 : (List (Int×Bool))) (v7 : Bool) (v12 : (List (Int×(List Int)))) : Nat→Nat→(List (Int×Bool))→(List Int)→Option (List Int)
  | 0,_,_,_=>none
  | n+1,v41,v42,v43 =>
    if 0<(((v43.length-v41) : Nat) : Int) then
      chk ((0 : Int)≤0∧(0 : Int).toNat<(v43.length-v41)∧v41+(0 : Int).toNat<v43.length) <|
      idx v43 ((v41+(0 : Int).toNat : Nat) : Int) fun v55 =>
      AgG (Ab4 v12 v55) (fun v56 =>
        AaC.J10 k v41 v42 v43 (fun v41_ v42_ v43_=>AaC.L9 k v0 v1 v2 v3 v4 v5 v6 v7 v12 n v41_ v42_ v43_) v56 (v56.length : Int)
      ) <|
      AaC.J10 k v41 v42 v43 (fun v41_ v42_ v43_=>AaC.L9 k v0 v1 v2 v3 v4 v5 v6 v7 v12 n v41_ v42_ v43_) ([] : List Int) (([] : List Int).length : Int)
    else
      AaC.L13 k v0 v1 v2 v3 v4 v5 v6 v7 v12 v42 k ([v4] : List Int) v4
def AaC.J8 (k : Nat) (v0 : Int) (v1 : (List AaA)) (v2 : (List Int)) (v3 : Int) (v4 : Int) (v5 : Int) (v6 : (List (Int×Bool))) (v7 : Bool) (v8 : Int) (v12 : (List (Int×(List Int)))) (v39 : Int) (v40 : Bool) : Option (List Int) :=
  if (!v40)=true then
    some ([] : List Int)
  else
    if v8<v39 then
      some ([] : List Int)
    else
      AaC.L9 k v0 v1 v2 v3 v4 v5 v6 v7 v12 k 0 (AbC ([] : (List (Int×Bool))) v5 true) ([v5] : List Int)
def AaC.L1 (k : Nat) (v0 : Int) (v1 : (List AaA)) (v2 : (List Int)) (v3 : Int) (v4 : Int) (v5 : Int) (v6 : (List (Int×Bool))) (v7 : Bool) (v8 : Int) : Nat→Nat→(List (Int×Int))→(List (Int×(List Int)))→(List Int)→Option (List Int)
  | 0,_,_,_,_=>none
  | n+1,v10,v11,v12,v13 =>
    if 0<(((v13.length-v10) : Nat) : Int) then
      chk ((0 : Int)≤0∧(0 : Int).toNat<(v13.length-v10)∧v10+(0 : Int).toNat<v13.length) <|
      idx v13 ((v10+(0 : Int).toNat : Nat) : Int) fun v14 =>
      Abw (AbN k v0 v1 v2 v3 v4 v5 v6 v7 v14) fun v15 =>
      AaC.L2 k v14 v15 (fun v10_ v11_ v12_ v13_=>AaC.L1 k v0 v1 v2 v3 v4 v5 v6 v7 v8 n v10_ v11_ v12_ v13_) k v10 0 v11 v12 v13
    else
      chk (v12.length≤1000) <|
      AgG (Ab4 v11 v5) (fun v62 =>
        AaC.J8 k v0 v1 v2 v3 v4 v5 v6 v7 v8 v12 v62 true
      ) <|
      AaC.J8 k v0 v1 v2 v3 v4 v5 v6 v7 v8 v12 0 false
def AaC (k : Nat) (v0 : Int) (v1 : (List AaA)) (v2 : (List Int)) (v3 : Int) (v4 : Int) (v5 : Int) (v6 : (List (Int×Bool))) (v7 : Bool) (v8 : Int) : Option (List Int) :=
  AaC.L1 k v0 v1 v2 v3 v4 v5 v6 v7 v8 k 0 (AbC ([] : (List (Int×Int))) v4 0) ([] : List (Int×List Int)) ([v4] : List Int)
def Aao.J2 (k : Nat) (v0 : Int) (v1 : (List AaA)) (v2 : (List Int)) (v3 : Int) (v4 : Int) (v5 : Int) (v6 : Int) (v10 : (List Int)) (v13 : (List (List Int))) (kb1 : (List Int)→Bool→(List (Int×Bool))→(List (List Int))→Option (List (List Int))) (v14 : (List (Int×Bool))) (v15 : Bool) : Option (List (List Int)) :=
  Abw (AaC k v0 v1 v2 v3 v4 v5 v14 v15 v6) fun v16 =>
  kb1 v16 v15 v14 (v13++([v10] : List (List Int)))
def Aao.L3 (k : Nat) (v0 : Int) (v1 : (List AaA)) (v2 : (List Int)) (v3 : Int) (v4 : Int) (v5 : Int) (v6 : Int) (v10 : (List Int)) (v11 : Bool) (v13 : (List (List Int))) (kb1 : (List Int)→Bool→(List (Int×Bool))→(List (List Int))→Option (List (List Int))) : Nat→Int→(List (Int×Bool))→Option (List (List Int))
  | 0,_,_=>none
  | n+1,v17,v18 =>
    if v17<(((v10.take (IntKind.wrap .i64 ((v10.length : Int)-1)).toNat).drop (1 : Int).toNat).length : Int) then
      idx ((v10.take (IntKind.wrap .i64 ((v10.length : Int)-1)).toNat).drop (1 : Int).toNat) v17 fun v19 =>
      Aao.L3 k v0 v1 v2 v3 v4 v5 v6 v10 v11 v13 kb1 n (IntKind.wrap .i64 (v17+1)) (AbC v18 v19 true)
    else
      if v11=true then
        Aao.J2 k v0 v1 v2 v3 v4 v5 v6 v10 v13 kb1 v18 true
      else
        Aao.J2 k v0 v1 v2 v3 v4 v5 v6 v10 v13 kb1 v18 ((v10.length : Int)==2)
def Aao.L1 (k : Nat) (v0 : Int) (v1 : (List AaA)) (v2 : (List Int)) (v3 : Int) (v4 : Int) (v5 : Int) (v6 : Int) : Nat→(List Int)→Bool→(List (Int×Bool))→(List (List Int))→Option (List (List Int))
  | 0,_,_,_,_=>none
  | n+1,v10,v11,v12,v13 =>
    if (!List.isEmpty v10)=true then
      chk ((v13.length+([v10] : List (List Int)).length)*24≤140737488355328) <|
      chk ((1 : Int)≤IntKind.wrap .i64 ((v10.length : Int)-1)∧(IntKind.wrap .i64 ((v10.length : Int)-1) : Int)≤(v10.length : Int)) <|
      Aao.L3 k v0 v1 v2 v3 v4 v5 v6 v10 v11 v13 (fun v10_ v11_ v12_ v13_=>Aao.L1 k v0 v1 v2 v3 v4 v5 v6 n v10_ v11_ v12_ v13_) k 0 v12
    else
      some v13
def Aao (k : Nat) (v0 : Int) (v1 : (List AaA)) (v2 : (List Int)) (v3 : Int) (v4 : Int) (v5 : Int) (v6 : Int) : Option (List (List Int)) :=
  Abw (AcU k v0 v1 v2 v3 v4 v5) fun v8 =>
  if (!v8)=true then
    some ([] : List (List Int))
  else
    Abw (AaC k v0 v1 v2 v3 v4 v5 ([] : (List (Int×Bool))) false v6) fun v9 =>
    Aao.L1 k v0 v1 v2 v3 v4 v5 v6 k v9 false ([] : (List (Int×Bool))) ([] : List (List Int))
def AdB (k : Nat) (v0 : Int) (v1 : (List AaA)) (v2 : (List Int)) (v3 : Int) (v4 : Int) (v5 : Int) : Option Int :=
  Abw (AcU k v0 v1 v2 v3 v4 v5) fun v7 =>
  if (!v7)=true then
    some 0
  else
    AhI (AaP k v0 v1 v2 v3 v4 v5) fun v8 v9 =>
    AhI (Ae6 k v8 v9) fun v10 v11 =>
    Abw (AdE k v8 v9 v10) fun v12 =>
    some v12
def AdN (k : Nat) (v0 : Int) (v1 : Int) (v2 : Int) (v3 : Int) (v4 : Int) (v5 : Int) : Option Bool :=
  if v0=v3 then
    if v1=v4 then
      some (decide (v5≤v2))
    else
      some false
  else
    some false
def AaT.L1 (k : Nat) (v0 : (List AaA)) (v1 : Int) (v2 : Int) (v3 : Int) : Nat→Int→Option Int
  | 0,_=>none
  | n+1,v5 =>
    if v5<(v0.length : Int) then
      idx v0 v5 fun v6 =>
      Abw (AdN k v6.From v6.To v6.Level v1 v2 v3) fun v7 =>
      if v7=true then
        some v5
      else
        AaT.L1 k v0 v1 v2 v3 n (IntKind.wrap .i64 (v5+1))
    else
      some (-1)
def AaT (k : Nat) (v0 : (List AaA)) (v1 : Int) (v2 : Int) (v3 : Int) : Option Int :=
  AaT.L1 k v0 v1 v2 v3 k 0
def Aa7 (k : Nat) (v0 : (List AaA)) (v1 : Int) (v2 : Int) (v3 : Int) : Option Bool :=
  Abw (AaT k v0 v1 v2 v3) fun v5 =>
  some (decide (0≤v5))
def AeC (k : Nat) (v0 : Int) (v1 : (List AaA)) (v2 : (List Int)) (v3 : Int) (v4 : Int) (v5 : Int) : Option Bool :=
  Abw (Aa7 k v1 v4 v5 v3) fun v7 =>
  some v7
def AaV.J6 (k : Nat) (v13 : (List Int)) (v15 : Int) (v16 : (List (Int×Bool))) (kb5 : Int→(List (Int×Bool))→Option Bool) : Option Bool :=
  idx v13 v15 fun v17 =>
  kb5 (IntKind.wrap .i64 (v15+1)) (AbC v16 v17 true)
def AaV.L5 (k : Nat) (v0 : Int) (v1 : (List AaA)) (v2 : (List Int)) (v3 : Int) (v11 : Int) (v13 : (List Int)) (v14 : Bool) (kb2 : Bool→Int→(List (Int×Bool))→Option Bool) : Nat→Int→(List (Int×Bool))→Option Bool
  | 0,_,_=>none
  | n+1,v15,v16 =>
    if v15<(v13.length : Int) then
      idx v13 (IntKind.wrap .i64 (v15-1)) fun v18 =>
      idx v13 v15 fun v19 =>
      Abw (AeC k v0 v1 v2 v3 v18 v19) fun v20 =>
      if (!v20)=true then
        some false
      else
        if v15<IntKind.wrap .i64 ((v13.length : Int)-1) then
          AgG (Ab4 v16 v19) (fun v21 =>
            if v21=true then
              some false
            else
              AaV.J6 k v13 v15 v16 (fun v15_ v16_=>AaV.L5 k v0 v1 v2 v3 v11 v13 v14 kb2 n v15_ v16_)
          ) <|
          AaV.J6 k v13 v15 v16 (fun v15_ v16_=>AaV.L5 k v0 v1 v2 v3 v11 v13 v14 kb2 n v15_ v16_)
        else
          AaV.J6 k v13 v15 v16 (fun v15_ v16_=>AaV.L5 k v0 v1 v2 v3 v11 v13 v14 kb2 n v15_ v16_)
    else
      kb2 v14 (IntKind.wrap .i64 (v11+1)) v16
def AaV.J4 (k : Nat) (v0 : Int) (v1 : (List AaA)) (v2 : (List Int)) (v3 : Int) (v11 : Int) (v12 : (List (Int×Bool))) (v13 : (List Int)) (kb2 : Bool→Int→(List (Int×Bool))→Option Bool) (v14 : Bool) : Option Bool :=
  AaV.L5 k v0 v1 v2 v3 v11 v13 v14 kb2 k 1 v12
def AaV.J3 (k : Nat) (v0 : Int) (v1 : (List AaA)) (v2 : (List Int)) (v3 : Int) (v10 : Bool) (v11 : Int) (v12 : (List (Int×Bool))) (v13 : (List Int)) (kb2 : Bool→Int→(List (Int×Bool))→Option Bool) : Option Bool :=
  if v10=true then
    AaV.J4 k v0 v1 v2 v3 v11 v12 v13 kb2 true
  else
    AaV.J4 k v0 v1 v2 v3 v11 v12 v13 kb2 ((v13.length : Int)==2)
def AaV.L2 (k : Nat) (v0 : Int) (v1 : (List AaA)) (v2 : (List Int)) (v3 : Int) (v4 : Int) (v5 : Int) (v6 : (List (List Int))) : Nat→Bool→Int→(List (Int×Bool))→Option Bool
  | 0,_,_,_=>none
  | n+1,v10,v11,v12 =>
    if v11<(v6.length : Int) then
      idx v6 v11 fun v13 =>
      if (v13.length : Int)<2 then
        some false
      else
        idx v13 0 fun v22 =>
        if v22≠v4 then
          some false
        else
          idx v13 (IntKind.wrap .i64 ((v13.length : Int)-1)) fun v23 =>
          if v23≠v5 then
            some false
          else
            if (v13.length : Int)=2 then
              if v10=true then
                some false
              else
                AaV.J3 k v0 v1 v2 v3 v10 v11 v12 v13 (fun v10_ v11_ v12_=>AaV.L2 k v0 v1 v2 v3 v4 v5 v6 n v10_ v11_ v12_)
            else
              AaV.J3 k v0 v1 v2 v3 v10 v11 v12 v13 (fun v10_ v11_ v12_=>AaV.L2 k v0 v1 v2 v3 v4 v5 v6 n v10_ v11_ v12_)
    else
      some true
def AaV.J1 (k : Nat) (v0 : Int) (v1 : (List AaA)) (v2 : (List Int)) (v3 : Int) (v4 : Int) (v5 : Int) (v6 : (List (List Int))) (v9 : (List (Int×Bool))) : Option Bool :=
  AaV.L2 k v0 v1 v2 v3 v4 v5 v6 k false 0 v9
def AaV (k : Nat) (v0 : Int) (v1 : (List AaA)) (v2 : (List Int)) (v3 : Int) (v4 : Int) (v5 : Int) (v6 : (List (List Int))) : Option Bool :=
  Abw (AcU k v0 v1 v2 v3 v4 v5) fun v8 =>
  if (!v8)=true then
    some ((v6.length : Int)==0)
  else
    Ase (AaV.J1 k v0 v1 v2 v3 v4 v5 v6 (AbC (AbC ([] : (List (Int×Bool))) v4 true) v5 true)) (AaV.J1 k v0 v1 v2 v3 v4 v5 v6 (AbC (AbC ([] : (List (Int×Bool))) v5 true) v4 true))
def AdD (k : Nat) : Option Bool :=
  Abw (Aa3 k 4 ([(AaA.mk 0 1 1),(AaA.mk 0 2 2),(AaA.mk 1 3 1),(AaA.mk 2 3 2)] : List AaA) ([] : List Int) 1 0 3) fun v1 =>
  Abw (Aao k 4 ([(AaA.mk 0 1 1),(AaA.mk 0 2 2),(AaA.mk 1 3 1),(AaA.mk 2 3 2)] : List AaA) ([] : List Int) 1 0 3 2) fun v2 =>
  Abw (AdB k 4 ([(AaA.mk 0 1 1),(AaA.mk 0 2 2),(AaA.mk 1 3 1),(AaA.mk 2 3 2)] : List AaA) ([] : List Int) 1 0 3) fun v3 =>
  if v3=2 then
    Abw (AdB k 4 ([(AaA.mk 0 1 1),(AaA.mk 0 2 2),(AaA.mk 1 3 1),(AaA.mk 2 3 2)] : List AaA) ([] : List Int) 2 0 3) fun v4 =>
    if v4=1 then
      if (v1.length : Int)=2 then
        Abw (AaV k 4 ([(AaA.mk 0 1 1),(AaA.mk 0 2 2),(AaA.mk 1 3 1),(AaA.mk 2 3 2)] : List AaA) ([] : List Int) 1 0 3 v1) fun v5 =>
        if v5=true then
          if (v2.length : Int)=2 then
            idx v2 0 fun v6 =>
            if (v6.length : Int)=3 then
              idx v6 1 fun v7 =>
              if v7=1 then
                Abw (AaV k 4 ([(AaA.mk 0 1 1),(AaA.mk 0 2 2),(AaA.mk 1 3 1),(AaA.mk 2 3 2)] : List AaA) ([] : List Int) 2 0 3 v1) fun v8 =>
                some (!v8)
              else
                some false
            else
              some false
          else
            some false
        else
          some false
      else
        some false
    else
      some false
  else
    some false
def Afr (k : Nat) (v0 : (List Int)) : Option ((List Int)×Int) :=
  some (v0,0)
def Ac1.J1 (k : Nat) (v3 : Int) : Option Int :=
  some v3
def Ac1 (k : Nat) (v0 : Int) (v1 : Int) : Option Int :=
  if v1<1 then
    some 0
  else
    chk (v1≠(0 : Int)) <|
    if Int.tmod v0 v1<0 then
      Ac1.J1 k (IntKind.wrap .i64 (Int.tmod v0 v1+v1))
    else
      Ac1.J1 k (Int.tmod v0 v1)
def AbG (k : Nat) (v0 : (List Int)) (v1 : Int) (v2 : Int) : Option (Int×Int) :=
  if (v0.length : Int)≤v1 then
    some (0,v1)
  else
    idx v0 (IntKind.wrap .i64 (IntKind.wrap .i64 (v1+1)-1)) fun v5 =>
    Abw (Ac1 k v5 v2) fun v6 =>
    some (v6,IntKind.wrap .i64 (v1+1))
def Ada (k : Nat) (v0 : (List Int)) (v1 : Int) (v2 : Int) : Option (Bool×Int) :=
  AhI (AbG k v0 v1 v2) fun v5 v6 =>
  some ((v5==(IntKind.wrap .i64 (v2-1))),v6)
def Aba.J2 (k : Nat) (v3 : Int) (kb1 : Int→Option Bool) : Option Bool :=
  kb1 (IntKind.wrap .i64 (v3+1))
def Aba.L1 (k : Nat) (v0 : (List Int)) (v1 : Int) : Nat→Int→Option Bool
  | 0,_=>none
  | n+1,v3 =>
    if v3<(v0.length : Int) then
      idx v0 v3 fun v4 =>
      if v4<0 then
        some false
      else
        if v1≤v4 then
          some false
        else
          if 0<v3 then
            idx v0 (IntKind.wrap .i64 (v3-1)) fun v5 =>
            if v4≤v5 then
              some false
            else
              Aba.J2 k v3 (fun v3_=>Aba.L1 k v0 v1 n v3_)
          else
            Aba.J2 k v3 (fun v3_=>Aba.L1 k v0 v1 n v3_)
    else
      some true
def Aba (k : Nat) (v0 : (List Int)) (v1 : Int) : Option Bool :=
  Aba.L1 k v0 v1 k 0
def Abf.L1 (k : Nat) (v0 : (List Int)) (v1 : Int) : Nat→Int→Option Bool
  | 0,_=>none
  | n+1,v3 =>
    if v3<(v0.length : Int) then
      idx v0 v3 fun v4 =>
      if v4=v1 then
        some true
      else
        Abf.L1 k v0 v1 n (IntKind.wrap .i64 (v3+1))
    else
      some false
def Abf (k : Nat) (v0 : (List Int)) (v1 : Int) : Option Bool :=
  Abf.L1 k v0 v1 k 0
def Acp (k : Nat) (v0 : Int) (v1 : Int) (v2 : Int) (v3 : Int) (v4 : Int) (v5 : Int) : Option Bool :=
  if v0<v3 then
    some true
  else
    if v0=v3 then
      some (decide (v1<v4))
    else
      some false
def Aa0.J2 (k : Nat) (v5 : Int) (kb1 : Int→Option Int) (v7 : Bool) : Option Int :=
  if v7=true then
    some 14
  else
    kb1 (IntKind.wrap .i64 (v5+1))
def Aa0.L1 (k : Nat) (v0 : Int) (v1 : (List AaA)) (v2 : (List Int)) : Nat→Int→Option Int
  | 0,_=>none
  | n+1,v5 =>
    if v5<(v1.length : Int) then
      idx v1 v5 fun v6 =>
      if v6.From<0 then
        some 14
      else
        if v0≤v6.From then
          some 14
        else
          if v6.To<0 then
            some 14
          else
            if v0≤v6.To then
              some 14
            else
              if v6.From=v6.To then
                some 14
              else
                if v6.Level<1 then
                  some 14
                else
                  if 3<v6.Level then
                    some 14
                  else
                    if 0<v5 then
                      idx v1 (IntKind.wrap .i64 (v5-1)) fun v8 =>
                      Abw (Acp k v8.From v8.To v8.Level v6.From v6.To v6.Level) fun v9 =>
                      if (!v9)=true then
                        Aa0.J2 k v5 (fun v5_=>Aa0.L1 k v0 v1 v2 n v5_) true
                      else
                        Abw (Abf k v2 v6.From) fun v10 =>
                        if v10=true then
                          Aa0.J2 k v5 (fun v5_=>Aa0.L1 k v0 v1 v2 n v5_) true
                        else
                          Abw (Abf k v2 v6.To) fun v11 =>
                          Aa0.J2 k v5 (fun v5_=>Aa0.L1 k v0 v1 v2 n v5_) v11
                    else
                      Abw (Abf k v2 v6.From) fun v12 =>
                      if v12=true then
                        Aa0.J2 k v5 (fun v5_=>Aa0.L1 k v0 v1 v2 n v5_) true
                      else
                        Abw (Abf k v2 v6.To) fun v13 =>
                        Aa0.J2 k v5 (fun v5_=>Aa0.L1 k v0 v1 v2 n v5_) v13
    else
      some 0
def Aa0 (k : Nat) (v0 : Int) (v1 : (List AaA)) (v2 : (List Int)) : Option Int :=
  if v0<0 then
    some 14
  else
    if 64<v0 then
      some 14
    else
      if 500<(v1.length : Int) then
        some 14
      else
        Abw (Aba k v2 v0) fun v4 =>
        if (!v4)=true then
          some 14
        else
          Aa0.L1 k v0 v1 v2 k 0
def AbD.J1 (k : Nat) (v1 : (List AaA)) (v3 : Int) (v4 : Int) (v7 : Int) : Option (Int×Bool) :=
  if v7<(v1.length : Int) then
    idx v1 v7 fun v8 =>
    if v8.From=v3 then
      some (v7,(v8.To==v4))
    else
      some (v7,false)
  else
    some (v7,false)
def AbD.L2 (k : Nat) (v1 : (List AaA)) (v3 : Int) (v4 : Int) : Nat→Int→Option (Int×Bool)
  | 0,_=>none
  | n+1,v9 =>
    if v9<(v1.length : Int) then
      idx v1 v9 fun v10 =>
      Abw (Acp k v10.From v10.To v10.Level v3 v4 0) fun v11 =>
      if v11=true then
        AbD.L2 k v1 v3 v4 n (IntKind.wrap .i64 (v9+1))
      else
        AbD.J1 k v1 v3 v4 v9
    else
      AbD.J1 k v1 v3 v4 v9
def AbD (k : Nat) (v0 : Int) (v1 : (List AaA)) (v2 : (List Int)) (v3 : Int) (v4 : Int) : Option (Int×Bool) :=
  AbD.L2 k v1 v3 v4 k 0
def Adt (k : Nat) (v0 : Int) (v1 : (List AaA)) (v2 : (List Int)) : Option (Int×(List AaA)×(List Int)) :=
  chk (v1.length*24≤140737488355328) <|
  chk (v2.length*8≤140737488355328) <|
  some (v0,v1,v2)
def AdM (k : Nat) (v0 : Int) (v1 : (List AaA)) (v2 : (List Int)) (v3 : Int) (v4 : Int) (v5 : Int) : Option (Int×(List AaA)×(List Int)×Int) :=
  Abw (Aa0 k v0 v1 v2) fun v10 =>
  if v10≠0 then
    some (0,([] : List AaA),([] : List Int),14)
  else
    AhI (AbD k v0 v1 v2 v3 v4) fun v11 v12 =>
    if v3<0 then
      some (0,([] : List AaA),([] : List Int),4)
    else
      if v0≤v3 then
        some (0,([] : List AaA),([] : List Int),4)
      else
        if v4<0 then
          some (0,([] : List AaA),([] : List Int),4)
        else
          if v0≤v4 then
            some (0,([] : List AaA),([] : List Int),4)
          else
            if v3=v4 then
              some (0,([] : List AaA),([] : List Int),4)
            else
              Abw (Abf k v2 v3) fun v13 =>
              if v13=true then
                some (0,([] : List AaA),([] : List Int),4)
              else
                Abw (Abf k v2 v4) fun v14 =>
                if v14=true then
                  some (0,([] : List AaA),([] : List Int),4)
                else
                  if v5<1 then
                    some (0,([] : List AaA),([] : List Int),2)
                  else
                    if 3<v5 then
                      some (0,([] : List AaA),([] : List Int),2)
                    else
                      if v12=true then
                        some (0,([] : List AaA),([] : List Int),19)
                      else
                        if (v1.length : Int)=500 then
                          some (0,([] : List AaA),([] : List Int),3)
                        else
                          Aq8 (Adt k v0 v1 v2) fun v15 v16 v17 =>
                          chk ((0 : Int)≤v11∧(v11 : Int)≤(v1.length : Int)) <|
                          chk ((v1.take (v11).toNat).length*24≤140737488355328) <|
                          chk (((v1.take (v11).toNat).length+([(AaA.mk v3 v4 v5)] : List AaA).length)*24≤140737488355328) <|
                          chk ((0 : Int)≤v11∧(v11 : Int)≤(v1.length : Int)) <|
                          chk ((((v1.take (v11).toNat)++([(AaA.mk v3 v4 v5)] : List AaA)).length+(v1.drop (v11).toNat).length)*24≤140737488355328) <|
                          some (v15,((v1.take (v11).toNat)++([(AaA.mk v3 v4 v5)] : List AaA))++(v1.drop (v11).toNat),v17,0)
def AaY.J4 (k : Nat) (v13 : Int) (kb3 : Int→Int→Int→(List AaA)→(List Int)→Option (Int×(List AaA)×(List Int)×Int)) (v18 : Int) (v19 : Int) (v20 : (List AaA)) (v21 : (List Int)) : Option (Int×(List AaA)×(List Int)×Int) :=
  kb3 (IntKind.wrap .i64 (v13-1)) v18 v19 v20 v21
def AaY.L3 (k : Nat) (v0 : (List Int)) : Nat→Int→Int→Int→(List AaA)→(List Int)→Option (Int×(List AaA)×(List Int)×Int)
  | 0,_,_,_,_,_=>none
  | n+1,v13,v14,v15,v16,v17 =>
    if 0<v13 then
      AhI (AbG k v0 v14 v15) fun v22 v23 =>
      AhI (AbG k v0 v23 v15) fun v24 v25 =>
      AhI (AbG k v0 v25 3) fun v26 v27 =>
      Arq (AdM k v15 v16 v17 v22 v24 (IntKind.wrap .i64 (1+v26))) fun v28 v29 v30 v31 =>
      if v31=0 then
        AaY.J4 k v13 (fun v13_ v14_ v15_ v16_ v17_=>AaY.L3 k v0 n v13_ v14_ v15_ v16_ v17_) v27 v28 v29 v30
      else
        AaY.J4 k v13 (fun v13_ v14_ v15_ v16_ v17_=>AaY.L3 k v0 n v13_ v14_ v15_ v16_ v17_) v27 v15 v16 v17
    else
      some (v15,v16,v17,v14)
def AaY.J2 (k : Nat) (v0 : (List Int)) (v8 : Int) (v9 : Int) (v10 : (List Int)) : Option (Int×(List AaA)×(List Int)×Int) :=
  AhI (AbG k v0 v9 23) fun v11 v12 =>
  AaY.L3 k v0 k v11 v12 v8 ([] : List AaA) v10
def AaY.J1 (k : Nat) (v0 : (List Int)) (v7 : Int) (v8 : Int) : Option (Int×(List AaA)×(List Int)×Int) :=
  AhI (Ada k v0 v7 8) fun v32 v33 =>
  if v32=true then
    AhI (AbG k v0 v33 v8) fun v34 v35 =>
    AaY.J2 k v0 v8 v35 ([v34] : List Int)
  else
    AaY.J2 k v0 v8 v33 ([] : List Int)
def AaY (k : Nat) (v0 : (List Int)) (v1 : Int) : Option (Int×(List AaA)×(List Int)×Int) :=
  AhI (AbG k v0 v1 8) fun v6 v7 =>
  if (v0.length : Int)=0 then
    AaY.J1 k v0 v7 4
  else
    AaY.J1 k v0 v7 (IntKind.wrap .i64 (2+v6))
def Abb.J2 (k : Nat) (v5 : Int) (kb1 : Int→(List Int)→Option (List Int)) (v7 : (List Int)) : Option (List Int) :=
  kb1 (IntKind.wrap .i64 (v5+1)) v7
def Abb.L1 (k : Nat) (v1 : (List AaA)) (v3 : Int) : Nat→Int→(List Int)→Option (List Int)
  | 0,_,_=>none
  | n+1,v5,v6 =>
    if v5<(v1.length : Int) then
      idx v1 v5 fun v8 =>
      if v8.From=v3 then
        chk ((v6.length+([v8.To] : List Int).length)*8≤140737488355328) <|
        Abb.J2 k v5 (fun v5_ v6_=>Abb.L1 k v1 v3 n v5_ v6_) (v6++([v8.To] : List Int))
      else
        Abb.J2 k v5 (fun v5_ v6_=>Abb.L1 k v1 v3 n v5_ v6_) v6
    else
      some v6
def Abb (k : Nat) (v0 : Int) (v1 : (List AaA)) (v2 : (List Int)) (v3 : Int) : Option (List Int) :=
  Abb.L1 k v1 v3 k 0 ([] : List Int)
def Aal.J3 (k : Nat) (v9 : Int) (kb2 : Int→(List Bool)→Option Bool) (v11 : (List Bool)) : Option Bool :=
  kb2 (IntKind.wrap .i64 (v9+1)) v11
def Aal.L2 (k : Nat) (v1 : (List AaA)) (v7 : Int) (kb1 : Int→(List Bool)→Option Bool) : Nat→Int→(List Bool)→Option Bool
  | 0,_,_=>none
  | n+1,v9,v10 =>
    if v9<(v1.length : Int) then
      idx v1 v9 fun v12 =>
      chk ((0 : Int)≤v12.From∧(v12.From).toNat<v10.length) <|
      idx v10 v12.From fun v13 =>
      if v13=true then
        chk ((0 : Int)≤v12.To∧(v12.To).toNat<v10.length) <|
        Aal.J3 k v9 (fun v9_ v10_=>Aal.L2 k v1 v7 kb1 n v9_ v10_) (v10.set (v12.To).toNat true)
      else
        Aal.J3 k v9 (fun v9_ v10_=>Aal.L2 k v1 v7 kb1 n v9_ v10_) v10
    else
      kb1 (IntKind.wrap .i64 (v7+1)) v10
def Aal.L1 (k : Nat) (v0 : Int) (v1 : (List AaA)) (v4 : Int) : Nat→Int→(List Bool)→Option Bool
  | 0,_,_=>none
  | n+1,v7,v8 =>
    if v7<v0 then
      Aal.L2 k v1 v7 (fun v7_ v8_=>Aal.L1 k v0 v1 v4 n v7_ v8_) k 0 v8
    else
      idx v8 v4 fun v14 =>
      some v14
def Aal (k : Nat) (v0 : Int) (v1 : (List AaA)) (v2 : (List Int)) (v3 : Int) (v4 : Int) : Option Bool :=
  chk ((0 : Int)≤v0∧16*v0≤281474976710656) <|
  Am8 (List.replicate (v0).toNat false) fun v6 =>
  chk ((0 : Int)≤v3∧(v3).toNat<v6.length) <|
  Aal.L1 k v0 v1 v4 k 0 (v6.set (v3).toNat true)
def AaF.J3 (k : Nat) (v18 : Int) (kb2 : Int→Int→Option Bool) (v19 : Int) : Option Bool :=
  kb2 v19 (IntKind.wrap .i64 (v18+1))
def AaF.J6 (k : Nat) (v22 : Int) (kb5 : Int→(List AaA)→Option Bool) (v24 : (List AaA)) : Option Bool :=
  kb5 (IntKind.wrap .i64 (v22+1)) v24
def AaF.L5 (k : Nat) (v6 : Int) (v7 : (List AaA)) (v10 : Int) (v12 : Int) (v17 : Int) (v18 : Int) (v20 : Int) (kb2 : Int→Int→Option Bool) : Nat→Int→(List AaA)→Option Bool
  | 0,_,_=>none
  | n+1,v22,v23 =>
    if v22<(v7.length : Int) then
      idx v7 v22 fun v25 =>
      chk ((0 : Int)≤IntKind.wrap .u64 v25.From) <|
      if (Ac6 .and .i64 (Int.fdiv v18 (2 ^ (min ((IntKind.wrap .u64 v25.From).toNat) 64))) 1)=0 then
        chk ((0 : Int)≤IntKind.wrap .u64 v25.To) <|
        if (Ac6 .and .i64 (Int.fdiv v18 (2 ^ (min ((IntKind.wrap .u64 v25.To).toNat) 64))) 1)=0 then
          if v25.From=v10 then
            if v25.To≠v12 then
              chk ((v23.length+([v25] : List AaA).length)*24≤140737488355328) <|
              AaF.J6 k v22 (fun v22_ v23_=>AaF.L5 k v6 v7 v10 v12 v17 v18 v20 kb2 n v22_ v23_) (v23++([v25] : List AaA))
            else
              AaF.J6 k v22 (fun v22_ v23_=>AaF.L5 k v6 v7 v10 v12 v17 v18 v20 kb2 n v22_ v23_) v23
          else
            chk ((v23.length+([v25] : List AaA).length)*24≤140737488355328) <|
            AaF.J6 k v22 (fun v22_ v23_=>AaF.L5 k v6 v7 v10 v12 v17 v18 v20 kb2 n v22_ v23_) (v23++([v25] : List AaA))
        else
          AaF.J6 k v22 (fun v22_ v23_=>AaF.L5 k v6 v7 v10 v12 v17 v18 v20 kb2 n v22_ v23_) v23
      else
        AaF.J6 k v22 (fun v22_ v23_=>AaF.L5 k v6 v7 v10 v12 v17 v18 v20 kb2 n v22_ v23_) v23
    else
      Abw (Aal k v6 v23 ([] : List Int) v10 v12) fun v26 =>
      if (!v26)=true then
        Am8 (if v20<v17 then v20 else v17) fun v27 =>
        AaF.J3 k v18 kb2 v27
      else
        AaF.J3 k v18 kb2 v17
def AaF.L4 (k : Nat) (v6 : Int) (v7 : (List AaA)) (v10 : Int) (v12 : Int) (v17 : Int) (v18 : Int) (kb2 : Int→Int→Option Bool) : Nat→Int→Int→Option Bool
  | 0,_,_=>none
  | n+1,v20,v21 =>
    if v21<v6 then
      chk ((0 : Int)≤IntKind.wrap .u64 v21) <|
      AaF.L4 k v6 v7 v10 v12 v17 v18 kb2 n (IntKind.wrap .i64 (v20+Ac6 .and .i64 (Int.fdiv v18 (2 ^ (min ((IntKind.wrap .u64 v21).toNat) 64))) 1)) (IntKind.wrap .i64 (v21+1))
    else
      AaF.L5 k v6 v7 v10 v12 v17 v18 v20 kb2 k 0 ([] : List AaA)
def AaF.L2 (k : Nat) (v4 : (List Int)) (v6 : Int) (v7 : (List AaA)) (v8 : (List Int)) (v10 : Int) (v12 : Int) (v13 : Int) (v14 : Int) (v16 : Int) : Nat→Int→Int→Option Bool
  | 0,_,_=>none
  | n+1,v17,v18 =>
    chk ((0 : Int)≤IntKind.wrap .u64 v6) <|
    if v18<IntKind.wrap .i64 (1*2 ^ (min ((IntKind.wrap .u64 v6).toNat) 64)) then
      chk ((0 : Int)≤IntKind.wrap .u64 v10) <|
      if (Ac6 .and .i64 (Int.fdiv v18 (2 ^ (min ((IntKind.wrap .u64 v10).toNat) 64))) 1)=1 then
        AaF.J3 k v18 (fun v17_ v18_=>AaF.L2 k v4 v6 v7 v8 v10 v12 v13 v14 v16 n v17_ v18_) v17
      else
        chk ((0 : Int)≤IntKind.wrap .u64 v12) <|
        if (Ac6 .and .i64 (Int.fdiv v18 (2 ^ (min ((IntKind.wrap .u64 v12).toNat) 64))) 1)=1 then
          AaF.J3 k v18 (fun v17_ v18_=>AaF.L2 k v4 v6 v7 v8 v10 v12 v13 v14 v16 n v17_ v18_) v17
        else
          AaF.L4 k v6 v7 v10 v12 v17 v18 (fun v17_ v18_=>AaF.L2 k v4 v6 v7 v8 v10 v12 v13 v14 v16 n v17_ v18_) k v16 0
    else
      AhI (AbG k v4 v13 10) fun v28 v29 =>
      Abw (Aao k v6 v7 v8 1 v10 v12 v28) fun v30 =>
      Abw (AdD k) fun v31 =>
      if v31=true then
        if v14=v17 then
          if (v30.length : Int)≤v14 then
            Abw (AaV k v6 v7 v8 1 v10 v12 v30) fun v32 =>
            some v32
          else
            some false
        else
          some false
      else
        some false
def AaF.J1 (k : Nat) (v4 : (List Int)) (v6 : Int) (v7 : (List AaA)) (v8 : (List Int)) (v10 : Int) (v12 : Int) (v13 : Int) (v14 : Int) (v16 : Int) : Option Bool :=
  AaF.L2 k v4 v6 v7 v8 v10 v12 v13 v14 v16 k 99 0
def AaF (k : Nat) (v0 : (List Int)) : Option Bool :=
  Abw (Ae5 k v0) fun v2 =>
  if (!v2)=true then
    Abw (AdD k) fun v3 =>
    some v3
  else
    AhI (Afr k v0) fun v4 v5 =>
    Arq (AaY k v4 v5) fun v6 v7 v8 v9 =>
    AhI (AbG k v4 v9 v6) fun v10 v11 =>
    AhI (AbG k v4 v11 v6) fun v12 v13 =>
    Abw (AdB k v6 v7 v8 1 v10 v12) fun v14 =>
    if v10=v12 then
      Abw (AdD k) fun v15 =>
      if v15=true then
        some (v14==0)
      else
        some false
    else
      Abw (Abb k v6 v7 v8 v10) fun v33 =>
      Abw (Abf k v33 v12) fun v34 =>
      if v34=true then
        AaF.J1 k v4 v6 v7 v8 v10 v12 v13 v14 1
      else
        AaF.J1 k v4 v6 v7 v8 v10 v12 v13 v14 0
theorem GK {P : List (List Nat×List Nat)→Prop} {c : List (List Nat×List Nat)→Bool} {l : List (List Nat×List Nat)} (g : ∀ l,c l=true→P l) (h : c l=true:=by kernel_rfl) : P l:=g l h
abbrev Q0 (l : List AaA) : AV := .lst false false (List.map AaA.av l)
abbrev Q1 (l : List AaD) : AV := .lst false false (List.map AaD.av l)
abbrev Q2 (l : List AaB) : AV := .lst false false (List.map AaB.av l)
abbrev Gi (l : List Int) : Aat := .grow (List.map (AV.int .i64) l)
abbrev Ci (l : List Int) : Aat := .cells (List.map (AV.int .i64) l)
theorem A2 {p0 p1 : Prop} (a0 : p0) (a1 : p1) : p0∧p1:=⟨a0,a1⟩
theorem A3 {p0 p1 p2 : Prop} (a0 : p0) (a1 : p1) (a2 : p2) : p0∧p1∧p2:=⟨a0,a1,a2⟩
theorem A4 {p0 p1 p2 p3 : Prop} (a0 : p0) (a1 : p1) (a2 : p2) (a3 : p3) : p0∧p1∧p2∧p3:=⟨a0,a1,a2,a3⟩
theorem A5 {p0 p1 p2 p3 p4 : Prop} (a0 : p0) (a1 : p1) (a2 : p2) (a3 : p3) (a4 : p4) : p0∧p1∧p2∧p3∧p4:=⟨a0,a1,a2,a3,a4⟩
theorem A6 {p0 p1 p2 p3 p4 p5 : Prop} (a0 : p0) (a1 : p1) (a2 : p2) (a3 : p3) (a4 : p4) (a5 : p5) : p0∧p1∧p2∧p3∧p4∧p5:=⟨a0,a1,a2,a3,a4,a5⟩
theorem A7 {p0 p1 p2 p3 p4 p5 p6 : Prop} (a0 : p0) (a1 : p1) (a2 : p2) (a3 : p3) (a4 : p4) (a5 : p5) (a6 : p6) : p0∧p1∧p2∧p3∧p4∧p5∧p6:=⟨a0,a1,a2,a3,a4,a5,a6⟩
theorem A8 {p0 p1 p2 p3 p4 p5 p6 p7 : Prop} (a0 : p0) (a1 : p1) (a2 : p2) (a3 : p3) (a4 : p4) (a5 : p5) (a6 : p6) (a7 : p7) : p0∧p1∧p2∧p3∧p4∧p5∧p6∧p7:=⟨a0,a1,a2,a3,a4,a5,a6,a7⟩
theorem A9 {p0 p1 p2 p3 p4 p5 p6 p7 p8 : Prop} (a0 : p0) (a1 : p1) (a2 : p2) (a3 : p3) (a4 : p4) (a5 : p5) (a6 : p6) (a7 : p7) (a8 : p8) : p0∧p1∧p2∧p3∧p4∧p5∧p6∧p7∧p8:=⟨a0,a1,a2,a3,a4,a5,a6,a7,a8⟩
end Go.TF
set_option maxRecDepth 100000
namespace Go.Proofs.YtelffnegemdicaaPtT
open Go Go.Abs Go.Proofs
theorem Ao4 : Try.prog.follows .mixedOrders=true:=by kernel_rfl
section
variable {n : Nat} {c0 : Cx} {w0 : World} {Q : Acl} {s : Nat→AV} {H : Aas} {N : Nat} {T : Act→World→Prop}
theorem SQ {id : Nat} {ops : List Oper} {draw : Bool} {y : Code} (mu : List Nat) (gs : List (Option (Nat×Bool)))
 (h : ∀ (G : Log→Prop) (K : (Nat→AV)→Aas→Nat→Prop),(∀ lg,(!draw||Ad1 ops lg)=true→G lg)→(∀ s' H' N',AW Try.prog n c0 w0 y Q s' H' N'→K s' H' N')→AfF Try.prog mu ops gs s H N [] (fun s' H' N' lg=>G lg∧K s' H' N'))
 (hok : Aly n ops gs=true:=by kernel_rfl) : AW Try.prog n c0 w0 (.seq (.region id ops.toArray draw) y) Q s H N:=AW.seqR Ao4 mu gs hok h
theorem RG {id : Nat} {ops : List Oper} {draw : Bool} (mu : List Nat) (gs : List (Option (Nat×Bool)))
 (h : ∀ (G : Log→Prop) (K : (Nat→AV)→Aas→Nat→Prop),(∀ lg,(!draw||Ad1 ops lg)=true→G lg)→(∀ s' H' N',Q .normal s' H' N'→K s' H' N')→AfF Try.prog mu ops gs s H N [] (fun s' H' N' lg=>G lg∧K s' H' N'))
 (hok : Aly n ops gs=true:=by kernel_rfl) : AW Try.prog n c0 w0 (.region id ops.toArray draw) Q s H N:=AW.region Ao4 mu gs hok h
theorem WK {x : Code} (l : List (Nat×AV)) (hl : List (Nat×Aat)) (N' : Nat) (h1 : ∀ p ∈ l,s p.1=p.2) (h2 : ∀ p ∈ hl,H p.1=some p.2) (h : AW Try.prog n c0 w0 x Q (mkS l) (mkH hl) N') (hN : N≤N':=by simp) : AW Try.prog n c0 w0 x Q s H N:=AW.wk l hl N' h1 h2 hN h
theorem RN (h0 : Ab6 c0 0) (ρ : List (Nat×Nat)) (l : List (Nat×AV)) (o : List (Nat×Aat)) (M : Nat)
 (h1 : ∀ p ∈ l,s p.1=Abs.ren (AcK ρ) p.2∧gd (fun i=>(Abs.Ac8 ρ i).isSome=true) p.2)
 (h2 : ∀ p ∈ o,H (AcK ρ p.1)=some (AdX (AcK ρ) p.2)∧gdO (fun i=>(Abs.Ac8 ρ i).isSome=true) p.2)
 (h : Abs.Can n c0 w0 (mkS l) (mkH o) M T) (hρ1 : (ρ.map (·.2)).Nodup:=by decide) (hρ2 : ∀ p ∈ ρ,p.1<M∧(p.1<0→p.1=p.2):=by decide) (hk : o.map (·.1)=ρ.map (·.1):=by rfl) : Abs.Can n c0 w0 s H N T:=Abs.Can.ren h0 ρ l o M hρ1 hρ2 (Nat.zero_le _) hk h1 h2 h
theorem RM {x : Code} (h0 : Ab6 c0 0) (ρ : List (Nat×Nat)) (l : List (Nat×AV)) (o : List (Nat×Aat)) (M : Nat)
 (h1 : ∀ p ∈ l,s p.1=Abs.ren (AcK ρ) p.2∧gd (fun i=>(Abs.Ac8 ρ i).isSome=true) p.2)
 (h2 : ∀ p ∈ o,H (AcK ρ p.1)=some (AdX (AcK ρ) p.2)∧gdO (fun i=>(Abs.Ac8 ρ i).isSome=true) p.2)
 (h : AW Try.prog n c0 w0 x Q (mkS l) (mkH o) M) (hρ1 : (ρ.map (·.2)).Nodup:=by decide) (hρ2 : ∀ p ∈ ρ,p.1<M∧(p.1<0→p.1=p.2):=by decide) (hk : o.map (·.1)=ρ.map (·.1):=by rfl) : AW Try.prog n c0 w0 x Q s H N:=AW.rnm h0 ρ l o M hρ1 hρ2 (Nat.zero_le _) hk h1 h2 h
theorem AC {f : FuncId} {args : List AV} {K : CK} {args0 : List AV} {r : AV} {O' : List (Option Aat)} (hF : AbF Try.prog f args0 [] r O') (hco : Alg H (nm []) args args0 [])
 (hk : K (ren (nm ([]++Afc N (O'.length-([] : List Aat).length))) r) (Aj0 (nm ([]++Afc N (O'.length-([] : List Aat).length))) H ([]++Afc N (O'.length-([] : List Aat).length)) O') (N+(O'.length-([] : List Aat).length)) ([]++[]) ([]++Afc N (O'.length-([] : List Aat).length)))
 (hcal : Aac Try.prog f=true:=by simp) (hun : AqC [] [] [] O':=by simp) : Ale Try.prog f args H N K :=
 Aa9 hF hcal [] [] [] rfl hco trivial .nil (by simp) (by simp) (.inl rfl) (by simp) hun hk
theorem CT {t : Nat} {x y : Code} (hb : s t = .bool true) (h : AW Try.prog n c0 w0 x Q s H N) (ht : decide (t<n)=true:=by decide) : AW Try.prog n c0 w0 (.cond (.tmp t) x y) Q s H N:=AW.condT ht hb h
theorem CF {t : Nat} {x y : Code} (hb : s t = .bool false) (h : AW Try.prog n c0 w0 y Q s H N) (ht : decide (t<n)=true:=by decide) : AW Try.prog n c0 w0 (.cond (.tmp t) x y) Q s H N:=AW.condF ht hb h
theorem EN {f : FuncId} {fn : Func} {code : Code} {args : List AV} {O : List Aat} {r : AV} {O' : List (Option Aat)} (hf : Try.prog.funcs[f]? = some fn)
 (h : ∀ (c0 : Cx) (w0 : World) (Q : Acl),Ab6 c0 O.length→(∀ s H N,Afj Try.prog s H fn.results.toList r→(∀ i,i<O'.length→H i=nth O' i)→Q .ret s H N∧Q .normal s H N)→AW Try.prog fn.ntmps c0 w0 code Q (Anq args) (fun i=>O[i]?) O.length)
 (hb : fn.body=some code:=by rfl) (hm : args.length≤fn.ntmps:=by simp) (hin : Agv fn.ntmps fn.results.toList=true:=by decide)
 (len : O.length≤O'.length:=by simp) (ga : gdL (· < O.length) args:=by simp) (gO : ∀ o ∈ O,gdO (· < O.length) o:=by simp) (gr : gd (fun i=>(nth O' i).isSome=true) r:=by simp) (gO' : ∀ o,some o ∈ O'→gdO (fun i=>(nth O' i).isSome=true) o:=by simp) : AbF Try.prog f args O r O':=AbF.enter hf hb hm hin len ga gO gr gO' h
theorem NX {α : Type} {F : Nat→α→Prop} {L : α→List (Nat×AV)} {O : α→List (Nat×Aat)} {M k k' : Nat} (y : α) (hF : F k' y) (h1 : ∀ p ∈ L y,s p.1=p.2) (h2 : ∀ p ∈ O y,H p.1=some p.2) (hk : k'<k:=by omega) (hN : N≤M:=by simp) :
 Abs.Can n c0 w0 s H N (fun a w=>∃ k' y,k'<k∧F k' y∧St n c0 w0 (mkS (L y)) (mkH (O y)) M a w):=Abs.Can.next y hk hF h1 h2 hN
theorem JN {α : Type} {F : α→Prop} {L : α→List (Nat×AV)} {O : α→List (Nat×Aat)} {M : Nat} (y : α) (hF : F y) (h1 : ∀ p ∈ L y,s p.1=p.2) (h2 : ∀ p ∈ O y,H p.1=some p.2) (hN : N≤M:=by simp) :
 Abs.Can n c0 w0 s H N (fun a w=>∃ y,F y∧St n c0 w0 (mkS (L y)) (mkH (O y)) M a w):=Abs.Can.join y hF h1 h2 hN
end
@[simp↓] theorem AtI {P : Program} {mu : List Nat} {d : Option Nat} {s : Nat→AV} {H : Aas} {N : Nat} {K : CK} {y : Operand} : bop P mu d s H N K (.move y)=K (ev s y) H N [] []:=bop.eq_1 ..
@[simp↓] theorem AtJ {P : Program} {mu : List Nat} {d : Option Nat} {s : Nat→AV} {H : Aas} {N : Nat} {K : CK} {y : Operand} : bop P mu d s H N K (.assign y)=K (ev s y) H N [] []:=bop.eq_2 ..
@[simp] theorem t0 : AcR Try.prog 0=some false∧AbZ Try.prog 0=some 1:=by and_intros <;> kernel_rfl
@[simp] theorem t1 : AcR Try.prog 1=some false∧AbZ Try.prog 1=some 1∧Abv Try.prog 1=some [AV.nilfn]∧Abn Try.prog 1=some AV.nilfn:=by and_intros <;> kernel_rfl
@[simp] theorem t2 : AcR Try.prog 2=some false∧AbZ Try.prog 2=some 1∧Abv Try.prog 2=some [AV.int .i64 0]∧Abn Try.prog 2=some (AV.int .i64 0)∧AjP Try.prog 2=some IntKind.i64:=by and_intros <;> kernel_rfl
@[simp] theorem t3 : AcR Try.prog 3=some false∧AbZ Try.prog 3=some 1∧Abv Try.prog 3=some [AV.int .i64 0]∧Abn Try.prog 3=some (AV.int .i64 0)∧AjP Try.prog 3=some IntKind.i64:=by and_intros <;> kernel_rfl
@[simp] theorem t4 : AcR Try.prog 4=some false∧AbZ Try.prog 4=some 1∧Abv Try.prog 4=some [AV.bool false]∧Abn Try.prog 4=some (AV.bool false)∧Try.prog.underlying 4=some Go.TypeDesc.bool:=by and_intros <;> kernel_rfl
@[simp] theorem t5 : AcR Try.prog 5=some false∧AbZ Try.prog 5=some 1∧Abv Try.prog 5=some [AV.int .u8 0]∧Abn Try.prog 5=some (AV.int .u8 0)∧AjP Try.prog 5=some IntKind.u8:=by and_intros <;> kernel_rfl
@[simp] theorem t9 : AkK Try.prog 9=true∧AcR Try.prog 9=some false∧AbZ Try.prog 9=some 1∧Abv Try.prog 9=some [AV.str { data := { toList:=[] } }]∧Abn Try.prog 9=some (AV.str { data := { toList:=[] } })∧Aco Try.prog 9=true:=by and_intros <;> kernel_rfl
@[simp] theorem t22 : Aa5 Try.prog 22=some (3,1,8)∧AlU Try.prog 22=true∧AcR Try.prog 22=some false∧AbZ Try.prog 22=some 1∧Abv Try.prog 22=some [AV.lst true true []]∧Abn Try.prog 22=some (AV.lst true true [])∧Aco Try.prog 22=true∧Try.prog.underlying 22=some (Go.TypeDesc.slice 3):=by and_intros <;> kernel_rfl
@[simp] theorem t27 : Aa5 Try.prog 27=some (65,3,24)∧AlU Try.prog 27=true∧AcR Try.prog 27=some false∧AbZ Try.prog 27=some 1∧Abv Try.prog 27=some [AV.lst true true []]∧Abn Try.prog 27=some (AV.lst true true [])∧Aco Try.prog 27=true∧Try.prog.underlying 27=some (Go.TypeDesc.slice 65):=by and_intros <;> kernel_rfl
@[simp] theorem t29 : AcR Try.prog 29=some true∧AbZ Try.prog 29=some 3∧Abv Try.prog 29=some [AV.int .i64 0,AV.lst true true [],AV.lst true true []]∧Abn Try.prog 29=some (AV.agg [AV.int .i64 0,AV.lst true true [],AV.lst true true []])∧Aci Try.prog 29=true:=by and_intros <;> kernel_rfl
@[simp] theorem t35 : Aa5 Try.prog 35=some (46,3,24)∧AlU Try.prog 35=true∧AcR Try.prog 35=some false∧AbZ Try.prog 35=some 1∧Abv Try.prog 35=some [AV.lst true true []]∧Abn Try.prog 35=some (AV.lst true true [])∧Aco Try.prog 35=true∧Try.prog.underlying 35=some (Go.TypeDesc.slice 46):=by and_intros <;> kernel_rfl
@[simp] theorem t37 : AcR Try.prog 37=some true∧AbZ Try.prog 37=some 2∧Abv Try.prog 37=some [AV.int .i64 0,AV.lst true true []]∧Abn Try.prog 37=some (AV.agg [AV.int .i64 0,AV.lst true true []])∧Aci Try.prog 37=true:=by and_intros <;> kernel_rfl
@[simp] theorem t46 : AcR Try.prog 46=some true∧AbZ Try.prog 46=some 3∧Abv Try.prog 46=some [AV.int .i64 0,AV.int .i64 0,AV.int .i64 0]∧Abn Try.prog 46=some (AV.agg [AV.int .i64 0,AV.int .i64 0,AV.int .i64 0])∧Aci Try.prog 46=true∧AoZ Try.prog 46=some [Abj.int .i64,Abj.int .i64,Abj.int .i64]:=by and_intros <;> kernel_rfl
@[simp] theorem t56 : Aa5 Try.prog 56=some (22,1,24)∧AlU Try.prog 56=true∧AcR Try.prog 56=some false∧AbZ Try.prog 56=some 1∧Abv Try.prog 56=some [AV.lst true true []]∧Abn Try.prog 56=some (AV.lst true true [])∧Aco Try.prog 56=true∧Try.prog.underlying 56=some (Go.TypeDesc.slice 22):=by and_intros <;> kernel_rfl
@[simp] theorem t63 : AcR Try.prog 63=some false∧AbZ Try.prog 63=some 1∧Abv Try.prog 63=some [AV.int .u64 0]∧Abn Try.prog 63=some (AV.int .u64 0)∧AjP Try.prog 63=some IntKind.u64:=by and_intros <;> kernel_rfl
@[simp] theorem t65 : AcR Try.prog 65=some true∧AbZ Try.prog 65=some 3∧Abv Try.prog 65=some [AV.int .i64 0,AV.int .i64 0,AV.int .i64 0]∧Abn Try.prog 65=some (AV.agg [AV.int .i64 0,AV.int .i64 0,AV.int .i64 0])∧Aci Try.prog 65=true∧AoZ Try.prog 65=some [Abj.int .i64,Abj.int .i64,Abj.int .i64]:=by and_intros <;> kernel_rfl
@[simp] theorem t73 : AcR Try.prog 73=some true∧AbZ Try.prog 73=some 2∧Abv Try.prog 73=some [AV.lst true true [],AV.int .i64 0]∧Abn Try.prog 73=some (AV.agg [AV.lst true true [],AV.int .i64 0])∧Aci Try.prog 73=true:=by and_intros <;> kernel_rfl
@[simp] theorem t88 : AcR Try.prog 88=some false∧AbZ Try.prog 88=some 1∧Abv Try.prog 88=some [AV.nilmap]∧Abn Try.prog 88=some AV.nilmap∧AeY Try.prog 88=some (Abj.int .i64,AV.bool false):=by and_intros <;> kernel_rfl
@[simp] theorem t91 : Aa5 Try.prog 91=some (4,1,1)∧AlU Try.prog 91=true∧AcR Try.prog 91=some false∧AbZ Try.prog 91=some 1∧Abv Try.prog 91=some [AV.lst true true []]∧Abn Try.prog 91=some (AV.lst true true [])∧Aco Try.prog 91=true∧Try.prog.underlying 91=some (Go.TypeDesc.slice 4):=by and_intros <;> kernel_rfl
@[simp] theorem t93 : AcR Try.prog 93=some true∧AbZ Try.prog 93=some 8∧Abv Try.prog 93=some [AV.int .i64 0,AV.lst true true [],AV.lst true true [],AV.int .i64 0,AV.int .i64 0,AV.int .i64 0,AV.nilmap,AV.bool false]∧Abn Try.prog 93=some (AV.agg [AV.int .i64 0,AV.lst true true [],AV.lst true true [],AV.int .i64 0,AV.int .i64 0,AV.int .i64 0,AV.nilmap,AV.bool false])∧Aci Try.prog 93=true:=by and_intros <;> kernel_rfl
@[simp] theorem t97 : AcR Try.prog 98=some false∧AbZ Try.prog 98=some 1∧Abv Try.prog 98=some [AV.nilmap]∧Abn Try.prog 98=some AV.nilmap∧AeY Try.prog 98=some (Abj.int .i64,AV.int .i64 0):=by and_intros <;> kernel_rfl
@[simp] theorem Att : Aa5 Try.prog 106=some (122,1,24)∧AlU Try.prog 106=true∧AcR Try.prog 106=some false∧AbZ Try.prog 106=some 1∧Abv Try.prog 106=some [AV.lst true true []]∧Abn Try.prog 106=some (AV.lst true true [])∧Aco Try.prog 106=true∧Try.prog.underlying 106=some (Go.TypeDesc.slice 122):=by and_intros <;> kernel_rfl
@[simp] theorem Ats : AcR Try.prog 108=some true∧AbZ Try.prog 108=some 4∧Abv Try.prog 108=some [AV.int .i64 0,AV.lst true true [],AV.lst true true [],AV.lst true true []]∧Abn Try.prog 108=some (AV.agg [AV.int .i64 0,AV.lst true true [],AV.lst true true [],AV.lst true true []])∧Aci Try.prog 108=true:=by and_intros <;> kernel_rfl
@[simp] theorem Atr : AcR Try.prog 112=some false∧AbZ Try.prog 112=some 1∧Abv Try.prog 112=some [AV.nilmap]∧Abn Try.prog 112=some AV.nilmap∧AeY Try.prog 112=some (Abj.int .i64,AV.lst true true []):=by and_intros <;> kernel_rfl
@[simp] theorem Atq : Aa5 Try.prog 122=some (124,2,16)∧AlU Try.prog 122=true∧AcR Try.prog 122=some false∧AbZ Try.prog 122=some 1∧Abv Try.prog 122=some [AV.lst true true []]∧Abn Try.prog 122=some (AV.lst true true [])∧Aco Try.prog 122=true∧Try.prog.underlying 122=some (Go.TypeDesc.slice 124):=by and_intros <;> kernel_rfl
@[simp] theorem Atp : AcR Try.prog 124=some true∧AbZ Try.prog 124=some 2∧Abv Try.prog 124=some [AV.int .i64 0,AV.bool false]∧Abn Try.prog 124=some (AV.agg [AV.int .i64 0,AV.bool false])∧Aci Try.prog 124=true∧AoZ Try.prog 124=some [Abj.int .i64,Abj.bool]:=by and_intros <;> kernel_rfl
@[simp] theorem Ato : AcR Try.prog 125=some false∧AbZ Try.prog 125=some 1∧Abv Try.prog 125=some [AV.nilmap]∧Abn Try.prog 125=some AV.nilmap∧AeY Try.prog 125=some (Abj.int .i64,AV.agg [AV.int .i64 0,AV.bool false]):=by and_intros <;> kernel_rfl
@[simp] theorem Atn : Ac9 Try.prog 29 0=some (0,1)∧Ab2 Try.prog 29 0=some 0∧Ab7 Try.prog 29 0=some (0,none)∧Ac9 Try.prog 29 1=some (1,1)∧Ab2 Try.prog 29 1=some 1∧Ab7 Try.prog 29 1=some (1,none)∧Ac9 Try.prog 29 2=some (2,1)∧Ab2 Try.prog 29 2=some 2∧Ab7 Try.prog 29 2=some (2,none):=by and_intros <;> kernel_rfl
@[simp] theorem Atm : Ac9 Try.prog 37 0=some (0,1)∧Ab2 Try.prog 37 0=some 0∧Ab7 Try.prog 37 0=some (0,none)∧Ac9 Try.prog 37 1=some (1,1)∧Ab2 Try.prog 37 1=some 1∧Ab7 Try.prog 37 1=some (1,none):=by and_intros <;> kernel_rfl
@[simp] theorem Atl : Ac9 Try.prog 46 0=some (0,1)∧Ab2 Try.prog 46 0=some 0∧Ab7 Try.prog 46 0=some (0,none)∧Ac9 Try.prog 46 1=some (1,1)∧Ab2 Try.prog 46 1=some 1∧Ab7 Try.prog 46 1=some (1,none)∧Ac9 Try.prog 46 2=some (2,1)∧Ab2 Try.prog 46 2=some 2∧Ab7 Try.prog 46 2=some (2,none):=by and_intros <;> kernel_rfl
@[simp] theorem Atk : Ac9 Try.prog 65 0=some (0,1)∧Ab2 Try.prog 65 0=some 0∧Ab7 Try.prog 65 0=some (0,none)∧Ac9 Try.prog 65 1=some (1,1)∧Ab2 Try.prog 65 1=some 1∧Ab7 Try.prog 65 1=some (1,none)∧Ac9 Try.prog 65 2=some (2,1)∧Ab2 Try.prog 65 2=some 2∧Ab7 Try.prog 65 2=some (2,none):=by and_intros <;> kernel_rfl
@[simp] theorem Atj : Ac9 Try.prog 73 0=some (0,1)∧Ab2 Try.prog 73 0=some 0∧Ab7 Try.prog 73 0=some (0,none)∧Ac9 Try.prog 73 1=some (1,1)∧Ab2 Try.prog 73 1=some 1∧Ab7 Try.prog 73 1=some (1,none):=by and_intros <;> kernel_rfl
@[simp] theorem Ati : Ac9 Try.prog 93 0=some (0,3)∧Ab2 Try.prog 93 0=some 0∧Ab7 Try.prog 93 0=some (0,some 3)∧Ac9 Try.prog 93 1=some (3,1)∧Ab2 Try.prog 93 1=some 3∧Ab7 Try.prog 93 1=some (3,none)∧Ac9 Try.prog 93 2=some (4,1)∧Ab2 Try.prog 93 2=some 4∧Ab7 Try.prog 93 2=some (4,none)∧Ac9 Try.prog 93 3=some (5,1)∧Ab2 Try.prog 93 3=some 5∧Ab7 Try.prog 93 3=some (5,none)∧Ac9 Try.prog 93 4=some (6,1)∧Ab2 Try.prog 93 4=some 6∧Ab7 Try.prog 93 4=some (6,none)∧Ac9 Try.prog 93 5=some (7,1)∧Ab2 Try.prog 93 5=some 7∧Ab7 Try.prog 93 5=some (7,none):=by and_intros <;> kernel_rfl
@[simp] theorem Ath : Ac9 Try.prog 108 0=some (0,2)∧Ab2 Try.prog 108 0=some 0∧Ab7 Try.prog 108 0=some (0,some 2)∧Ac9 Try.prog 108 1=some (2,1)∧Ab2 Try.prog 108 1=some 2∧Ab7 Try.prog 108 1=some (2,none)∧Ac9 Try.prog 108 2=some (3,1)∧Ab2 Try.prog 108 2=some 3∧Ab7 Try.prog 108 2=some (3,none):=by and_intros <;> kernel_rfl
@[simp] theorem Atg : Ac9 Try.prog 124 0=some (0,1)∧Ab2 Try.prog 124 0=some 0∧Ab7 Try.prog 124 0=some (0,none)∧Ac9 Try.prog 124 1=some (1,1)∧Ab2 Try.prog 124 1=some 1∧Ab7 Try.prog 124 1=some (1,none):=by and_intros <;> kernel_rfl
@[simp] theorem c0 : Aac Try.prog 7=true∧Aac Try.prog 9=true∧Aac Try.prog 11=true∧Aac Try.prog 12=true∧Aac Try.prog 16=true∧Aac Try.prog 20=true∧Aac Try.prog 23=true∧Aac Try.prog 24=true∧Aac Try.prog 27=true∧Aac Try.prog 29=true∧Aac Try.prog 31=true∧Aac Try.prog 32=true∧Aac Try.prog 33=true∧Aac Try.prog 34=true∧Aac Try.prog 35=true∧Aac Try.prog 36=true∧Aac Try.prog 37=true∧Aac Try.prog 38=true∧Aac Try.prog 39=true∧Aac Try.prog 45=true∧Aac Try.prog 46=true∧Aac Try.prog 47=true∧Aac Try.prog 52=true∧Aac Try.prog 56=true∧Aac Try.prog 58=true∧Aac Try.prog 59=true∧Aac Try.prog 61=true∧Aac Try.prog 62=true∧Aac Try.prog 63=true∧Aac Try.prog 64=true:=by and_intros <;> kernel_rfl
@[simp] theorem c30 : Aac Try.prog 65=true∧Aac Try.prog 66=true∧Aac Try.prog 67=true∧Aac Try.prog 68=true∧Aac Try.prog 69=true∧Aac Try.prog 70=true∧Aac Try.prog 71=true∧Aac Try.prog 75=true∧Aac Try.prog 76=true∧Aac Try.prog 77=true∧Aac Try.prog 78=true∧Aac Try.prog 79=true∧Aac Try.prog 80=true∧Aac Try.prog 81=true∧Aac Try.prog 84=true∧Aac Try.prog 85=true∧Aac Try.prog 86=true∧Aac Try.prog 87=true∧Aac Try.prog 88=true∧Aac Try.prog 89=true∧Aac Try.prog 90=true∧Aac Try.prog 91=true∧Aac Try.prog 92=true∧Aac Try.prog 99=true∧Aac Try.prog 100=true∧Aac Try.prog 102=true∧Aac Try.prog 103=true∧Aac Try.prog 104=true∧Aac Try.prog 105=true∧Aac Try.prog 107=true:=by and_intros <;> kernel_rfl
@[simp] theorem c60 : Aac Try.prog 108=true∧Aac Try.prog 112=true∧Aac Try.prog 113=true∧Aac Try.prog 116=true∧Aac Try.prog 117=true∧Aac Try.prog 118=true∧Aac Try.prog 119=true∧Aac Try.prog 120=true∧Aac Try.prog 121=true∧Aac Try.prog 122=true∧Aac Try.prog 123=true∧Aac Try.prog 124=true∧Aac Try.prog 125=true∧Aac Try.prog 126=true∧Aac Try.prog 127=true∧Aac Try.prog 128=true∧Aac Try.prog 129=true∧Aac Try.prog 130=true∧Aac Try.prog 131=true∧Aac Try.prog 132=true∧Aac Try.prog 133=true∧Aac Try.prog 134=true:=by and_intros <;> kernel_rfl
end Go.Proofs.YtelffnegemdicaaPtT
namespace Go.TF
open Go Go.Abs
end Go.TF
