import Derived.Test.YtelffnegemdicaaPczLay29
import Derived.Test.YtelffnegemdicaaPczLay22
import Derived.Test.YtelffnegemdicaaProg
import Derived.KernelRfl
set_option linter.unusedVariables false
set_option maxRecDepth 100000
namespace Go.TF
open Go Go.Abs
abbrev Iz (n : Int) : AV := .int .i64 n
abbrev Lz (l : List Int) : AV := .lst false false (l.map (.int .i64))
abbrev Lb (l : List Int) : AV := .lst false false (l.map (.int .u8))
abbrev Lw (l : List Int) : AV := .lst false false (l.map (.int .u32))
structure AaA where
  From : Int
  To : Int
  Level : Int
@[simp] def AaA.av (x : AaA) : AV:=AV.agg [AV.int .i64 x.From,AV.int .i64 x.To,AV.int .i64 x.Level]
@[simp] theorem AaA.okEls (l : List AaA) : okEls 3 (l.map AaA.av)↔True:=iff_true_intro (AcX.2 fun x hx=>by
  simp only [List.mem_map] at hx
  obtain ⟨b,_,rfl⟩:=hx
  simp)
@[simp] theorem AaA.gdF (S : Nat→Prop) (l : List AaA) : gdL S (AaM (l.map AaA.av))↔True:=iff_true_intro (Aii (by simp) l)
@[simp] theorem AaA.frF (l : List AaA) : Acw (AaM (l.map AaA.av))=true:=Afk (by simp) l
@[simp] theorem AaA.renF (σ : Nat→Nat) (l : List AaA) : Adl σ (AaM (l.map AaA.av))=AaM (l.map AaA.av):=Ag8 (by simp) l
@[simp] theorem AaA.lenF (l : List AaA) : (AaM (l.map AaA.av)).length=l.length*3:=Ace (F:=AaA.av) (fun _=>rfl) l
@[simp↓] theorem AaA.oneF (l : List AaA) : (AaM (l.map AaA.av)).all AV.one=true:=AiU (by simp) l
@[simp] theorem AaA.setR (σ : Nat→Nat) (l : List AaA) (i : Nat) (f0 : Int) (f1 : Int) (f2 : Int) : Adl σ (AaM ((l.map AaA.av).set i (AV.agg [AV.int .i64 f0,AV.int .i64 f1,AV.int .i64 f2])))=AaM ((l.map AaA.av).set i (AV.agg [AV.int .i64 f0,AV.int .i64 f1,AV.int .i64 f2])):=by
  have h:=AaA.renF σ (l.set i (AaA.mk f0 f1 f2))
  rw [List.map_set] at h; exact h
@[simp] theorem AaA.setG (S : Nat→Prop) (l : List AaA) (i : Nat) (f0 : Int) (f1 : Int) (f2 : Int) : gdL S (AaM ((l.map AaA.av).set i (AV.agg [AV.int .i64 f0,AV.int .i64 f1,AV.int .i64 f2])))↔True:=by
  have h:=AaA.gdF S (l.set i (AaA.mk f0 f1 f2))
  rw [List.map_set] at h; exact h
@[simp] theorem AaA.setF (l : List AaA) (i : Nat) (f0 : Int) (f1 : Int) (f2 : Int) : Acw (AaM ((l.map AaA.av).set i (AV.agg [AV.int .i64 f0,AV.int .i64 f1,AV.int .i64 f2])))=true:=by
  have h:=AaA.frF (l.set i (AaA.mk f0 f1 f2))
  rw [List.map_set] at h; exact h
@[simp] theorem AaA.len_take (i : Nat) (l : List AaA) : (AaM (List.take i (l.map AaA.av))).length=(l.take i).length*3:=by rw [← List.map_take]; exact AaA.lenF _
@[simp] theorem AaA.ren_take (σ : Nat→Nat) (i : Nat) (l : List AaA) : Adl σ (AaM (List.take i (l.map AaA.av)))=AaM (List.take i (l.map AaA.av)):=by rw [← List.map_take]; exact AaA.renF σ _
@[simp] theorem AaA.gd_take (S : Nat→Prop) (i : Nat) (l : List AaA) : gdL S (AaM (List.take i (l.map AaA.av)))↔True:=by rw [← List.map_take]; exact AaA.gdF S _
@[simp] theorem AaA.one_take (i : Nat) (l : List AaA) : (∀ x : AV,x ∈ AaM (List.take i (l.map AaA.av))→x.one=true)↔True:=iff_true_intro (List.all_eq_true.1 (by rw [← List.map_take]; exact AaA.oneF _))
@[simp] theorem AaA.len_drop (i : Nat) (l : List AaA) : (AaM (List.drop i (l.map AaA.av))).length=(l.drop i).length*3:=by rw [← List.map_drop]; exact AaA.lenF _
@[simp] theorem AaA.ren_drop (σ : Nat→Nat) (i : Nat) (l : List AaA) : Adl σ (AaM (List.drop i (l.map AaA.av)))=AaM (List.drop i (l.map AaA.av)):=by rw [← List.map_drop]; exact AaA.renF σ _
@[simp] theorem AaA.gd_drop (S : Nat→Prop) (i : Nat) (l : List AaA) : gdL S (AaM (List.drop i (l.map AaA.av)))↔True:=by rw [← List.map_drop]; exact AaA.gdF S _
@[simp] theorem AaA.ids (S : Nat→Prop) (l : List AaA) : AbO S (l.map AaA.av)↔True:=iff_true_intro (AfD (by simp) l)
structure AaI where
  From : Int
  To : Int
  Cap : Int
@[simp] def AaI.av (x : AaI) : AV:=AV.agg [AV.int .i64 x.From,AV.int .i64 x.To,AV.int .i64 x.Cap]
@[simp] theorem AaI.okEls (l : List AaI) : okEls 3 (l.map AaI.av)↔True:=iff_true_intro (AcX.2 fun x hx=>by
  simp only [List.mem_map] at hx
  obtain ⟨b,_,rfl⟩:=hx
  simp)
@[simp] theorem AaI.gdF (S : Nat→Prop) (l : List AaI) : gdL S (AaM (l.map AaI.av))↔True:=iff_true_intro (Aii (by simp) l)
@[simp] theorem AaI.frF (l : List AaI) : Acw (AaM (l.map AaI.av))=true:=Afk (by simp) l
@[simp] theorem AaI.renF (σ : Nat→Nat) (l : List AaI) : Adl σ (AaM (l.map AaI.av))=AaM (l.map AaI.av):=Ag8 (by simp) l
@[simp] theorem AaI.lenF (l : List AaI) : (AaM (l.map AaI.av)).length=l.length*3:=Ace (F:=AaI.av) (fun _=>rfl) l
@[simp↓] theorem AaI.oneF (l : List AaI) : (AaM (l.map AaI.av)).all AV.one=true:=AiU (by simp) l
@[simp] theorem AaI.ids (S : Nat→Prop) (l : List AaI) : AbO S (l.map AaI.av)↔True:=iff_true_intro (AfD (by simp) l)
structure AaD where
  arc : Int
  back : Bool
@[simp] def AaD.av (x : AaD) : AV:=AV.agg [AV.int .i64 x.arc,AV.bool x.back]
@[simp] theorem AaD.okEls (l : List AaD) : okEls 2 (l.map AaD.av)↔True:=iff_true_intro (AcX.2 fun x hx=>by
  simp only [List.mem_map] at hx
  obtain ⟨b,_,rfl⟩:=hx
  simp)
@[simp] theorem AaD.gdF (S : Nat→Prop) (l : List AaD) : gdL S (AaM (l.map AaD.av))↔True:=iff_true_intro (Aii (by simp) l)
@[simp] theorem AaD.frF (l : List AaD) : Acw (AaM (l.map AaD.av))=true:=Afk (by simp) l
@[simp] theorem AaD.renF (σ : Nat→Nat) (l : List AaD) : Adl σ (AaM (l.map AaD.av))=AaM (l.map AaD.av):=Ag8 (by simp) l
@[simp] theorem AaD.lenF (l : List AaD) : (AaM (l.map AaD.av)).length=l.length*2:=Ace (F:=AaD.av) (fun _=>rfl) l
@[simp↓] theorem AaD.oneF (l : List AaD) : (AaM (l.map AaD.av)).all AV.one=true:=AiU (by simp) l
@[simp] theorem AaD.mpR (σ : Nat→Nat) (k : IntKind) (l : List (Int×AaD)) : AdY σ (.mp (mpA (AV.int k) AaD.av l)) = .mp (mpA (AV.int k) AaD.av l):=Agm σ _ _ l (by simp) (by simp)
@[simp] theorem AaD.mpG (S : Nat→Prop) (k : IntKind) (l : List (Int×AaD)) : gdO S (.mp (mpA (AV.int k) AaD.av l))↔True:=Aig S _ _ l (by simp) (by simp)
@[simp] theorem AaD.mpF (k : IntKind) (l : List (Int×AaD)) : AgC (.mp (mpA (AV.int k) AaD.av l))=true:=AlJ _ _ l (by simp) (by simp)
@[simp] theorem AaD.mpPR (σ : Nat→Nat) (k : IntKind) (l : List (Int×AaD)) (i : Int) (f0 : Int) (f1 : Bool) : AdY σ (.mp (AcZ (mpA (AV.int k) AaD.av l) (AV.int k i) (AV.agg [AV.int .i64 f0,AV.bool f1]))) = .mp (AcZ (mpA (AV.int k) AaD.av l) (AV.int k i) (AV.agg [AV.int .i64 f0,AV.bool f1])):=by
  have h:=AaD.mpR σ k (AbE l i (AaD.mk f0 f1))
  rw [AgT] at h; exact h
@[simp] theorem AaD.mpPG (S : Nat→Prop) (k : IntKind) (l : List (Int×AaD)) (i : Int) (f0 : Int) (f1 : Bool) : gdO S (.mp (AcZ (mpA (AV.int k) AaD.av l) (AV.int k i) (AV.agg [AV.int .i64 f0,AV.bool f1])))↔True:=by
  have h:=AaD.mpG S k (AbE l i (AaD.mk f0 f1))
  rw [AgT] at h; exact h
@[simp] theorem AaD.ids (S : Nat→Prop) (l : List AaD) : AbO S (l.map AaD.av)↔True:=iff_true_intro (AfD (by simp) l)
def AfC (k : Nat) (v0 : (List Int)) : Option Bool :=
  some (decide ((v0.length : Int)≤400))
def Acm (k : Nat) (v0 : Int) (v1 : Int) (v2 : Int) : Option Bool :=
  if v1≤v0 then
    some (decide (v0≤v2))
  else
    some false
def AcW (k : Nat) (v0 : Int) (v1 : (List AaA)) (v2 : (List Int)) (v3 : Int) (v4 : Int) (v5 : Int) : Option Bool :=
  Abi (Acm k v3 1 3) fun v7 =>
  if v7=true then
    Abi (Acm k v4 0 (IntKind.wrap .i64 (v0-1))) fun v8 =>
    if v8=true then
      Abi (Acm k v5 0 (IntKind.wrap .i64 (v0-1))) fun v9 =>
      if v9=true then
        some (v4 !=v5)
      else
        some false
    else
      some false
  else
    some false
def Aco (k : Nat) (v0 : Int) : Option Int :=
  some (IntKind.wrap .i64 (2+IntKind.wrap .i64 (2*v0)))
def AaY.J2 (k : Nat) (v9 : Int) (kb1 : Int→(List AaI)→Option (Int×(List AaI))) (v11 : (List AaI)) : Option (Int×(List AaI)) :=
  kb1 (IntKind.wrap .i64 (v9+1)) v11
def AaY.J4 (k : Nat) (v14 : Int) (kb3 : Int→(List AaI)→Option (Int×(List AaI))) (v16 : (List AaI)) : Option (Int×(List AaI)) :=
  kb3 (IntKind.wrap .i64 (v14+1)) v16
def AaY.J6 (k : Nat) (v14 : Int) (v15 : (List AaI)) (v20 : Int) (kb3 : Int→(List AaI)→Option (Int×(List AaI))) (v21 : Int) : Option (Int×(List AaI)) :=
  chk ((v15.length+([(AaI.mk v20 v21 1)] : List AaI).length)*24≤140737488355328) <|
  AaY.J4 k v14 kb3 (v15++([(AaI.mk v20 v21 1)] : List AaI))
def AaY.J5 (k : Nat) (v5 : Int) (v14 : Int) (v15 : (List AaI)) (v17 : AaA) (v19 : Int) (kb3 : Int→(List AaI)→Option (Int×(List AaI))) (v20 : Int) : Option (Int×(List AaI)) :=
  if v17.To=v5 then
    AaY.J6 k v14 v15 v20 kb3 1
  else
    AaY.J6 k v14 v15 v20 kb3 v19
def AaY.L3 (k : Nat) (v1 : (List AaA)) (v3 : Int) (v4 : Int) (v5 : Int) (v8 : Int) : Nat→Int→(List AaI)→Option (Int×(List AaI))
  | 0,_,_=>none
  | n+1,v14,v15 =>
    if v14<(v1.length : Int) then
      idx v1 v14 fun v17 =>
      if v17.Level<v3 then
        AaY.J4 k v14 (fun v14_ v15_=>AaY.L3 k v1 v3 v4 v5 v8 n v14_ v15_) v15
      else
        if v17.To=v4 then
          AaY.J4 k v14 (fun v14_ v15_=>AaY.L3 k v1 v3 v4 v5 v8 n v14_ v15_) v15
        else
          if v17.From=v5 then
            AaY.J4 k v14 (fun v14_ v15_=>AaY.L3 k v1 v3 v4 v5 v8 n v14_ v15_) v15
          else
            Abi (Aco k v17.From) fun v18 =>
            Abi (Aco k v17.To) fun v19 =>
            if v17.From=v4 then
              AaY.J5 k v5 v14 v15 v17 v19 (fun v14_ v15_=>AaY.L3 k v1 v3 v4 v5 v8 n v14_ v15_) 0
            else
              AaY.J5 k v5 v14 v15 v17 v19 (fun v14_ v15_=>AaY.L3 k v1 v3 v4 v5 v8 n v14_ v15_) (IntKind.wrap .i64 (v18+1))
    else
      some (v8,v15)
def AaY.L1 (k : Nat) (v0 : Int) (v1 : (List AaA)) (v3 : Int) (v4 : Int) (v5 : Int) (v8 : Int) : Nat→Int→(List AaI)→Option (Int×(List AaI))
  | 0,_,_=>none
  | n+1,v9,v10 =>
    if v9<v0 then
      if v9≠v4 then
        if v9≠v5 then
          Abi (Aco k v9) fun v12 =>
          Abi (Aco k v9) fun v13 =>
          chk ((v10.length+([(AaI.mk v12 (IntKind.wrap .i64 (v13+1)) 1)] : List AaI).length)*24≤140737488355328) <|
          AaY.J2 k v9 (fun v9_ v10_=>AaY.L1 k v0 v1 v3 v4 v5 v8 n v9_ v10_) (v10++([(AaI.mk v12 (IntKind.wrap .i64 (v13+1)) 1)] : List AaI))
        else
          AaY.J2 k v9 (fun v9_ v10_=>AaY.L1 k v0 v1 v3 v4 v5 v8 n v9_ v10_) v10
      else
        AaY.J2 k v9 (fun v9_ v10_=>AaY.L1 k v0 v1 v3 v4 v5 v8 n v9_ v10_) v10
    else
      AaY.L3 k v1 v3 v4 v5 v8 k 0 v10
def AaY (k : Nat) (v0 : Int) (v1 : (List AaA)) (v2 : (List Int)) (v3 : Int) (v4 : Int) (v5 : Int) : Option (Int×(List AaI)) :=
  Abi (Aco k v0) fun v8 =>
  AaY.L1 k v0 v1 v3 v4 v5 v8 k 0 ([] : List AaI)
def Aez (k : Nat) (v0 : Int) (v1 : Int) (v2 : Int) (v3 : Int) (v4 : (List AaI)) : Option Bool :=
  Abi (Acm k v0 0 (IntKind.wrap .i64 (v3-1))) fun v6 =>
  if (!v6)=true then
    some true
  else
    Abi (Acm k v1 0 (IntKind.wrap .i64 (v3-1))) fun v7 =>
    if (!v7)=true then
      some true
    else
      if v0=v1 then
        some true
      else
        if v1=0 then
          some true
        else
          if v0=1 then
            some true
          else
            Abi (Acm k v2 0 1048576) fun v8 =>
            some (!v8)
def Aak.L1 (k : Nat) (v0 : (List AaI)) (v1 : Int) (v2 : (List AaI)) : Nat→Int→Option Int
  | 0,_=>none
  | n+1,v4 =>
    if v4<(v0.length : Int) then
      idx v0 v4 fun v5 =>
      Abi (Aez k v5.From v5.To v5.Cap v1 v2) fun v6 =>
      if v6=true then
        some v4
      else
        Aak.L1 k v0 v1 v2 n (IntKind.wrap .i64 (v4+1))
    else
      some (-1)
def Aak (k : Nat) (v0 : (List AaI)) (v1 : Int) (v2 : (List AaI)) : Option Int :=
  Aak.L1 k v0 v1 v2 k 0
def AbM (k : Nat) (v0 : (List AaI)) (v1 : Int) (v2 : (List AaI)) : Option Bool :=
  Abi (Aak k v0 v1 v2) fun v4 =>
  some (decide (0≤v4))
def AeG (k : Nat) (v0 : Int) (v1 : (List AaI)) : Option Int :=
  Abi (Acm k v0 2 130) fun v3 =>
  if (!v3)=true then
    some 16
  else
    if 1200<(v1.length : Int) then
      some 16
    else
      Abi (AbM k v1 v0 v1) fun v4 =>
      if v4=true then
        some 16
      else
        some 0
def Abl (k : Nat) (v0 : (List Int)) : Option (List Int) :=
  chk (v0.length*8≤140737488355328) <| some v0
def Ab6.S (v4 : (List (List AaD))) (x : Int) (e : AaD) (F : (List (List AaD))→Option (List (List AaD))) : Option (List (List AaD)) :=
  chk ((0 : Int)≤x∧x.toNat<v4.length) <|
  idx v4 x fun l =>
  chk ((l.length+([e] : List AaD).length)*16≤140737488355328) <|
  F (v4.set x.toNat (l++[e]))
def Ab6.L1 (k : Nat) (v1 : (List AaI)) : Nat→Int→(List (List AaD))→Option (List (List AaD))
  | 0,_,_=>none
  | n+1,v3,v4 =>
    if v3<(v1.length : Int) then
      idx v1 v3 fun v5 =>
      Ab6.S v4 v5.From ⟨v3,false⟩ fun v6 =>
      Ab6.S v6 v5.To ⟨v3,true⟩ fun v7 =>
      Ab6.L1 k v1 n (IntKind.wrap .i64 (v3+1)) v7
    else
      some v4
def Ab6 (k : Nat) (v0 : Int) (v1 : (List AaI)) (v2 : (List Int)) : Option (List (List AaD)) :=
  chk ((0 : Int)≤v0∧24*v0≤281474976710656) <|
  Ab6.L1 k v1 k 0 (List.replicate v0.toNat ([] : List AaD))
def AcU (k : Nat) (v0 : Int) (v1 : (List AaI)) (v2 : (List Int)) (v3 : (List (List AaD))) (v4 : Int) (v5 : Bool) : Option (Int×Int) :=
  idx v1 v4 fun v8 =>
  if v5=true then
    idx v2 v4 fun v9 =>
    some (v9,v8.From)
  else
    idx v2 v4 fun v10 =>
    some (IntKind.wrap .i64 (v8.Cap-v10),v8.To)
def AaU.J3 (k : Nat) (v11 : Int) (kb2 : Nat→Int→(List (Int×AaD))→(List Int)→Option (List (Int×AaD))) (v14 : (List (Int×AaD))) (v15 : (List Int)) (v16 : Nat) : Option (List (Int×AaD)) :=
  kb2 v16 (IntKind.wrap .i64 (v11+1)) v14 v15
def AaU.J4 (k : Nat) (v10 : Nat) (v11 : Int) (v12 : (List (Int×AaD))) (v13 : (List Int)) (v17 : AaD) (v18 : Int) (v19 : Int) (kb2 : Nat→Int→(List (Int×AaD))→(List Int)→Option (List (Int×AaD))) (v20 : Bool) : Option (List (Int×AaD)) :=
  if 0<v18 then
    if (!v20)=true then
      chk (((v13.drop v10).length+([v19] : List Int).length)*8≤140737488355328∧v10≤v13.length) <|
      AaU.J3 k v11 kb2 (AbE v12 v19 v17) ((v13.drop v10)++([v19] : List Int)) 0
    else
      AaU.J3 k v11 kb2 v12 v13 v10
  else
    AaU.J3 k v11 kb2 v12 v13 v10
def AaU.L2 (k : Nat) (v0 : Int) (v1 : (List AaI)) (v2 : (List Int)) (v3 : (List (List AaD))) (v9 : (List AaD)) (kb1 : Nat→(List (Int×AaD))→(List Int)→Option (List (Int×AaD))) : Nat→Nat→Int→(List (Int×AaD))→(List Int)→Option (List (Int×AaD))
  | 0,_,_,_,_=>none
  | n+1,v10,v11,v12,v13 =>
    if v11<(v9.length : Int) then
      idx v9 v11 fun v17 =>
      Agv (AcU k v0 v1 v2 v3 v17.arc v17.back) fun v18 v19 =>
      AgS (Ab5 v12 v19) (fun v21 =>
        AaU.J4 k v10 v11 v12 v13 v17 v18 v19 (fun v10_ v11_ v12_ v13_=>AaU.L2 k v0 v1 v2 v3 v9 kb1 n v10_ v11_ v12_ v13_) true
      ) <|
      AaU.J4 k v10 v11 v12 v13 v17 v18 v19 (fun v10_ v11_ v12_ v13_=>AaU.L2 k v0 v1 v2 v3 v9 kb1 n v10_ v11_ v12_ v13_) false
    else
      chk (0<v13.length∧(1 : Int)≤(((v13.length-v10) : Nat) : Int)) <|
      kb1 (v10+(1 : Int).toNat) v12 v13
def AaU.L1 (k : Nat) (v0 : Int) (v1 : (List AaI)) (v2 : (List Int)) (v3 : (List (List AaD))) : Nat→Nat→(List (Int×AaD))→(List Int)→Option (List (Int×AaD))
  | 0,_,_,_=>none
  | n+1,v5,v6,v7 =>
    if 0<(((v7.length-v5) : Nat) : Int) then
      chk ((0 : Int)≤0∧(0 : Int).toNat<(v7.length-v5)∧v5+(0 : Int).toNat<v7.length) <|
      idx v7 ((v5+(0 : Int).toNat : Nat) : Int) fun v8 =>
      idx v3 v8 fun v9 =>
      AaU.L2 k v0 v1 v2 v3 v9 (fun v5_ v6_ v7_=>AaU.L1 k v0 v1 v2 v3 n v5_ v6_ v7_) k v5 0 v6 v7
    else
      some v6
def AaU (k : Nat) (v0 : Int) (v1 : (List AaI)) (v2 : (List Int)) (v3 : (List (List AaD))) : Option (List (Int×AaD)) :=
  AaU.L1 k v0 v1 v2 v3 k 0 (AbE ([] : (List (Int×AaD))) 0 (AaD.mk (-1) false)) ([0] : List Int)
def AaW.J3 (k : Nat) (v0 : Int) (v1 : (List AaI)) (v2 : (List Int)) (v3 : (List (List AaD))) (v8 : Int) (v10 : (List AaD)) (kb2 : Int→Int→(List AaD)→Option (Bool×(List Int))) (v11 : Int) (v12 : Bool) : Option (Bool×(List Int)) :=
  Agv (AcU k v0 v1 v2 v3 v11 v12) fun v13 v14 =>
  chk ((v10.length+([(AaD.mk v11 v12)] : List AaD).length)*16≤140737488355328) <|
  AoY (if v13<v8 then v13 else v8) fun v15 =>
  idx v1 v11 fun v16 =>
  if v12=true then
    kb2 v15 v16.To (v10++([(AaD.mk v11 v12)] : List AaD))
  else
    kb2 v15 v16.From (v10++([(AaD.mk v11 v12)] : List AaD))
def AaW.J5 (k : Nat) (v18 : Int) (kb4 : Int→(List Int)→Option (Bool×(List Int))) (v20 : (List Int)) : Option (Bool×(List Int)) :=
  kb4 (IntKind.wrap .i64 (v18+1)) v20
def AaW.L4 (k : Nat) (v8 : Int) (v10 : (List AaD)) : Nat→Int→(List Int)→Option (Bool×(List Int))
  | 0,_,_=>none
  | n+1,v18,v19 =>
    if v18<(v10.length : Int) then
      idx v10 v18 fun v21 =>
      if v21.back=true then
        chk ((0 : Int)≤v21.arc∧(v21.arc).toNat<v19.length) <|
        idx v19 v21.arc fun v22 =>
        chk ((0 : Int)≤v21.arc∧(v21.arc).toNat<v19.length) <|
        AaW.J5 k v18 (fun v18_ v19_=>AaW.L4 k v8 v10 n v18_ v19_) (v19.set (v21.arc).toNat (IntKind.wrap .i64 (v22-v8)))
      else
        chk ((0 : Int)≤v21.arc∧(v21.arc).toNat<v19.length) <|
        idx v19 v21.arc fun v23 =>
        chk ((0 : Int)≤v21.arc∧(v21.arc).toNat<v19.length) <|
        AaW.J5 k v18 (fun v18_ v19_=>AaW.L4 k v8 v10 n v18_ v19_) (v19.set (v21.arc).toNat (IntKind.wrap .i64 (v23+v8)))
    else
      some (true,v19)
def AaW.L2 (k : Nat) (v0 : Int) (v1 : (List AaI)) (v2 : (List Int)) (v3 : (List (List AaD))) (v6 : (List (Int×AaD))) : Nat→Int→Int→(List AaD)→Option (Bool×(List Int))
  | 0,_,_,_=>none
  | n+1,v8,v9,v10 =>
    if v9≠0 then
      AgS (Ab5 v6 v9) (fun v17 =>
        AaW.J3 k v0 v1 v2 v3 v8 v10 (fun v8_ v9_ v10_=>AaW.L2 k v0 v1 v2 v3 v6 n v8_ v9_ v10_) v17.arc v17.back
      ) <|
      AaW.J3 k v0 v1 v2 v3 v8 v10 (fun v8_ v9_ v10_=>AaW.L2 k v0 v1 v2 v3 v6 n v8_ v9_ v10_) 0 false
    else
      AaW.L4 k v8 v10 k 0 v2
def AaW.J1 (k : Nat) (v0 : Int) (v1 : (List AaI)) (v2 : (List Int)) (v3 : (List (List AaD))) (v6 : (List (Int×AaD))) (v7 : Bool) : Option (Bool×(List Int)) :=
  if (!v7)=true then
    some (false,v2)
  else
    AaW.L2 k v0 v1 v2 v3 v6 k 1048576 1 ([] : List AaD)
def AaW (k : Nat) (v0 : Int) (v1 : (List AaI)) (v2 : (List Int)) (v3 : (List (List AaD))) : Option (Bool×(List Int)) :=
  Abi (AaU k v0 v1 v2 v3) fun v6 =>
  AgS (Ab5 v6 1) (fun v24 =>
    AaW.J1 k v0 v1 v2 v3 v6 true
  ) <|
  AaW.J1 k v0 v1 v2 v3 v6 false
def AdA.L1 (k : Nat) (v0 : Int) (v1 : (List AaI)) (v5 : (List (List AaD))) : Nat→(List Int)→Option (List Int)
  | 0,_=>none
  | n+1,v6 =>
    Agv (AaW k v0 v1 v6 v5) fun v7 v8 =>
    chk (v8.length=v6.length) <|
    if v7=true then
      AdA.L1 k v0 v1 v5 n v8
    else
      some v8
def AdA (k : Nat) (v0 : Int) (v1 : (List AaI)) (v2 : (List Int)) : Option (List Int) :=
  Abi (Abl k v2) fun v4 =>
  Abi (Ab6 k v0 v1 v4) fun v5 =>
  AdA.L1 k v0 v1 v5 k v4
def Agr (k : Nat) (v0 : Int) (v1 : (List AaI)) : Option ((List Int)×Int) :=
  Abi (AeG k v0 v1) fun v4 =>
  if v4≠0 then
    some (([] : List Int),v4)
  else
    chk ((0 : Int)≤(v1.length : Int)∧16*(v1.length : Int)≤281474976710656) <|
    Abi (AdA k v0 v1 (List.replicate ((v1.length : Int)).toNat (0 : Int))) fun v5 =>
    some (v5,0)
def Abw.L1 (k : Nat) (v1 : (List AaI)) (v2 : (List Int)) : Nat→Int→(List Int)→Option (List Int)
  | 0,_,_=>none
  | n+1,v4,v5 =>
    if v4<(v1.length : Int) then
      idx v1 v4 fun v6 =>
      chk ((0 : Int)≤v6.From∧(v6.From).toNat<v5.length) <|
      idx v5 v6.From fun v7 =>
      idx v2 v4 fun v8 =>
      chk ((0 : Int)≤v6.From∧(v6.From).toNat<v5.length) <|
      chk ((0 : Int)≤v6.To∧(v6.To).toNat<(v5.set (v6.From).toNat (IntKind.wrap .i64 (v7+v8))).length) <|
      idx (v5.set (v6.From).toNat (IntKind.wrap .i64 (v7+v8))) v6.To fun v9 =>
      chk ((0 : Int)≤v6.To∧(v6.To).toNat<(v5.set (v6.From).toNat (IntKind.wrap .i64 (v7+v8))).length) <|
      Abw.L1 k v1 v2 n (IntKind.wrap .i64 (v4+1)) ((v5.set (v6.From).toNat (IntKind.wrap .i64 (v7+v8))).set (v6.To).toNat (IntKind.wrap .i64 (v9-v8)))
    else
      some v5
def Abw (k : Nat) (v0 : Int) (v1 : (List AaI)) (v2 : (List Int)) : Option (List Int) :=
  chk ((0 : Int)≤v0∧16*v0≤281474976710656) <|
  Abw.L1 k v1 v2 k 0 (List.replicate (v0).toNat (0 : Int))
def Aex (k : Nat) (v0 : Int) : Option Bool :=
  some (v0 !=0)
def Aat.L1 (k : Nat) (v0 : (List Int)) : Nat→Int→Option Int
  | 0,_=>none
  | n+1,v2 =>
    if v2<(v0.length : Int) then
      idx v0 v2 fun v3 =>
      Abi (Aex k v3) fun v4 =>
      if v4=true then
        some v2
      else
        Aat.L1 k v0 n (IntKind.wrap .i64 (v2+1))
    else
      some (-1)
def Aat (k : Nat) (v0 : (List Int)) : Option Int :=
  Aat.L1 k v0 k 0
def Abg (k : Nat) (v0 : (List Int)) : Option Bool :=
  Abi (Aat k v0) fun v2 =>
  some (decide (0≤v2))
def AcQ.L1 (k : Nat) (v0 : Int) (v1 : (List AaI)) (v2 : (List Int)) : Nat→Int→Option Bool
  | 0,_=>none
  | n+1,v5 =>
    if v5<(v1.length : Int) then
      idx v1 v5 fun v6 =>
      idx v2 v5 fun v7 =>
      Abi (Acm k v7 0 v6.Cap) fun v8 =>
      if (!v8)=true then
        some false
      else
        AcQ.L1 k v0 v1 v2 n (IntKind.wrap .i64 (v5+1))
    else
      Abi (Abw k v0 v1 v2) fun v9 =>
      chk ((2 : Int)≤((v9.length : Nat) : Int)) <|
      Abi (Abg k (v9.drop ((2 : Int).toNat))) fun v10 =>
      some (!v10)
def AcQ (k : Nat) (v0 : Int) (v1 : (List AaI)) (v2 : (List Int)) : Option Bool :=
  Abi (AeG k v0 v1) fun v4 =>
  if v4≠0 then
    some false
  else
    if (v2.length : Int)≠(v1.length : Int) then
      some false
    else
      AcQ.L1 k v0 v1 v2 k 0
def AfE (k : Nat) (v0 : Int) (v1 : (List AaI)) (v2 : (List Int)) : Option Int :=
  Abi (AcQ k v0 v1 v2) fun v4 =>
  if (!v4)=true then
    some 0
  else
    Abi (Abw k v0 v1 v2) fun v5 =>
    chk ((0 : Int)≤0∧(0 : Int).toNat<v5.length) <|
    idx v5 (0 : Int) fun v6 =>
    some v6
def Aey (k : Nat) (v0 : Int) (v1 : Int) (v2 : Int) (v3 : Int) : Option Bool :=
  some (v0==v3)
def Aaj.L1 (k : Nat) (v0 : (List AaI)) (v1 : Int) : Nat→Int→Option Int
  | 0,_=>none
  | n+1,v3 =>
    if v3<(v0.length : Int) then
      idx v0 v3 fun v4 =>
      Abi (Aey k v4.From v4.To v4.Cap v1) fun v5 =>
      if v5=true then
        some v3
      else
        Aaj.L1 k v0 v1 n (IntKind.wrap .i64 (v3+1))
    else
      some (-1)
def Aaj (k : Nat) (v0 : (List AaI)) (v1 : Int) : Option Int :=
  Aaj.L1 k v0 v1 k 0
def AcT (k : Nat) (v0 : (List Int)) : Option (List Int) :=
  chk (v0.length*8≤140737488355328) <| some v0
def Aaf.J4 (k : Nat) (v12 : (List Int)) (v17 : Int) (v18 : Int) (v19 : AaI) (kb2 : (List Int)→(List Int)→(List (Int×Int))→Int→Option ((List (List Int))×Int)) (v20 : (List Int)) (v21 : (List (Int×Int))) : Option ((List (List Int))×Int) :=
  kb2 (v12.set (v17).toNat (IntKind.wrap .i64 (v18-1))) v20 (AbE v21 v19.To (v20.length : Int)) v19.To
def Aaf.L6 (k : Nat) (v1 : (List AaI)) (v12 : (List Int)) (v13 : (List Int)) (v17 : Int) (v18 : Int) (v19 : AaI) (v22 : Int) (kb2 : (List Int)→(List Int)→(List (Int×Int))→Int→Option ((List (List Int))×Int)) : Nat→Int→(List (Int×Int))→Option ((List (List Int))×Int)
  | 0,_,_=>none
  | n+1,v24,v25 =>
    if v24<((((v13++([v17] : List Int)).length-((v22).toNat)) : Nat) : Int) then
      chk ((0 : Int)≤v24∧(v24).toNat<((v13++([v17] : List Int)).length-((v22).toNat))∧(v22).toNat+(v24).toNat<(v13++([v17] : List Int)).length) <|
      idx (v13++([v17] : List Int)) (((v22).toNat+(v24).toNat : Nat) : Int) fun v26 =>
      idx v1 v26 fun v27 =>
      Aaf.L6 k v1 v12 v13 v17 v18 v19 v22 kb2 n (IntKind.wrap .i64 (v24+1)) (Aki v25 v27.To)
    else
      chk (0<(v13++([v17] : List Int)).length∧(0 : Int)<v22∧(0 : Int)≤v22∧(v22 : Int)≤(((v13++([v17] : List Int)).length : Nat) : Int)) <|
      Aaf.J4 k v12 v17 v18 v19 kb2 ((v13++([v17] : List Int)).take ((v22).toNat)) v25
def Aaf.J5 (k : Nat) (v1 : (List AaI)) (v12 : (List Int)) (v13 : (List Int)) (v14 : (List (Int×Int))) (v17 : Int) (v18 : Int) (v19 : AaI) (kb2 : (List Int)→(List Int)→(List (Int×Int))→Int→Option ((List (List Int))×Int)) (v22 : Int) (v23 : Bool) : Option ((List (List Int))×Int) :=
  if v23=true then
    chk (0<(v13++([v17] : List Int)).length∧(0 : Int)≤v22∧(v22 : Int)≤(((v13++([v17] : List Int)).length : Nat) : Int)) <|
    Aaf.L6 k v1 v12 v13 v17 v18 v19 v22 kb2 k 0 v14
  else
    Aaf.J4 k v12 v17 v18 v19 kb2 (v13++([v17] : List Int)) v14
def Aaf.J3 (k : Nat) (v1 : (List AaI)) (v12 : (List Int)) (v13 : (List Int)) (v14 : (List (Int×Int))) (kb2 : (List Int)→(List Int)→(List (Int×Int))→Int→Option ((List (List Int))×Int)) (v17 : Int) : Option ((List (List Int))×Int) :=
  chk ((0 : Int)≤v17∧(v17).toNat<v12.length) <|
  idx v12 v17 fun v18 =>
  chk ((0 : Int)≤v17∧(v17).toNat<v12.length) <|
  chk ((v13.length+([v17] : List Int).length)*8≤140737488355328) <|
  idx v1 v17 fun v19 =>
  AgS (Ab5 v14 v19.To) (fun v28 =>
    Aaf.J5 k v1 v12 v13 v14 v17 v18 v19 kb2 v28 true
  ) <|
  Aaf.J5 k v1 v12 v13 v14 v17 v18 v19 kb2 0 false
def Aaf.J8 (k : Nat) (v29 : Int) (kb7 : Int→Option ((List (List Int))×Int)) : Option ((List (List Int))×Int) :=
  kb7 (IntKind.wrap .i64 (v29+1))
def Aaf.L7 (k : Nat) (v1 : (List AaI)) (v12 : (List Int)) (v13 : (List Int)) (v14 : (List (Int×Int))) (v15 : Int) (kb2 : (List Int)→(List Int)→(List (Int×Int))→Int→Option ((List (List Int))×Int)) : Nat→Int→Option ((List (List Int))×Int)
  | 0,_=>none
  | n+1,v29 =>
    if v29<(v1.length : Int) then
      idx v1 v29 fun v30 =>
      if v30.From≠v15 then
        Aaf.J8 k v29 (fun v29_=>Aaf.L7 k v1 v12 v13 v14 v15 kb2 n v29_)
      else
        chk ((0 : Int)≤v29∧(v29).toNat<v12.length) <|
        idx v12 v29 fun v31 =>
        if v31=0 then
          Aaf.J8 k v29 (fun v29_=>Aaf.L7 k v1 v12 v13 v14 v15 kb2 n v29_)
        else
          Aaf.J3 k v1 v12 v13 v14 kb2 v29
    else
      Aaf.J3 k v1 v12 v13 v14 kb2 v29
def Aaf.L2 (k : Nat) (v1 : (List AaI)) (v9 : Int) (v11 : (List (List Int))) (kb1 : Int→(List Int)→(List (List Int))→Option ((List (List Int))×Int)) : Nat→(List Int)→(List Int)→(List (Int×Int))→Int→Option ((List (List Int))×Int)
  | 0,_,_,_,_=>none
  | n+1,v12,v13,v14,v15 =>
    if v15≠1 then
      Abi (Aaj k v1 v15) fun v16 =>
      Aaf.L7 k v1 v12 v13 v14 v15 (fun v12_ v13_ v14_ v15_=>Aaf.L2 k v1 v9 v11 kb1 n v12_ v13_ v14_ v15_) k v16
    else
      Abi (AcT k v13) fun v32 =>
      chk ((v11.length+([v32] : List (List Int)).length)*24≤140737488355328) <|
      kb1 (IntKind.wrap .i64 (v9+1)) v12 (v11++([v32] : List (List Int)))
def Aaf.L1 (k : Nat) (v1 : (List AaI)) (v8 : Int) : Nat→Int→(List Int)→(List (List Int))→Option ((List (List Int))×Int)
  | 0,_,_,_=>none
  | n+1,v9,v10,v11 =>
    if v9<v8 then
      Aaf.L2 k v1 v9 v11 (fun v9_ v10_ v11_=>Aaf.L1 k v1 v8 n v9_ v10_ v11_) k v10 ([] : List Int) (AbE ([] : (List (Int×Int))) 0 0) 0
    else
      some (v11,0)
def Aaf (k : Nat) (v0 : Int) (v1 : (List AaI)) (v2 : (List Int)) : Option ((List (List Int))×Int) :=
  Abi (AeG k v0 v1) fun v5 =>
  if v5≠0 then
    some (([] : List (List Int)),v5)
  else
    Abi (AcQ k v0 v1 v2) fun v6 =>
    if (!v6)=true then
      some (([] : List (List Int)),17)
    else
      Abi (Abl k v2) fun v7 =>
      Abi (AfE k v0 v1 v2) fun v8 =>
      Aaf.L1 k v1 v8 k 0 v7 ([] : List (List Int))
def Aa4.J3 (k : Nat) (v17 : Int) (kb2 : Int→(List Int)→Option (List (List Int))) (v19 : (List Int)) : Option (List (List Int)) :=
  kb2 (IntKind.wrap .i64 (v17+1)) v19
def Aa4.L2 (k : Nat) (v5 : Int) (v9 : (List AaI)) (v14 : Int) (v15 : (List (List Int))) (v16 : (List Int)) (kb1 : Int→(List (List Int))→Option (List (List Int))) : Nat→Int→(List Int)→Option (List (List Int))
  | 0,_,_=>none
  | n+1,v17,v18 =>
    if v17<(v16.length : Int) then
      idx v16 v17 fun v20 =>
      idx v9 v20 fun v21 =>
      if v21.To=1 then
        chk ((v18.length+([v5] : List Int).length)*8≤140737488355328) <|
        Aa4.J3 k v17 (fun v17_ v18_=>Aa4.L2 k v5 v9 v14 v15 v16 kb1 n v17_ v18_) (v18++([v5] : List Int))
      else
        if (Int.tmod v21.To 2)=0 then
          chk ((v18.length+([IntKind.wrap .i64 (Int.tdiv (IntKind.wrap .i64 (v21.To-2)) 2)] : List Int).length)*8≤140737488355328) <|
          Aa4.J3 k v17 (fun v17_ v18_=>Aa4.L2 k v5 v9 v14 v15 v16 kb1 n v17_ v18_) (v18++([IntKind.wrap .i64 (Int.tdiv (IntKind.wrap .i64 (v21.To-2)) 2)] : List Int))
        else
          Aa4.J3 k v17 (fun v17_ v18_=>Aa4.L2 k v5 v9 v14 v15 v16 kb1 n v17_ v18_) v18
    else
      chk ((v15.length+([v18] : List (List Int)).length)*24≤140737488355328) <|
      kb1 (IntKind.wrap .i64 (v14+1)) (v15++([v18] : List (List Int)))
def Aa4.L1 (k : Nat) (v4 : Int) (v5 : Int) (v9 : (List AaI)) (v12 : (List (List Int))) : Nat→Int→(List (List Int))→Option (List (List Int))
  | 0,_,_=>none
  | n+1,v14,v15 =>
    if v14<(v12.length : Int) then
      idx v12 v14 fun v16 =>
      Aa4.L2 k v5 v9 v14 v15 v16 (fun v14_ v15_=>Aa4.L1 k v4 v5 v9 v12 n v14_ v15_) k 0 ([v4] : List Int)
    else
      some v15
def Aa4 (k : Nat) (v0 : Int) (v1 : (List AaA)) (v2 : (List Int)) (v3 : Int) (v4 : Int) (v5 : Int) : Option (List (List Int)) :=
  Abi (AcW k v0 v1 v2 v3 v4 v5) fun v7 =>
  if (!v7)=true then
    some ([] : List (List Int))
  else
    Agv (AaY k v0 v1 v2 v3 v4 v5) fun v8 v9 =>
    Agv (Agr k v8 v9) fun v10 v11 =>
    Agv (Aaf k v8 v9 v10) fun v12 v13 =>
    Aa4.L1 k v4 v5 v9 v12 k 0 ([] : List (List Int))
def Abb (k : Nat) (v0 : (List AaA)) : Option (List AaA) :=
  chk (v0.length*24≤140737488355328) <| some v0
def AdM (k : Nat) (v0 : Int) (v1 : (List AaA)) (v2 : (List Int)) : Option (Int×(List AaA)×(List Int)) :=
  Abi (Abb k v1) fun v6 =>
  Abi (Abl k v2) fun v7 =>
  some (v0,v6,v7)
def Acd (k : Nat) (v0 : Int) (v1 : Int) (v2 : Int) (v3 : Int) : Option Bool :=
  some (decide (v2<v3))
def AaV.L1 (k : Nat) (v0 : (List AaA)) (v1 : Int) : Nat→Int→Option Int
  | 0,_=>none
  | n+1,v3 =>
    if v3<(v0.length : Int) then
      idx v0 v3 fun v4 =>
      Abi (Acd k v4.From v4.To v4.Level v1) fun v5 =>
      if v5=true then
        some v3
      else
        AaV.L1 k v0 v1 n (IntKind.wrap .i64 (v3+1))
    else
      some (-1)
def AaV (k : Nat) (v0 : (List AaA)) (v1 : Int) : Option Int :=
  AaV.L1 k v0 v1 k 0
def AaK.J2 (k : Nat) (v5 : Int) (kb1 : Int→Int→(List AaA)→Option (List AaA)) (v7 : (List AaA)) (v8 : Int) : Option (List AaA) :=
  kb1 v8 (IntKind.wrap .i64 (v5+1)) v7
def AaK.L1 (k : Nat) (v1 : Int) : Nat→Int→Int→(List AaA)→Option (List AaA)
  | 0,_,_,_=>none
  | n+1,v4,v5,v6 =>
    if v5<(v6.length : Int) then
      idx v6 v5 fun v9 =>
      Abi (Acd k v9.From v9.To v9.Level v1) fun v10 =>
      if (!v10)=true then
        idx v6 v4 fun v11 =>
        AaK.J2 k v5 (fun v4_ v5_ v6_=>AaK.L1 k v1 n v4_ v5_ v6_) (v6.set (v4).toNat v9) (IntKind.wrap .i64 (v4+1))
      else
        AaK.J2 k v5 (fun v4_ v5_ v6_=>AaK.L1 k v1 n v4_ v5_ v6_) v6 v4
    else
      chk ((0 : Int)≤v4∧(v4 : Int)≤((v6.length : Nat) : Int)) <|
      chk (0<v6.length∧(v4).toNat≤v6.length) <|
      AoY (v6.take ((v4).toNat)++List.replicate (v6.length-((v4).toNat)) (AaA.mk 0 0 0)) fun v12 =>
      chk ((0 : Int)≤v4∧(v4 : Int)≤((v12.length : Nat) : Int)) <|
      some (v12.take ((v4).toNat))
def AaK (k : Nat) (v0 : (List AaA)) (v1 : Int) : Option (List AaA) :=
  Abi (AaV k v0 v1) fun v3 =>
  if v3=(-1) then
    some v0
  else
    AaK.L1 k v1 k v3 (IntKind.wrap .i64 (v3+1)) v0
def Ac9 (k : Nat) (v0 : Int) (v1 : (List AaA)) (v2 : (List Int)) (v3 : Int) : Option (Int×(List AaA)×(List Int)) :=
  Am9 (AdM k v0 v1 v2) fun v7 v8 v9 =>
  Abi (AaK k v8 v3) fun v10 =>
  some (v7,v10,v9)
def Aa2.J3 (k : Nat) (v6 : Int) (v7 : Int) : Option Int :=
  idx (bI (ByteArray.mk #[0,1,2,2,3,3,3,3,4,4,4,4,4,4,4,4,5,5,5,5,5,5,5,5,5,5,5,5,5,5,5,5,6,6,6,6,6,6,6,6,6,6,6,6,6,6,6,6,6,6,6,6,6,6,6,6,6,6,6,6,6,6,6,6,7,7,7,7,7,7,7,7,7,7,7,7,7,7,7,7,7,7,7,7,7,7,7,7,7,7,7,7,7,7,7,7,7,7,7,7,7,7,7,7,7,7,7,7,7,7,7,7,7,7,7,7,7,7,7,7,7,7,7,7,7,7,7,7,8,8,8,8,8,8,8,8,8,8,8,8,8,8,8,8,8,8,8,8,8,8,8,8,8,8,8,8,8,8,8,8,8,8,8,8,8,8,8,8,8,8,8,8,8,8,8,8,8,8,8,8,8,8,8,8,8,8,8,8,8,8,8,8,8,8,8,8,8,8,8,8,8,8,8,8,8,8,8,8,8,8,8,8,8,8,8,8,8,8,8,8,8,8,8,8,8,8,8,8,8,8,8,8,8,8,8,8,8,8,8,8,8,8,8,8,8,8,8,8,8,8,8,8,8,8,8,8])) (IntKind.wrap .u8 v6) fun v8 =>
  some (IntKind.wrap .i64 (v7+IntKind.wrap .i64 v8))
def Aa2.J2 (k : Nat) (v4 : Int) (v5 : Int) : Option Int :=
  if 256≤v4 then
    Aa2.J3 k (Int.fdiv v4 (2 ^ (8))) (IntKind.wrap .i64 (v5+8))
  else
    Aa2.J3 k v4 v5
def Aa2.J1 (k : Nat) (v2 : Int) (v3 : Int) : Option Int :=
  if 65536≤v2 then
    Aa2.J2 k (Int.fdiv v2 (2 ^ (16))) (IntKind.wrap .i64 (v3+16))
  else
    Aa2.J2 k v2 v3
def Aa2 (k : Nat) (v0 : Int) : Option Int :=
  if 4294967296≤v0 then
    Aa2.J1 k (Int.fdiv v0 (2 ^ (32))) 32
  else
    Aa2.J1 k v0 0
def Acc (k : Nat) (v0 : Int) : Option Int :=
  Abi (Aa2 k v0) fun v2 =>
  some v2
def AdB (k : Nat) (v0 : Int) : Option Bool :=
  some (v0 !=v0)
def AdS (k : Nat) (v0 : Int) (v1 : Int) : Option Bool :=
  Abi (AdB k v0) fun v3 =>
  if v3=true then
    Abi (AdB k v1) fun v4 =>
    if (!v4)=true then
      some true
    else
      some (decide (v0<v1))
  else
    some (decide (v0<v1))
def AaL.J2 (k : Nat) (v4 : Int) (kb1 : Int→(List Int)→Option (List Int)) (v6 : (List Int)) : Option (List Int) :=
  kb1 (IntKind.wrap .i64 (v4+1)) v6
def AaL.L3 (k : Nat) (v1 : Int) (v4 : Int) (kb1 : Int→(List Int)→Option (List Int)) : Nat→Int→(List Int)→Option (List Int)
  | 0,_,_=>none
  | n+1,v7,v8 =>
    if v1<v7 then
      chk ((0 : Int)≤v7∧(v7).toNat<v8.length) <|
      idx v8 v7 fun v9 =>
      chk ((0 : Int)≤(IntKind.wrap .i64 (v7-1))∧(IntKind.wrap .i64 (v7-1)).toNat<v8.length) <|
      idx v8 (IntKind.wrap .i64 (v7-1)) fun v10 =>
      Abi (AdS k v9 v10) fun v11 =>
      if v11=true then
        chk ((0 : Int)≤(IntKind.wrap .i64 (v7-1))∧(IntKind.wrap .i64 (v7-1)).toNat<v8.length) <|
        chk ((0 : Int)≤v7∧(v7).toNat<v8.length) <|
        chk ((0 : Int)≤v7∧(v7).toNat<v8.length) <|
        chk ((0 : Int)≤(IntKind.wrap .i64 (v7-1))∧(IntKind.wrap .i64 (v7-1)).toNat<(v8.set (v7).toNat v10).length) <|
        AaL.L3 k v1 v4 kb1 n (IntKind.wrap .i64 (v7-1)) ((v8.set (v7).toNat v10).set (IntKind.wrap .i64 (v7-1)).toNat v9)
      else
        AaL.J2 k v4 kb1 v8
    else
      AaL.J2 k v4 kb1 v8
def AaL.L1 (k : Nat) (v1 : Int) (v2 : Int) : Nat→Int→(List Int)→Option (List Int)
  | 0,_,_=>none
  | n+1,v4,v5 =>
    if v4<v2 then
      AaL.L3 k v1 v4 (fun v4_ v5_=>AaL.L1 k v1 v2 n v4_ v5_) k v4 v5
    else
      some v5
def AaL (k : Nat) (v0 : (List Int)) (v1 : Int) (v2 : Int) : Option (List Int) :=
  AaL.L1 k v1 v2 k (IntKind.wrap .i64 (v1+1)) v0
def Aay.L1 (k : Nat) (v0 : (List Int)) (v1 : Int) (v2 : Int) (v3 : Int) : Nat→Option (List Int)
  | 0=>none
  | n+1 =>
    if IntKind.wrap .i64 (v2-v1)≤12 then
      Abi (AaL k v0 v1 v2) fun v5 =>
      chk (v5.length=v0.length) <|
      some v5
    else
      if v3=0 then
        none
      else
        none
def Aay (k : Nat) (v0 : (List Int)) (v1 : Int) (v2 : Int) (v3 : Int) : Option (List Int) :=
  Aay.L1 k v0 v1 v2 v3 k
def Abz (k : Nat) (v0 : (List Int)) : Option (List Int) :=
  Abi (Acc k (IntKind.wrap .u64 (v0.length : Int))) fun v2 =>
  Abi (Aay k v0 0 (v0.length : Int) v2) fun v3 =>
  chk (v3.length=v0.length) <|
  some v3
def AbH.J2 (k : Nat) (v5 : Int) (kb1 : Int→(List Int)→Option (List Int)) (v7 : (List Int)) : Option (List Int) :=
  kb1 (IntKind.wrap .i64 (v5+1)) v7
def AbH.L1 (k : Nat) (v1 : (List AaA)) (v3 : Int) : Nat→Int→(List Int)→Option (List Int)
  | 0,_,_=>none
  | n+1,v5,v6 =>
    if v5<(v1.length : Int) then
      idx v1 v5 fun v8 =>
      if v8.From=v3 then
        chk ((v6.length+([v8.To] : List Int).length)*8≤140737488355328) <|
        AbH.J2 k v5 (fun v5_ v6_=>AbH.L1 k v1 v3 n v5_ v6_) (v6++([v8.To] : List Int))
      else
        AbH.J2 k v5 (fun v5_ v6_=>AbH.L1 k v1 v3 n v5_ v6_) v6
    else
      Abi (Abz k v6) fun v9 =>
      chk (v9.length=v6.length) <|
      some v9
def AbH (k : Nat) (v0 : Int) (v1 : (List AaA)) (v2 : (List Int)) (v3 : Int) : Option (List Int) :=
  AbH.L1 k v1 v3 k 0 ([] : List Int)
def Abm (k : Nat) (v0 : Int) (v1 : Int) (v2 : (List AaA)) (v3 : (List Int)) (v4 : Int) (v5 : Int) (v6 : Int) (v7 : (List (Int×Bool))) (v8 : Bool) (v9 : Int) : Option Bool :=
  AgS (Ab5 v7 v0) (fun v11 =>
    if v11=true then
      some true
    else
      if v9=v5 then
        if v0=v6 then
          some v8
        else
          some false
      else
        some false
  ) <|
  if v9=v5 then
    if v0=v6 then
      some v8
    else
      some false
  else
    some false
def Aac.L1 (k : Nat) (v0 : (List Int)) (v1 : Int) (v2 : (List AaA)) (v3 : (List Int)) (v4 : Int) (v5 : Int) (v6 : Int) (v7 : (List (Int×Bool))) (v8 : Bool) (v9 : Int) : Nat→Int→Option Int
  | 0,_=>none
  | n+1,v11 =>
    if v11<(v0.length : Int) then
      chk ((0 : Int)≤v11∧(v11).toNat<v0.length) <|
      idx v0 v11 fun v12 =>
      Abi (Abm k v12 v1 v2 v3 v4 v5 v6 v7 v8 v9) fun v13 =>
      if v13=true then
        some v11
      else
        Aac.L1 k v0 v1 v2 v3 v4 v5 v6 v7 v8 v9 n (IntKind.wrap .i64 (v11+1))
    else
      some (-1)
def Aac (k : Nat) (v0 : (List Int)) (v1 : Int) (v2 : (List AaA)) (v3 : (List Int)) (v4 : Int) (v5 : Int) (v6 : Int) (v7 : (List (Int×Bool))) (v8 : Bool) (v9 : Int) : Option Int :=
  Aac.L1 k v0 v1 v2 v3 v4 v5 v6 v7 v8 v9 k 0
def AaP.J2 (k : Nat) (v13 : Int) (kb1 : Int→Int→(List Int)→Option (List Int)) (v15 : (List Int)) (v16 : Int) : Option (List Int) :=
  kb1 v16 (IntKind.wrap .i64 (v13+1)) v15
def AaP.L1 (k : Nat) (v1 : Int) (v2 : (List AaA)) (v3 : (List Int)) (v4 : Int) (v5 : Int) (v6 : Int) (v7 : (List (Int×Bool))) (v8 : Bool) (v9 : Int) : Nat→Int→Int→(List Int)→Option (List Int)
  | 0,_,_,_=>none
  | n+1,v12,v13,v14 =>
    if v13<(v14.length : Int) then
      chk ((0 : Int)≤v13∧(v13).toNat<v14.length) <|
      idx v14 v13 fun v17 =>
      Abi (Abm k v17 v1 v2 v3 v4 v5 v6 v7 v8 v9) fun v18 =>
      if (!v18)=true then
        chk ((0 : Int)≤v12∧(v12).toNat<v14.length) <|
        AaP.J2 k v13 (fun v12_ v13_ v14_=>AaP.L1 k v1 v2 v3 v4 v5 v6 v7 v8 v9 n v12_ v13_ v14_) (v14.set (v12).toNat v17) (IntKind.wrap .i64 (v12+1))
      else
        AaP.J2 k v13 (fun v12_ v13_ v14_=>AaP.L1 k v1 v2 v3 v4 v5 v6 v7 v8 v9 n v12_ v13_ v14_) v14 v12
    else
      chk ((0 : Int)≤v12∧(v12 : Int)≤((v14.length : Nat) : Int)) <|
      chk (0<v14.length∧(v12).toNat≤v14.length) <|
      AoY (v14.take ((v12).toNat)++List.replicate (v14.length-((v12).toNat)) 0) fun v19 =>
      chk ((0 : Int)≤v12∧(v12 : Int)≤((v19.length : Nat) : Int)) <|
      some (v19.take ((v12).toNat))
def AaP (k : Nat) (v0 : (List Int)) (v1 : Int) (v2 : (List AaA)) (v3 : (List Int)) (v4 : Int) (v5 : Int) (v6 : Int) (v7 : (List (Int×Bool))) (v8 : Bool) (v9 : Int) : Option (List Int) :=
  Abi (Aac k v0 v1 v2 v3 v4 v5 v6 v7 v8 v9) fun v11 =>
  if v11=(-1) then
    some v0
  else
    AaP.L1 k v1 v2 v3 v4 v5 v6 v7 v8 v9 k v11 (IntKind.wrap .i64 (v11+1)) v0
def AbP (k : Nat) (v0 : Int) (v1 : (List AaA)) (v2 : (List Int)) (v3 : Int) (v4 : Int) (v5 : Int) (v6 : (List (Int×Bool))) (v7 : Bool) (v8 : Int) : Option (List Int) :=
  Am9 (Ac9 k v0 v1 v2 v3) fun v10 v11 v12 =>
  Abi (AbH k v10 v11 v12 v8) fun v13 =>
  Abi (AaP k v13 v0 v1 v2 v3 v4 v5 v6 v7 v8) fun v14 =>
  some v14
def Aa0.L1 (k : Nat) (v0 : (List Int)) (v1 : Int) : Nat→Int→Option Int
  | 0,_=>none
  | n+1,v3 =>
    if v3<(v0.length : Int) then
      idx v0 v3 fun v4 =>
      if v1=v4 then
        some v3
      else
        Aa0.L1 k v0 v1 n (IntKind.wrap .i64 (v3+1))
    else
      some (-1)
def Aa0 (k : Nat) (v0 : (List Int)) (v1 : Int) : Option Int :=
  Aa0.L1 k v0 v1 k 0
def AbW (k : Nat) (v0 : (List Int)) (v1 : Int) : Option Bool :=
  Abi (Aa0 k v0 v1) fun v3 =>
  some (decide (0≤v3))
def Abh (k : Nat) (v0 : Int) (v1 : (List (Int×Bool))) (v2 : (List (Int×(List Int)))) (v3 : Int) : Option Bool :=
  AgS (Ab5 v1 v0) (fun v5 =>
    if v5=true then
      AgS (Ab5 v2 v0) (fun v6 =>
        Abi (AbW k v6 v3) fun v7 =>
        some v7
      ) <|
      Abi (AbW k ([] : List Int) v3) fun v8 =>
      some v8
    else
      some false
  ) <|
  some false
def Aag.L1 (k : Nat) (v0 : (List Int)) (v1 : (List (Int×Bool))) (v2 : (List (Int×(List Int)))) (v3 : Int) : Nat→Int→Option Int
  | 0,_=>none
  | n+1,v5 =>
    if v5<(v0.length : Int) then
      idx v0 v5 fun v6 =>
      Abi (Abh k v6 v1 v2 v3) fun v7 =>
      if v7=true then
        some v5
      else
        Aag.L1 k v0 v1 v2 v3 n (IntKind.wrap .i64 (v5+1))
    else
      some (-1)
def Aag (k : Nat) (v0 : (List Int)) (v1 : (List (Int×Bool))) (v2 : (List (Int×(List Int)))) (v3 : Int) : Option Int :=
  Aag.L1 k v0 v1 v2 v3 k 0
def AaB.J3 (k : Nat) (v17 : Int) (kb2 : Nat→Int→(List (Int×Int))→(List (Int×(List Int)))→(List Int)→Option (List Int)) (v21 : (List (Int×Int))) (v22 : (List (Int×(List Int)))) (v23 : (List Int)) (v24 : Nat) : Option (List Int) :=
  kb2 v24 (IntKind.wrap .i64 (v17+1)) v21 v22 v23
def AaB.J6 (k : Nat) (v14 : Int) (v17 : Int) (v19 : (List (Int×(List Int)))) (v25 : Int) (v28 : (List (Int×Int))) (v29 : (List Int)) (v30 : Nat) (kb2 : Nat→Int→(List (Int×Int))→(List (Int×(List Int)))→(List Int)→Option (List Int)) (v32 : Bool) : Option (List Int) :=
  if v32=true then
    chk (v19.length<1000) <|
    AgS (Ab5 v19 v25) (fun v33 =>
      chk ((v33.length+([v14] : List Int).length)*8≤140737488355328) <|
      AaB.J3 k v17 kb2 v28 (AbE v19 v25 (v33++([v14] : List Int))) v29 v30
    ) <|
    chk (([v14] : List Int).length*8≤140737488355328) <|
    AaB.J3 k v17 kb2 v28 (AbE v19 v25 ([v14] : List Int)) v29 v30
  else
    AaB.J3 k v17 kb2 v28 v19 v29 v30
def AaB.J5 (k : Nat) (v14 : Int) (v17 : Int) (v19 : (List (Int×(List Int)))) (v25 : Int) (kb2 : Nat→Int→(List (Int×Int))→(List (Int×(List Int)))→(List Int)→Option (List Int)) (v28 : (List (Int×Int))) (v29 : (List Int)) (v30 : Nat) (v31 : Int) : Option (List Int) :=
  AgS (Ab5 v28 v14) (fun v34 =>
    AaB.J6 k v14 v17 v19 v25 v28 v29 v30 kb2 (v31==(IntKind.wrap .i64 (v34+1)))
  ) <|
  AaB.J6 k v14 v17 v19 v25 v28 v29 v30 kb2 (v31==(IntKind.wrap .i64 (0+1)))
def AaB.J7 (k : Nat) (v14 : Int) (v16 : Nat) (v17 : Int) (v19 : (List (Int×(List Int)))) (v20 : (List Int)) (v25 : Int) (kb2 : Nat→Int→(List (Int×Int))→(List (Int×(List Int)))→(List Int)→Option (List Int)) (v35 : (List (Int×Int))) (v36 : Int) : Option (List Int) :=
  chk (((v20.drop v16).length+([v25] : List Int).length)*8≤140737488355328∧v16≤v20.length) <|
  AaB.J5 k v14 v17 v19 v25 kb2 v35 ((v20.drop v16)++([v25] : List Int)) 0 v36
def AaB.J4 (k : Nat) (v14 : Int) (v16 : Nat) (v17 : Int) (v18 : (List (Int×Int))) (v19 : (List (Int×(List Int)))) (v20 : (List Int)) (v25 : Int) (kb2 : Nat→Int→(List (Int×Int))→(List (Int×(List Int)))→(List Int)→Option (List Int)) (v26 : Int) (v27 : Bool) : Option (List Int) :=
  if (!v27)=true then
    AgS (Ab5 v18 v14) (fun v37 =>
      AaB.J7 k v14 v16 v17 v19 v20 v25 kb2 (AbE v18 v25 (IntKind.wrap .i64 (v37+1))) (IntKind.wrap .i64 (v37+1))
    ) <|
    AaB.J7 k v14 v16 v17 v19 v20 v25 kb2 (AbE v18 v25 (IntKind.wrap .i64 (0+1))) (IntKind.wrap .i64 (0+1))
  else
    AaB.J5 k v14 v17 v19 v25 kb2 v18 v20 v16 v26
def AaB.L2 (k : Nat) (v14 : Int) (v15 : (List Int)) (kb1 : Nat→(List (Int×Int))→(List (Int×(List Int)))→(List Int)→Option (List Int)) : Nat→Nat→Int→(List (Int×Int))→(List (Int×(List Int)))→(List Int)→Option (List Int)
  | 0,_,_,_,_,_=>none
  | n+1,v16,v17,v18,v19,v20 =>
    if v17<(v15.length : Int) then
      idx v15 v17 fun v25 =>
      AgS (Ab5 v18 v25) (fun v38 =>
        AaB.J4 k v14 v16 v17 v18 v19 v20 v25 (fun v16_ v17_ v18_ v19_ v20_=>AaB.L2 k v14 v15 kb1 n v16_ v17_ v18_ v19_ v20_) v38 true
      ) <|
      AaB.J4 k v14 v16 v17 v18 v19 v20 v25 (fun v16_ v17_ v18_ v19_ v20_=>AaB.L2 k v14 v15 kb1 n v16_ v17_ v18_ v19_ v20_) 0 false
    else
      chk (0<v20.length∧(1 : Int)≤(((v20.length-v16) : Nat) : Int)) <|
      kb1 (v16+(1 : Int).toNat) v18 v19 v20
def AaB.J12 (k : Nat) (v47 : Int) (kb11 : Nat→Int→(List (Int×Bool))→(List Int)→Option (List Int)) (v50 : (List (Int×Bool))) (v51 : (List Int)) (v52 : Nat) : Option (List Int) :=
  kb11 v52 (IntKind.wrap .i64 (v47+1)) v50 v51
def AaB.L11 (k : Nat) (v44 : (List Int)) (v45 : Int) (kb9 : Nat→(List (Int×Bool))→(List Int)→Option (List Int)) : Nat→Nat→Int→(List (Int×Bool))→(List Int)→Option (List Int)
  | 0,_,_,_,_=>none
  | n+1,v46,v47,v48,v49 =>
    if v47<v45 then
      idx v44 v47 fun v53 =>
      AgS (Ab5 v48 v53) (fun v54 =>
        if (!v54)=true then
          chk (((v49.drop v46).length+([v53] : List Int).length)*8≤140737488355328∧v46≤v49.length) <|
          AaB.J12 k v47 (fun v46_ v47_ v48_ v49_=>AaB.L11 k v44 v45 kb9 n v46_ v47_ v48_ v49_) (AbE v48 v53 true) ((v49.drop v46)++([v53] : List Int)) 0
        else
          AaB.J12 k v47 (fun v46_ v47_ v48_ v49_=>AaB.L11 k v44 v45 kb9 n v46_ v47_ v48_ v49_) v48 v49 v46
      ) <|
      chk (((v49.drop v46).length+([v53] : List Int).length)*8≤140737488355328∧v46≤v49.length) <|
      AaB.J12 k v47 (fun v46_ v47_ v48_ v49_=>AaB.L11 k v44 v45 kb9 n v46_ v47_ v48_ v49_) (AbE v48 v53 true) ((v49.drop v46)++([v53] : List Int)) 0
    else
      chk (0<v49.length∧(1 : Int)≤(((v49.length-v46) : Nat) : Int)) <|
      kb9 (v46+(1 : Int).toNat) v48 v49
def AaB.J10 (k : Nat) (v41 : Nat) (v42 : (List (Int×Bool))) (v43 : (List Int)) (kb9 : Nat→(List (Int×Bool))→(List Int)→Option (List Int)) (v44 : (List Int)) (v45 : Int) : Option (List Int) :=
  AaB.L11 k v44 v45 kb9 k v41 0 v42 v43
def AaB.L13 (k : Nat) (v0 : Int) (v1 : (List AaA)) (v2 : (List Int)) (v3 : Int) (v4 : Int) (v5 : Int) (v6 : (List (Int×Bool))) (v7 : Bool) (v12 : (List (Int×(List Int)))) (v42 : (List (Int×Bool))) : Nat→(List Int)→Int→Option (List Int)
  | 0,_,_=>none
  | n+1,v57,v58 =>
    if v58≠v5 then
      Abi (AbP k v0 v1 v2 v3 v4 v5 v6 v7 v58) fun v59 =>
      Abi (Aag k v59 v42 v12 v58) fun v60 =>
      idx v59 v60 fun v61 =>
      chk ((v57.length+([v61] : List Int).length)*8≤140737488355328) <|
      AaB.L13 k v0 v1 v2 v3 v4 v5 v6 v7 v12 v42 n (v57++([v61] : List Int)) v61
    else
      chk (¬ v57 = []) <|
      some v57
def AaB.L9 (k : Nat) (v0 : Int) (v1 : (List AaA)) (v2 : (List Int)) (v3 : Int) (v4 : Int) (v5 : Int) (v6 : (List (Int×Bool))) (v7 : Bool) (v12 : (List (Int×(List Int)))) : Nat→Nat→(List (Int×Bool))→(List Int)→Option (List Int)
  | 0,_,_,_=>none
  | n+1,v41,v42,v43 =>
    if 0<(((v43.length-v41) : Nat) : Int) then
      chk ((0 : Int)≤0∧(0 : Int).toNat<(v43.length-v41)∧v41+(0 : Int).toNat<v43.length) <|
      idx v43 ((v41+(0 : Int).toNat : Nat) : Int) fun v55 =>
      AgS (Ab5 v12 v55) (fun v56 =>
        AaB.J10 k v41 v42 v43 (fun v41_ v42_ v43_=>AaB.L9 k v0 v1 v2 v3 v4 v5 v6 v7 v12 n v41_ v42_ v43_) v56 (v56.length : Int)
      ) <|
      AaB.J10 k v41 v42 v43 (fun v41_ v42_ v43_=>AaB.L9 k v0 v1 v2 v3 v4 v5 v6 v7 v12 n v41_ v42_ v43_) ([] : List Int) (([] : List Int).length : Int)
    else
      AaB.L13 k v0 v1 v2 v3 v4 v5 v6 v7 v12 v42 k ([v4] : List Int) v4
def AaB.J8 (k : Nat) (v0 : Int) (v1 : (List AaA)) (v2 : (List Int)) (v3 : Int) (v4 : Int) (v5 : Int) (v6 : (List (Int×Bool))) (v7 : Bool) (v8 : Int) (v12 : (List (Int×(List Int)))) (v39 : Int) (v40 : Bool) : Option (List Int) :=
  if (!v40)=true then
    some ([] : List Int)
  else
    if v8<v39 then
      some ([] : List Int)
    else
      AaB.L9 k v0 v1 v2 v3 v4 v5 v6 v7 v12 k 0 (AbE ([] : (List (Int×Bool))) v5 true) ([v5] : List Int)
def AaB.L1 (k : Nat) (v0 : Int) (v1 : (List AaA)) (v2 : (List Int)) (v3 : Int) (v4 : Int) (v5 : Int) (v6 : (List (Int×Bool))) (v7 : Bool) (v8 : Int) : Nat→Nat→(List (Int×Int))→(List (Int×(List Int)))→(List Int)→Option (List Int)
  | 0,_,_,_,_=>none
  | n+1,v10,v11,v12,v13 =>
    if 0<(((v13.length-v10) : Nat) : Int) then
      chk ((0 : Int)≤0∧(0 : Int).toNat<(v13.length-v10)∧v10+(0 : Int).toNat<v13.length) <|
      idx v13 ((v10+(0 : Int).toNat : Nat) : Int) fun v14 =>
      Abi (AbP k v0 v1 v2 v3 v4 v5 v6 v7 v14) fun v15 =>
      AaB.L2 k v14 v15 (fun v10_ v11_ v12_ v13_=>AaB.L1 k v0 v1 v2 v3 v4 v5 v6 v7 v8 n v10_ v11_ v12_ v13_) k v10 0 v11 v12 v13
    else
      chk (v12.length≤1000) <|
      AgS (Ab5 v11 v5) (fun v62 =>
        AaB.J8 k v0 v1 v2 v3 v4 v5 v6 v7 v8 v12 v62 true
      ) <|
      AaB.J8 k v0 v1 v2 v3 v4 v5 v6 v7 v8 v12 0 false
def AaB (k : Nat) (v0 : Int) (v1 : (List AaA)) (v2 : (List Int)) (v3 : Int) (v4 : Int) (v5 : Int) (v6 : (List (Int×Bool))) (v7 : Bool) (v8 : Int) : Option (List Int) :=
  AaB.L1 k v0 v1 v2 v3 v4 v5 v6 v7 v8 k 0 (AbE ([] : (List (Int×Int))) v4 0) ([] : List (Int×List Int)) ([v4] : List Int)
def Aap.J2 (k : Nat) (v0 : Int) (v1 : (List AaA)) (v2 : (List Int)) (v3 : Int) (v4 : Int) (v5 : Int) (v6 : Int) (v10 : (List Int)) (v13 : (List (List Int))) (kb1 : (List Int)→Bool→(List (Int×Bool))→(List (List Int))→Option (List (List Int))) (v14 : (List (Int×Bool))) (v15 : Bool) : Option (List (List Int)) :=
  Abi (AaB k v0 v1 v2 v3 v4 v5 v14 v15 v6) fun v16 =>
  kb1 v16 v15 v14 (v13++([v10] : List (List Int)))
def Aap.L3 (k : Nat) (v0 : Int) (v1 : (List AaA)) (v2 : (List Int)) (v3 : Int) (v4 : Int) (v5 : Int) (v6 : Int) (v10 : (List Int)) (v11 : Bool) (v13 : (List (List Int))) (kb1 : (List Int)→Bool→(List (Int×Bool))→(List (List Int))→Option (List (List Int))) : Nat→Int→(List (Int×Bool))→Option (List (List Int))
  | 0,_,_=>none
  | n+1,v17,v18 =>
    if v17<(((v10.take (IntKind.wrap .i64 ((v10.length : Int)-1)).toNat).drop (1 : Int).toNat).length : Int) then
      idx ((v10.take (IntKind.wrap .i64 ((v10.length : Int)-1)).toNat).drop (1 : Int).toNat) v17 fun v19 =>
      Aap.L3 k v0 v1 v2 v3 v4 v5 v6 v10 v11 v13 kb1 n (IntKind.wrap .i64 (v17+1)) (AbE v18 v19 true)
    else
      if v11=true then
        Aap.J2 k v0 v1 v2 v3 v4 v5 v6 v10 v13 kb1 v18 true
      else
        Aap.J2 k v0 v1 v2 v3 v4 v5 v6 v10 v13 kb1 v18 ((v10.length : Int)==2)
def Aap.L1 (k : Nat) (v0 : Int) (v1 : (List AaA)) (v2 : (List Int)) (v3 : Int) (v4 : Int) (v5 : Int) (v6 : Int) : Nat→(List Int)→Bool→(List (Int×Bool))→(List (List Int))→Option (List (List Int))
  | 0,_,_,_,_=>none
  | n+1,v10,v11,v12,v13 =>
    if (!List.isEmpty v10)=true then
      chk ((v13.length+([v10] : List (List Int)).length)*24≤140737488355328) <|
      chk ((1 : Int)≤IntKind.wrap .i64 ((v10.length : Int)-1)∧(IntKind.wrap .i64 ((v10.length : Int)-1) : Int)≤(v10.length : Int)) <|
      Aap.L3 k v0 v1 v2 v3 v4 v5 v6 v10 v11 v13 (fun v10_ v11_ v12_ v13_=>Aap.L1 k v0 v1 v2 v3 v4 v5 v6 n v10_ v11_ v12_ v13_) k 0 v12
    else
      some v13
def Aap (k : Nat) (v0 : Int) (v1 : (List AaA)) (v2 : (List Int)) (v3 : Int) (v4 : Int) (v5 : Int) (v6 : Int) : Option (List (List Int)) :=
  Abi (AcW k v0 v1 v2 v3 v4 v5) fun v8 =>
  if (!v8)=true then
    some ([] : List (List Int))
  else
    Abi (AaB k v0 v1 v2 v3 v4 v5 ([] : (List (Int×Bool))) false v6) fun v9 =>
    Aap.L1 k v0 v1 v2 v3 v4 v5 v6 k v9 false ([] : (List (Int×Bool))) ([] : List (List Int))
def Ae8 (k : Nat) (v0 : Int) (v1 : (List AaA)) (v2 : (List Int)) (v3 : Int) (v4 : Int) (v5 : Int) : Option Int :=
  Abi (AcW k v0 v1 v2 v3 v4 v5) fun v7 =>
  if (!v7)=true then
    some 0
  else
    Agv (AaY k v0 v1 v2 v3 v4 v5) fun v8 v9 =>
    Agv (Agr k v8 v9) fun v10 v11 =>
    Abi (AfE k v8 v9 v10) fun v12 =>
    some v12
def AdP (k : Nat) (v0 : Int) (v1 : Int) (v2 : Int) (v3 : Int) (v4 : Int) (v5 : Int) : Option Bool :=
  if v0=v3 then
    if v1=v4 then
      some (decide (v5≤v2))
    else
      some false
  else
    some false
def AaT.L1 (k : Nat) (v0 : (List AaA)) (v1 : Int) (v2 : Int) (v3 : Int) : Nat→Int→Option Int
  | 0,_=>none
  | n+1,v5 =>
    if v5<(v0.length : Int) then
      idx v0 v5 fun v6 =>
      Abi (AdP k v6.From v6.To v6.Level v1 v2 v3) fun v7 =>
      if v7=true then
        some v5
      else
        AaT.L1 k v0 v1 v2 v3 n (IntKind.wrap .i64 (v5+1))
    else
      some (-1)
def AaT (k : Nat) (v0 : (List AaA)) (v1 : Int) (v2 : Int) (v3 : Int) : Option Int :=
  AaT.L1 k v0 v1 v2 v3 k 0
def Aa8 (k : Nat) (v0 : (List AaA)) (v1 : Int) (v2 : Int) (v3 : Int) : Option Bool :=
  Abi (AaT k v0 v1 v2 v3) fun v5 =>
  some (decide (0≤v5))
def AeF (k : Nat) (v0 : Int) (v1 : (List AaA)) (v2 : (List Int)) (v3 : Int) (v4 : Int) (v5 : Int) : Option Bool :=
  Abi (Aa8 k v1 v4 v5 v3) fun v7 =>
  some v7
def AaQ.J6 (k : Nat) (v13 : (List Int)) (v15 : Int) (v16 : (List (Int×Bool))) (kb5 : Int→(List (Int×Bool))→Option Bool) : Option Bool :=
  idx v13 v15 fun v17 =>
  kb5 (IntKind.wrap .i64 (v15+1)) (AbE v16 v17 true)
def AaQ.L5 (k : Nat) (v0 : Int) (v1 : (List AaA)) (v2 : (List Int)) (v3 : Int) (v11 : Int) (v13 : (List Int)) (v14 : Bool) (kb2 : Bool→Int→(List (Int×Bool))→Option Bool) : Nat→Int→(List (Int×Bool))→Option Bool
  | 0,_,_=>none
  | n+1,v15,v16 =>
    if v15<(v13.length : Int) then
      idx v13 (IntKind.wrap .i64 (v15-1)) fun v18 =>
      idx v13 v15 fun v19 =>
      Abi (AeF k v0 v1 v2 v3 v18 v19) fun v20 =>
      if (!v20)=true then
        some false
      else
        if v15<IntKind.wrap .i64 ((v13.length : Int)-1) then
          AgS (Ab5 v16 v19) (fun v21 =>
            if v21=true then
              some false
            else
              AaQ.J6 k v13 v15 v16 (fun v15_ v16_=>AaQ.L5 k v0 v1 v2 v3 v11 v13 v14 kb2 n v15_ v16_)
          ) <|
          AaQ.J6 k v13 v15 v16 (fun v15_ v16_=>AaQ.L5 k v0 v1 v2 v3 v11 v13 v14 kb2 n v15_ v16_)
        else
          AaQ.J6 k v13 v15 v16 (fun v15_ v16_=>AaQ.L5 k v0 v1 v2 v3 v11 v13 v14 kb2 n v15_ v16_)
    else
      kb2 v14 (IntKind.wrap .i64 (v11+1)) v16
def AaQ.J4 (k : Nat) (v0 : Int) (v1 : (List AaA)) (v2 : (List Int)) (v3 : Int) (v11 : Int) (v12 : (List (Int×Bool))) (v13 : (List Int)) (kb2 : Bool→Int→(List (Int×Bool))→Option Bool) (v14 : Bool) : Option Bool :=
  AaQ.L5 k v0 v1 v2 v3 v11 v13 v14 kb2 k 1 v12
def AaQ.J3 (k : Nat) (v0 : Int) (v1 : (List AaA)) (v2 : (List Int)) (v3 : Int) (v10 : Bool) (v11 : Int) (v12 : (List (Int×Bool))) (v13 : (List Int)) (kb2 : Bool→Int→(List (Int×Bool))→Option Bool) : Option Bool :=
  if v10=true then
    AaQ.J4 k v0 v1 v2 v3 v11 v12 v13 kb2 true
  else
    AaQ.J4 k v0 v1 v2 v3 v11 v12 v13 kb2 ((v13.length : Int)==2)
def AaQ.L2 (k : Nat) (v0 : Int) (v1 : (List AaA)) (v2 : (List Int)) (v3 : Int) (v4 : Int) (v5 : Int) (v6 : (List (List Int))) : Nat→Bool→Int→(List (Int×Bool))→Option Bool
  | 0,_,_,_=>none
  | n+1,v10,v11,v12 =>
    if v11<(v6.length : Int) then
      idx v6 v11 fun v13 =>
      if (v13.length : Int)<2 then
        some false
      else
        idx v13 0 fun v22 =>
        if v22≠v4 then
          some false
        else
          idx v13 (IntKind.wrap .i64 ((v13.length : Int)-1)) fun v23 =>
          if v23≠v5 then
            some false
          else
            if (v13.length : Int)=2 then
              if v10=true then
                some false
              else
                AaQ.J3 k v0 v1 v2 v3 v10 v11 v12 v13 (fun v10_ v11_ v12_=>AaQ.L2 k v0 v1 v2 v3 v4 v5 v6 n v10_ v11_ v12_)
            else
              AaQ.J3 k v0 v1 v2 v3 v10 v11 v12 v13 (fun v10_ v11_ v12_=>AaQ.L2 k v0 v1 v2 v3 v4 v5 v6 n v10_ v11_ v12_)
    else
      some true
def AaQ.J1 (k : Nat) (v0 : Int) (v1 : (List AaA)) (v2 : (List Int)) (v3 : Int) (v4 : Int) (v5 : Int) (v6 : (List (List Int))) (v9 : (List (Int×Bool))) : Option Bool :=
  AaQ.L2 k v0 v1 v2 v3 v4 v5 v6 k false 0 v9
def AaQ (k : Nat) (v0 : Int) (v1 : (List AaA)) (v2 : (List Int)) (v3 : Int) (v4 : Int) (v5 : Int) (v6 : (List (List Int))) : Option Bool :=
  Abi (AcW k v0 v1 v2 v3 v4 v5) fun v8 =>
  if (!v8)=true then
    some ((v6.length : Int)==0)
  else
    ArH (AaQ.J1 k v0 v1 v2 v3 v4 v5 v6 (AbE (AbE ([] : (List (Int×Bool))) v4 true) v5 true)) (AaQ.J1 k v0 v1 v2 v3 v4 v5 v6 (AbE (AbE ([] : (List (Int×Bool))) v5 true) v4 true))
def Acp (k : Nat) : Option Bool :=
  Abi (Aa4 k 4 ([(AaA.mk 0 1 1),(AaA.mk 0 2 2),(AaA.mk 1 3 1),(AaA.mk 2 3 2)] : List AaA) ([] : List Int) 1 0 3) fun v1 =>
  Abi (Aap k 4 ([(AaA.mk 0 1 1),(AaA.mk 0 2 2),(AaA.mk 1 3 1),(AaA.mk 2 3 2)] : List AaA) ([] : List Int) 1 0 3 2) fun v2 =>
  Abi (Ae8 k 4 ([(AaA.mk 0 1 1),(AaA.mk 0 2 2),(AaA.mk 1 3 1),(AaA.mk 2 3 2)] : List AaA) ([] : List Int) 1 0 3) fun v3 =>
  if v3=2 then
    Abi (Ae8 k 4 ([(AaA.mk 0 1 1),(AaA.mk 0 2 2),(AaA.mk 1 3 1),(AaA.mk 2 3 2)] : List AaA) ([] : List Int) 2 0 3) fun v4 =>
    if v4=1 then
      if (v1.length : Int)=2 then
        Abi (AaQ k 4 ([(AaA.mk 0 1 1),(AaA.mk 0 2 2),(AaA.mk 1 3 1),(AaA.mk 2 3 2)] : List AaA) ([] : List Int) 1 0 3 v1) fun v5 =>
        if v5=true then
          if (v2.length : Int)=2 then
            idx v2 0 fun v6 =>
            if (v6.length : Int)=3 then
              idx v6 1 fun v7 =>
              if v7=1 then
                Abi (AaQ k 4 ([(AaA.mk 0 1 1),(AaA.mk 0 2 2),(AaA.mk 1 3 1),(AaA.mk 2 3 2)] : List AaA) ([] : List Int) 2 0 3 v1) fun v8 =>
                some (!v8)
              else
                some false
            else
              some false
          else
            some false
        else
          some false
      else
        some false
    else
      some false
  else
    some false
def Af5 (k : Nat) (v0 : (List Int)) : Option ((List Int)×Int) :=
  some (v0,0)
def Acl.J1 (k : Nat) (v3 : Int) : Option Int :=
  some v3
def Acl (k : Nat) (v0 : Int) (v1 : Int) : Option Int :=
  if v1<1 then
    some 0
  else
    chk (v1≠(0 : Int)) <|
    if Int.tmod v0 v1<0 then
      Acl.J1 k (IntKind.wrap .i64 (Int.tmod v0 v1+v1))
    else
      Acl.J1 k (Int.tmod v0 v1)
def AbI (k : Nat) (v0 : (List Int)) (v1 : Int) (v2 : Int) : Option (Int×Int) :=
  if (v0.length : Int)≤v1 then
    some (0,v1)
  else
    idx v0 (IntKind.wrap .i64 (IntKind.wrap .i64 (v1+1)-1)) fun v5 =>
    Abi (Acl k v5 v2) fun v6 =>
    some (v6,IntKind.wrap .i64 (v1+1))
def Ade (k : Nat) (v0 : (List Int)) (v1 : Int) (v2 : Int) : Option (Bool×Int) :=
  Agv (AbI k v0 v1 v2) fun v5 v6 =>
  some ((v5==(IntKind.wrap .i64 (v2-1))),v6)
def Abd.J2 (k : Nat) (v3 : Int) (kb1 : Int→Option Bool) : Option Bool :=
  kb1 (IntKind.wrap .i64 (v3+1))
def Abd.L1 (k : Nat) (v0 : (List Int)) (v1 : Int) : Nat→Int→Option Bool
  | 0,_=>none
  | n+1,v3 =>
    if v3<(v0.length : Int) then
      idx v0 v3 fun v4 =>
      if v4<0 then
        some false
      else
        if v1≤v4 then
          some false
        else
          if 0<v3 then
            idx v0 (IntKind.wrap .i64 (v3-1)) fun v5 =>
            if v4≤v5 then
              some false
            else
              Abd.J2 k v3 (fun v3_=>Abd.L1 k v0 v1 n v3_)
          else
            Abd.J2 k v3 (fun v3_=>Abd.L1 k v0 v1 n v3_)
    else
      some true
def Abd (k : Nat) (v0 : (List Int)) (v1 : Int) : Option Bool :=
  Abd.L1 k v0 v1 k 0
def AbK.L1 (k : Nat) (v0 : (List Int)) (v1 : Int) : Nat→Int→Option Bool
  | 0,_=>none
  | n+1,v3 =>
    if v3<(v0.length : Int) then
      idx v0 v3 fun v4 =>
      if v4=v1 then
        some true
      else
        AbK.L1 k v0 v1 n (IntKind.wrap .i64 (v3+1))
    else
      some false
def AbK (k : Nat) (v0 : (List Int)) (v1 : Int) : Option Bool :=
  AbK.L1 k v0 v1 k 0
def Acv (k : Nat) (v0 : Int) (v1 : Int) (v2 : Int) (v3 : Int) (v4 : Int) (v5 : Int) : Option Bool :=
  if v0<v3 then
    some true
  else
    if v0=v3 then
      some (decide (v1<v4))
    else
      some false
def Aa1.J2 (k : Nat) (v5 : Int) (kb1 : Int→Option Int) (v7 : Bool) : Option Int :=
  if v7=true then
    some 14
  else
    kb1 (IntKind.wrap .i64 (v5+1))
def Aa1.L1 (k : Nat) (v0 : Int) (v1 : (List AaA)) (v2 : (List Int)) : Nat→Int→Option Int
  | 0,_=>none
  | n+1,v5 =>
    if v5<(v1.length : Int) then
      idx v1 v5 fun v6 =>
      if v6.From<0 then
        some 14
      else
        if v0≤v6.From then
          some 14
        else
          if v6.To<0 then
            some 14
          else
            if v0≤v6.To then
              some 14
            else
              if v6.From=v6.To then
                some 14
              else
                if v6.Level<1 then
                  some 14
                else
                  if 3<v6.Level then
                    some 14
                  else
                    if 0<v5 then
                      idx v1 (IntKind.wrap .i64 (v5-1)) fun v8 =>
                      Abi (Acv k v8.From v8.To v8.Level v6.From v6.To v6.Level) fun v9 =>
                      if (!v9)=true then
                        Aa1.J2 k v5 (fun v5_=>Aa1.L1 k v0 v1 v2 n v5_) true
                      else
                        Abi (AbK k v2 v6.From) fun v10 =>
                        if v10=true then
                          Aa1.J2 k v5 (fun v5_=>Aa1.L1 k v0 v1 v2 n v5_) true
                        else
                          Abi (AbK k v2 v6.To) fun v11 =>
                          Aa1.J2 k v5 (fun v5_=>Aa1.L1 k v0 v1 v2 n v5_) v11
                    else
                      Abi (AbK k v2 v6.From) fun v12 =>
                      if v12=true then
                        Aa1.J2 k v5 (fun v5_=>Aa1.L1 k v0 v1 v2 n v5_) true
                      else
                        Abi (AbK k v2 v6.To) fun v13 =>
                        Aa1.J2 k v5 (fun v5_=>Aa1.L1 k v0 v1 v2 n v5_) v13
    else
      some 0
def Aa1 (k : Nat) (v0 : Int) (v1 : (List AaA)) (v2 : (List Int)) : Option Int :=
  if v0<0 then
    some 14
  else
    if 64<v0 then
      some 14
    else
      if 500<(v1.length : Int) then
        some 14
      else
        Abi (Abd k v2 v0) fun v4 =>
        if (!v4)=true then
          some 14
        else
          Aa1.L1 k v0 v1 v2 k 0
def AbG.J1 (k : Nat) (v1 : (List AaA)) (v3 : Int) (v4 : Int) (v7 : Int) : Option (Int×Bool) :=
  if v7<(v1.length : Int) then
    idx v1 v7 fun v8 =>
    if v8.From=v3 then
      some (v7,(v8.To==v4))
    else
      some (v7,false)
  else
    some (v7,false)
def AbG.L2 (k : Nat) (v1 : (List AaA)) (v3 : Int) (v4 : Int) : Nat→Int→Option (Int×Bool)
  | 0,_=>none
  | n+1,v9 =>
    if v9<(v1.length : Int) then
      idx v1 v9 fun v10 =>
      Abi (Acv k v10.From v10.To v10.Level v3 v4 0) fun v11 =>
      if v11=true then
        AbG.L2 k v1 v3 v4 n (IntKind.wrap .i64 (v9+1))
      else
        AbG.J1 k v1 v3 v4 v9
    else
      AbG.J1 k v1 v3 v4 v9
def AbG (k : Nat) (v0 : Int) (v1 : (List AaA)) (v2 : (List Int)) (v3 : Int) (v4 : Int) : Option (Int×Bool) :=
  AbG.L2 k v1 v3 v4 k 0
def AcG (k : Nat) (v0 : Int) (v1 : (List AaA)) (v2 : (List Int)) : Option (Int×(List AaA)×(List Int)) :=
  chk (v1.length*24≤140737488355328) <|
  chk (v2.length*8≤140737488355328) <|
  some (v0,v1,v2)
def AdO (k : Nat) (v0 : Int) (v1 : (List AaA)) (v2 : (List Int)) (v3 : Int) (v4 : Int) (v5 : Int) : Option (Int×(List AaA)×(List Int)×Int) :=
  Abi (Aa1 k v0 v1 v2) fun v10 =>
  if v10≠0 then
    some (0,([] : List AaA),([] : List Int),14)
  else
    Agv (AbG k v0 v1 v2 v3 v4) fun v11 v12 =>
    if v3<0 then
      some (0,([] : List AaA),([] : List Int),4)
    else
      if v0≤v3 then
        some (0,([] : List AaA),([] : List Int),4)
      else
        if v4<0 then
          some (0,([] : List AaA),([] : List Int),4)
        else
          if v0≤v4 then
            some (0,([] : List AaA),([] : List Int),4)
          else
            if v3=v4 then
              some (0,([] : List AaA),([] : List Int),4)
            else
              Abi (AbK k v2 v3) fun v13 =>
              if v13=true then
                some (0,([] : List AaA),([] : List Int),4)
              else
                Abi (AbK k v2 v4) fun v14 =>
                if v14=true then
                  some (0,([] : List AaA),([] : List Int),4)
                else
                  if v5<1 then
                    some (0,([] : List AaA),([] : List Int),2)
                  else
                    if 3<v5 then
                      some (0,([] : List AaA),([] : List Int),2)
                    else
                      if v12=true then
                        some (0,([] : List AaA),([] : List Int),19)
                      else
                        if (v1.length : Int)=500 then
                          some (0,([] : List AaA),([] : List Int),3)
                        else
                          Am9 (AcG k v0 v1 v2) fun v15 v16 v17 =>
                          chk ((0 : Int)≤v11∧(v11 : Int)≤(v1.length : Int)) <|
                          chk ((v1.take (v11).toNat).length*24≤140737488355328) <|
                          chk (((v1.take (v11).toNat).length+([(AaA.mk v3 v4 v5)] : List AaA).length)*24≤140737488355328) <|
                          chk ((0 : Int)≤v11∧(v11 : Int)≤(v1.length : Int)) <|
                          chk ((((v1.take (v11).toNat)++([(AaA.mk v3 v4 v5)] : List AaA)).length+(v1.drop (v11).toNat).length)*24≤140737488355328) <|
                          some (v15,((v1.take (v11).toNat)++([(AaA.mk v3 v4 v5)] : List AaA))++(v1.drop (v11).toNat),v17,0)
def AaX.J4 (k : Nat) (v13 : Int) (kb3 : Int→Int→Int→(List AaA)→(List Int)→Option (Int×(List AaA)×(List Int)×Int)) (v18 : Int) (v19 : Int) (v20 : (List AaA)) (v21 : (List Int)) : Option (Int×(List AaA)×(List Int)×Int) :=
  kb3 (IntKind.wrap .i64 (v13-1)) v18 v19 v20 v21
def AaX.L3 (k : Nat) (v0 : (List Int)) : Nat→Int→Int→Int→(List AaA)→(List Int)→Option (Int×(List AaA)×(List Int)×Int)
  | 0,_,_,_,_,_=>none
  | n+1,v13,v14,v15,v16,v17 =>
    if 0<v13 then
      Agv (AbI k v0 v14 v15) fun v22 v23 =>
      Agv (AbI k v0 v23 v15) fun v24 v25 =>
      Agv (AbI k v0 v25 3) fun v26 v27 =>
      ArI (AdO k v15 v16 v17 v22 v24 (IntKind.wrap .i64 (1+v26))) fun v28 v29 v30 v31 =>
      if v31=0 then
        AaX.J4 k v13 (fun v13_ v14_ v15_ v16_ v17_=>AaX.L3 k v0 n v13_ v14_ v15_ v16_ v17_) v27 v28 v29 v30
      else
        AaX.J4 k v13 (fun v13_ v14_ v15_ v16_ v17_=>AaX.L3 k v0 n v13_ v14_ v15_ v16_ v17_) v27 v15 v16 v17
    else
      some (v15,v16,v17,v14)
def AaX.J2 (k : Nat) (v0 : (List Int)) (v8 : Int) (v9 : Int) (v10 : (List Int)) : Option (Int×(List AaA)×(List Int)×Int) :=
  Agv (AbI k v0 v9 23) fun v11 v12 =>
  AaX.L3 k v0 k v11 v12 v8 ([] : List AaA) v10
def AaX.J1 (k : Nat) (v0 : (List Int)) (v7 : Int) (v8 : Int) : Option (Int×(List AaA)×(List Int)×Int) :=
  Agv (Ade k v0 v7 8) fun v32 v33 =>
  if v32=true then
    Agv (AbI k v0 v33 v8) fun v34 v35 =>
    AaX.J2 k v0 v8 v35 ([v34] : List Int)
  else
    AaX.J2 k v0 v8 v33 ([] : List Int)
def AaX (k : Nat) (v0 : (List Int)) (v1 : Int) : Option (Int×(List AaA)×(List Int)×Int) :=
  Agv (AbI k v0 v1 8) fun v6 v7 =>
  if (v0.length : Int)=0 then
    AaX.J1 k v0 v7 4
  else
    AaX.J1 k v0 v7 (IntKind.wrap .i64 (2+v6))
def Acu (k : Nat) (v0 : Int) (v1 : (List AaA)) (v2 : (List Int)) (v3 : Int) (v4 : Int) (v5 : Int) : Option Bool :=
  if 1≤v3 then
    if v3≤3 then
      if 0≤v4 then
        if v4<v0 then
          if 0≤v5 then
            if v5<v0 then
              some (v4 !=v5)
            else
              some false
          else
            some false
        else
          some false
      else
        some false
    else
      some false
  else
    some false
def AbB.J2 (k : Nat) (v10 : Int) (kb1 : Int→(List AaA)→Option (Int×(List AaA)×(List Int))) (v12 : (List AaA)) : Option (Int×(List AaA)×(List Int)) :=
  kb1 (IntKind.wrap .i64 (v10+1)) v12
def AbB.L1 (k : Nat) (v1 : (List AaA)) (v3 : Int) (v7 : Int) (v9 : (List Int)) : Nat→Int→(List AaA)→Option (Int×(List AaA)×(List Int))
  | 0,_,_=>none
  | n+1,v10,v11 =>
    if v10<(v1.length : Int) then
      idx v1 v10 fun v13 =>
      if v3≤v13.Level then
        chk ((v11.length+([v13] : List AaA).length)*24≤140737488355328) <|
        AbB.J2 k v10 (fun v10_ v11_=>AbB.L1 k v1 v3 v7 v9 n v10_ v11_) (v11++([v13] : List AaA))
      else
        AbB.J2 k v10 (fun v10_ v11_=>AbB.L1 k v1 v3 v7 v9 n v10_ v11_) v11
    else
      some (v7,v11,v9)
def AbB (k : Nat) (v0 : Int) (v1 : (List AaA)) (v2 : (List Int)) (v3 : Int) : Option (Int×(List AaA)×(List Int)) :=
  Am9 (AcG k v0 v1 v2) fun v7 v8 v9 =>
  AbB.L1 k v1 v3 v7 v9 k 0 ([] : List AaA)
def Aan.J2 (k : Nat) (v5 : Int) (kb1 : Int→(List Int)→Option (List Int)) (v7 : (List Int)) : Option (List Int) :=
  kb1 (IntKind.wrap .i64 (v5+1)) v7
def Aan.J5 (k : Nat) (v12 : Int) (kb4 : Int→(List Int)→Option (List Int)) (v14 : (List Int)) : Option (List Int) :=
  kb4 (IntKind.wrap .i64 (v12+1)) v14
def Aan.L4 (k : Nat) (v1 : (List AaA)) (v10 : Int) (kb3 : Int→(List Int)→Option (List Int)) : Nat→Int→(List Int)→Option (List Int)
  | 0,_,_=>none
  | n+1,v12,v13 =>
    if v12<(v1.length : Int) then
      idx v1 v12 fun v15 =>
      chk ((0 : Int)≤v15.From∧(v15.From).toNat<v13.length) <|
      idx v13 v15.From fun v16 =>
      if v16=v10 then
        chk ((0 : Int)≤v15.To∧(v15.To).toNat<v13.length) <|
        idx v13 v15.To fun v17 =>
        if v17=(-1) then
          chk ((0 : Int)≤v15.To∧(v15.To).toNat<v13.length) <|
          Aan.J5 k v12 (fun v12_ v13_=>Aan.L4 k v1 v10 kb3 n v12_ v13_) (v13.set (v15.To).toNat (IntKind.wrap .i64 (v10+1)))
        else
          Aan.J5 k v12 (fun v12_ v13_=>Aan.L4 k v1 v10 kb3 n v12_ v13_) v13
      else
        Aan.J5 k v12 (fun v12_ v13_=>Aan.L4 k v1 v10 kb3 n v12_ v13_) v13
    else
      kb3 (IntKind.wrap .i64 (v10+1)) v13
def Aan.L3 (k : Nat) (v0 : Int) (v1 : (List AaA)) : Nat→Int→(List Int)→Option (List Int)
  | 0,_,_=>none
  | n+1,v10,v11 =>
    if v10<v0 then
      Aan.L4 k v1 v10 (fun v10_ v11_=>Aan.L3 k v0 v1 n v10_ v11_) k 0 v11
    else
      some v11
def Aan.L1 (k : Nat) (v0 : Int) (v1 : (List AaA)) (v2 : (List Int)) (v3 : (List Int)) : Nat→Int→(List Int)→Option (List Int)
  | 0,_,_=>none
  | n+1,v5,v6 =>
    if v5<v0 then
      chk ((v6.length+([-1] : List Int).length)*8≤140737488355328) <|
      Abi (AbK k v3 v5) fun v8 =>
      if v8=true then
        Abi (AbK k v2 v5) fun v9 =>
        if (!v9)=true then
          chk ((0 : Int)≤v5∧(v5).toNat<(v6++([-1] : List Int)).length) <|
          Aan.J2 k v5 (fun v5_ v6_=>Aan.L1 k v0 v1 v2 v3 n v5_ v6_) ((v6++([-1] : List Int)).set (v5).toNat 0)
        else
          Aan.J2 k v5 (fun v5_ v6_=>Aan.L1 k v0 v1 v2 v3 n v5_ v6_) (v6++([-1] : List Int))
      else
        Aan.J2 k v5 (fun v5_ v6_=>Aan.L1 k v0 v1 v2 v3 n v5_ v6_) (v6++([-1] : List Int))
    else
      Aan.L3 k v0 v1 k 0 v6
def Aan (k : Nat) (v0 : Int) (v1 : (List AaA)) (v2 : (List Int)) (v3 : (List Int)) : Option (List Int) :=
  Aan.L1 k v0 v1 v2 v3 k 0 ([] : List Int)
def AbT.J2 (k : Nat) (v5 : Int) (kb1 : Int→(List Int)→Option (List Int)) (v7 : (List Int)) : Option (List Int) :=
  kb1 (IntKind.wrap .i64 (v5+1)) v7
def AbT.L1 (k : Nat) (v1 : (List AaA)) (v3 : Int) : Nat→Int→(List Int)→Option (List Int)
  | 0,_,_=>none
  | n+1,v5,v6 =>
    if v5<(v1.length : Int) then
      idx v1 v5 fun v8 =>
      if v8.From=v3 then
        chk ((v6.length+([v8.To] : List Int).length)*8≤140737488355328) <|
        AbT.J2 k v5 (fun v5_ v6_=>AbT.L1 k v1 v3 n v5_ v6_) (v6++([v8.To] : List Int))
      else
        AbT.J2 k v5 (fun v5_ v6_=>AbT.L1 k v1 v3 n v5_ v6_) v6
    else
      some v6
def AbT (k : Nat) (v0 : Int) (v1 : (List AaA)) (v2 : (List Int)) (v3 : Int) : Option (List Int) :=
  AbT.L1 k v1 v3 k 0 ([] : List Int)
def AaS.J3 (k : Nat) (v12 : Int) (kb2 : Int→(List Bool)→Option ((List Int)×Bool)) (v14 : (List Bool)) : Option ((List Int)×Bool) :=
  kb2 (IntKind.wrap .i64 (v12+1)) v14
def AaS.L2 (k : Nat) (v1 : (List AaA)) (v7 : (List Int)) (v10 : Int) (kb1 : Int→(List Bool)→Option ((List Int)×Bool)) : Nat→Int→(List Bool)→Option ((List Int)×Bool)
  | 0,_,_=>none
  | n+1,v12,v13 =>
    if v12<(v1.length : Int) then
      idx v1 v12 fun v15 =>
      chk ((0 : Int)≤v15.To∧(v15.To).toNat<v13.length) <|
      idx v13 v15.To fun v16 =>
      if v16=true then
        idx v7 v15.To fun v17 =>
        if v17=v10 then
          idx v7 v15.From fun v18 =>
          if v18=(IntKind.wrap .i64 (v10-1)) then
            chk ((0 : Int)≤v15.From∧(v15.From).toNat<v13.length) <|
            AaS.J3 k v12 (fun v12_ v13_=>AaS.L2 k v1 v7 v10 kb1 n v12_ v13_) (v13.set (v15.From).toNat true)
          else
            AaS.J3 k v12 (fun v12_ v13_=>AaS.L2 k v1 v7 v10 kb1 n v12_ v13_) v13
        else
          AaS.J3 k v12 (fun v12_ v13_=>AaS.L2 k v1 v7 v10 kb1 n v12_ v13_) v13
      else
        AaS.J3 k v12 (fun v12_ v13_=>AaS.L2 k v1 v7 v10 kb1 n v12_ v13_) v13
    else
      kb1 (IntKind.wrap .i64 (v10-1)) v13
def AaS.J5 (k : Nat) (v19 : Int) (kb4 : Int→(List Int)→Option ((List Int)×Bool)) (v21 : (List Int)) : Option ((List Int)×Bool) :=
  kb4 (IntKind.wrap .i64 (v19+1)) v21
def AaS.J7 (k : Nat) (v22 : Int) (kb6 : Int→Option ((List Int)×Bool)) : Option ((List Int)×Bool) :=
  kb6 (IntKind.wrap .i64 (v22+1))
def AaS.L6 (k : Nat) (v0 : Int) (v1 : (List AaA)) (v2 : (List Int)) (v7 : (List Int)) (v11 : (List Bool)) (v19 : Int) (v20 : (List Int)) (kb4 : Int→(List Int)→Option ((List Int)×Bool)) : Nat→Int→Option ((List Int)×Bool)
  | 0,_=>none
  | n+1,v22 =>
    if v22<v0 then
      idx v11 v22 fun v23 =>
      if v23=true then
        idx v7 v22 fun v24 =>
        if v24=v19 then
          if v19=0 then
            chk ((v20.length+([v22] : List Int).length)*8≤140737488355328) <|
            AaS.J5 k v19 kb4 (v20++([v22] : List Int))
          else
            chk ((0 : Int)≤(IntKind.wrap .i64 (v19-1))∧(IntKind.wrap .i64 (v19-1)).toNat<v20.length) <|
            idx v20 (IntKind.wrap .i64 (v19-1)) fun v25 =>
            Abi (AbT k v0 v1 v2 v25) fun v26 =>
            Abi (AbK k v26 v22) fun v27 =>
            if v27=true then
              chk ((v20.length+([v22] : List Int).length)*8≤140737488355328) <|
              AaS.J5 k v19 kb4 (v20++([v22] : List Int))
            else
              AaS.J7 k v22 (fun v22_=>AaS.L6 k v0 v1 v2 v7 v11 v19 v20 kb4 n v22_)
        else
          AaS.J7 k v22 (fun v22_=>AaS.L6 k v0 v1 v2 v7 v11 v19 v20 kb4 n v22_)
      else
        AaS.J7 k v22 (fun v22_=>AaS.L6 k v0 v1 v2 v7 v11 v19 v20 kb4 n v22_)
    else
      AaS.J5 k v19 kb4 v20
def AaS.L4 (k : Nat) (v0 : Int) (v1 : (List AaA)) (v2 : (List Int)) (v7 : (List Int)) (v8 : Int) (v11 : (List Bool)) : Nat→Int→(List Int)→Option ((List Int)×Bool)
  | 0,_,_=>none
  | n+1,v19,v20 =>
    if v19≤v8 then
      AaS.L6 k v0 v1 v2 v7 v11 v19 v20 (fun v19_ v20_=>AaS.L4 k v0 v1 v2 v7 v8 v11 n v19_ v20_) k 0
    else
      some (v20,true)
def AaS.L1 (k : Nat) (v0 : Int) (v1 : (List AaA)) (v2 : (List Int)) (v7 : (List Int)) (v8 : Int) : Nat→Int→(List Bool)→Option ((List Int)×Bool)
  | 0,_,_=>none
  | n+1,v10,v11 =>
    if 0<v10 then
      AaS.L2 k v1 v7 v10 (fun v10_ v11_=>AaS.L1 k v0 v1 v2 v7 v8 n v10_ v11_) k 0 v11
    else
      AaS.L4 k v0 v1 v2 v7 v8 v11 k 0 ([] : List Int)
def AaS (k : Nat) (v0 : Int) (v1 : (List AaA)) (v2 : (List Int)) (v3 : (List Int)) (v4 : Int) : Option ((List Int)×Bool) :=
  Abi (Aan k v0 v1 v2 v3) fun v7 =>
  if v4<0 then
    some (([] : List Int),false)
  else
    if v0≤v4 then
      some (([] : List Int),false)
    else
      idx v7 v4 fun v8 =>
      if v8<0 then
        some (([] : List Int),false)
      else
        chk ((0 : Int)≤v0∧16*v0≤281474976710656) <|
        AoY (List.replicate (v0).toNat false) fun v9 =>
        chk ((0 : Int)≤v4∧(v4).toNat<v9.length) <|
        AaS.L1 k v0 v1 v2 v7 v8 k v8 (v9.set (v4).toNat true)
def Aah.J3 (k : Nat) (v19 : Int) (kb2 : Int→(List AaA)→Option (List (List Int))) (v21 : (List AaA)) : Option (List (List Int)) :=
  kb2 (IntKind.wrap .i64 (v19+1)) v21
def Aah.J4 (k : Nat) (v4 : Int) (v5 : Int) (v17 : (List Int)) (v19 : Int) (v20 : (List AaA)) (v22 : AaA) (kb2 : Int→(List AaA)→Option (List (List Int))) (v23 : Bool) : Option (List (List Int)) :=
  if (!v23)=true then
    if (v17.length : Int)=2 then
      if v22.From=v4 then
        if v22.To≠v5 then
          chk ((v20.length+([v22] : List AaA).length)*24≤140737488355328) <|
          Aah.J3 k v19 kb2 (v20++([v22] : List AaA))
        else
          Aah.J3 k v19 kb2 v20
      else
        chk ((v20.length+([v22] : List AaA).length)*24≤140737488355328) <|
        Aah.J3 k v19 kb2 (v20++([v22] : List AaA))
    else
      chk ((v20.length+([v22] : List AaA).length)*24≤140737488355328) <|
      Aah.J3 k v19 kb2 (v20++([v22] : List AaA))
  else
    Aah.J3 k v19 kb2 v20
def Aah.L2 (k : Nat) (v4 : Int) (v5 : Int) (v15 : (List AaA)) (v16 : (List (List Int))) (v17 : (List Int)) (kb1 : (List AaA)→(List (List Int))→Option (List (List Int))) : Nat→Int→(List AaA)→Option (List (List Int))
  | 0,_,_=>none
  | n+1,v19,v20 =>
    if v19<(v15.length : Int) then
      idx v15 v19 fun v22 =>
      chk ((1 : Int)≤IntKind.wrap .i64 ((v17.length : Int)-1)∧(IntKind.wrap .i64 ((v17.length : Int)-1) : Int)≤(v17.length : Int)) <|
      Abi (AbK k ((v17.take (IntKind.wrap .i64 ((v17.length : Int)-1)).toNat).drop (1 : Int).toNat) v22.From) fun v24 =>
      if v24=true then
        Aah.J4 k v4 v5 v17 v19 v20 v22 (fun v19_ v20_=>Aah.L2 k v4 v5 v15 v16 v17 kb1 n v19_ v20_) true
      else
        chk ((1 : Int)≤IntKind.wrap .i64 ((v17.length : Int)-1)∧(IntKind.wrap .i64 ((v17.length : Int)-1) : Int)≤(v17.length : Int)) <|
        Abi (AbK k ((v17.take (IntKind.wrap .i64 ((v17.length : Int)-1)).toNat).drop (1 : Int).toNat) v22.To) fun v25 =>
        Aah.J4 k v4 v5 v17 v19 v20 v22 (fun v19_ v20_=>Aah.L2 k v4 v5 v15 v16 v17 kb1 n v19_ v20_) v25
    else
      kb1 v20 (v16++([v17] : List (List Int)))
def Aah.L1 (k : Nat) (v4 : Int) (v5 : Int) (v6 : Int) (v12 : Int) : Nat→(List AaA)→(List (List Int))→Option (List (List Int))
  | 0,_,_=>none
  | n+1,v15,v16 =>
    Agv (AaS k v12 v15 ([] : List Int) ([v4] : List Int) v5) fun v17 v18 =>
    if (!v18)=true then
      some v16
    else
      if v6<IntKind.wrap .i64 ((v17.length : Int)-1) then
        some v16
      else
        chk ((v16.length+([v17] : List (List Int)).length)*24≤140737488355328) <|
        Aah.L2 k v4 v5 v15 v16 v17 (fun v15_ v16_=>Aah.L1 k v4 v5 v6 v12 n v15_ v16_) k 0 ([] : List AaA)
def Aah (k : Nat) (v0 : Int) (v1 : (List AaA)) (v2 : (List Int)) (v3 : Int) (v4 : Int) (v5 : Int) (v6 : Int) : Option (List (List Int)) :=
  Abi (Acu k v0 v1 v2 v3 v4 v5) fun v8 =>
  if (!v8)=true then
    some ([] : List (List Int))
  else
    Am9 (AbB k v0 v1 v2 v3) fun v9 v10 v11 =>
    Am9 (AcG k v9 v10 v11) fun v12 v13 v14 =>
    Aah.L1 k v4 v5 v6 v12 k v13 ([] : List (List Int))
def AbL.J2 (k : Nat) (v9 : Int) (kb1 : Int→Option Bool) : Option Bool :=
  kb1 (IntKind.wrap .i64 (v9+1))
def AbL.L1 (k : Nat) (v0 : Int) (v1 : (List AaA)) (v2 : (List Int)) (v5 : (List Int)) : Nat→Int→Option Bool
  | 0,_=>none
  | n+1,v9 =>
    if v9<(v5.length : Int) then
      chk ((0 : Int)≤v9∧(v9 : Int)≤(v5.length : Int)) <|
      idx v5 v9 fun v10 =>
      Abi (AbK k (v5.take (v9).toNat) v10) fun v11 =>
      if v11=true then
        some false
      else
        if 0<v9 then
          idx v5 (IntKind.wrap .i64 (v9-1)) fun v12 =>
          Abi (AbT k v0 v1 v2 v12) fun v13 =>
          Abi (AbK k v13 v10) fun v14 =>
          if (!v14)=true then
            some false
          else
            AbL.J2 k v9 (fun v9_=>AbL.L1 k v0 v1 v2 v5 n v9_)
        else
          AbL.J2 k v9 (fun v9_=>AbL.L1 k v0 v1 v2 v5 n v9_)
    else
      some true
def AbL (k : Nat) (v0 : Int) (v1 : (List AaA)) (v2 : (List Int)) (v3 : Int) (v4 : Int) (v5 : (List Int)) : Option Bool :=
  if (v5.length : Int)<2 then
    some false
  else
    idx v5 0 fun v7 =>
    if v7≠v3 then
      some false
    else
      idx v5 (IntKind.wrap .i64 ((v5.length : Int)-1)) fun v8 =>
      if v8≠v4 then
        some false
      else
        AbL.L1 k v0 v1 v2 v5 k 0
def Aal.L3 (k : Nat) (v13 : Int) (v15 : (List Int)) (v17 : Int) (kb1 : Int→Int→(List Int)→Option Bool) : Nat→Int→(List Int)→Option Bool
  | 0,_,_=>none
  | n+1,v18,v19 =>
    if IntKind.wrap .i64 (v18+1)<(v15.length : Int) then
      idx v15 v18 fun v20 =>
      Abi (AbK k v19 v20) fun v21 =>
      if v21=true then
        some false
      else
        chk ((v19.length+([v20] : List Int).length)*8≤140737488355328) <|
        Aal.L3 k v13 v15 v17 kb1 n (IntKind.wrap .i64 (v18+1)) (v19++([v20] : List Int))
    else
      kb1 v17 (IntKind.wrap .i64 (v13+1)) v19
def Aal.J2 (k : Nat) (v13 : Int) (v14 : (List Int)) (v15 : (List Int)) (kb1 : Int→Int→(List Int)→Option Bool) (v17 : Int) : Option Bool :=
  Aal.L3 k v13 v15 v17 kb1 k 1 v14
def Aal.L1 (k : Nat) (v4 : Int) (v5 : Int) (v6 : (List (List Int))) (v9 : Int) (v10 : (List AaA)) (v11 : (List Int)) : Nat→Int→Int→(List Int)→Option Bool
  | 0,_,_,_=>none
  | n+1,v12,v13,v14 =>
    if v13<(v6.length : Int) then
      idx v6 v13 fun v15 =>
      Abi (AbL k v9 v10 v11 v4 v5 v15) fun v16 =>
      if (!v16)=true then
        some false
      else
        if (v15.length : Int)=2 then
          Aal.J2 k v13 v14 v15 (fun v12_ v13_ v14_=>Aal.L1 k v4 v5 v6 v9 v10 v11 n v12_ v13_ v14_) (IntKind.wrap .i64 (v12+1))
        else
          Aal.J2 k v13 v14 v15 (fun v12_ v13_ v14_=>Aal.L1 k v4 v5 v6 v9 v10 v11 n v12_ v13_ v14_) v12
    else
      some (decide (v12≤1))
def Aal (k : Nat) (v0 : Int) (v1 : (List AaA)) (v2 : (List Int)) (v3 : Int) (v4 : Int) (v5 : Int) (v6 : (List (List Int))) : Option Bool :=
  Abi (Acu k v0 v1 v2 v3 v4 v5) fun v8 =>
  if (!v8)=true then
    some ((v6.length : Int)==0)
  else
    Am9 (AbB k v0 v1 v2 v3) fun v9 v10 v11 =>
    Aal.L1 k v4 v5 v6 v9 v10 v11 k 0 0 ([] : List Int)
def Aai.J2 (k : Nat) (v1 : (List (List Int))) (v2 : (List Int)) (v12 : Int) (v13 : (List AaA)) (v14 : (List Int)) (v16 : Int) (v18 : Int) (v21 : (List (List Int))) : Option Bool :=
  Abi (Acp k) fun v22 =>
  if v22=true then
    Abi (AaQ k v12 v13 v14 1 v16 v18 v21) fun v23 =>
    Abi (Aal k v12 v13 v14 1 v16 v18 v21) fun v24 =>
    if (v23==v24)=true then
      Abi (AaQ k v12 v13 v14 2 v16 v18 v21) fun v25 =>
      Abi (Aal k v12 v13 v14 2 v16 v18 v21) fun v26 =>
      if (v25==v26)=true then
        chk ((0 : Int)≤0∧0<3∧(0 : Int).toNat<v2.length) <|
        idx v2 (0 : Int) fun v27 =>
        chk ((0 : Int)≤1∧1<3∧(1 : Int).toNat<v2.length) <|
        idx v2 (1 : Int) fun v28 =>
        chk ((0 : Int)≤2∧2<3∧(2 : Int).toNat<v2.length) <|
        idx v2 (2 : Int) fun v29 =>
        Abi (AaQ k v12 v13 v14 v27 v28 v29 v1) fun v30 =>
        chk ((0 : Int)≤0∧0<3∧(0 : Int).toNat<v2.length) <|
        chk ((0 : Int)≤1∧1<3∧(1 : Int).toNat<v2.length) <|
        chk ((0 : Int)≤2∧2<3∧(2 : Int).toNat<v2.length) <|
        Abi (Aal k v12 v13 v14 v27 v28 v29 v1) fun v31 =>
        if (v30==v31)=true then
          Abi (AaQ k v12 v13 v14 1 v16 v18 v1) fun v32 =>
          Abi (Aal k v12 v13 v14 1 v16 v18 v1) fun v33 =>
          some (v32==v33)
        else
          some false
      else
        some false
    else
      some false
  else
    some false
def Aai.L1 (k : Nat) (v0 : (List Int)) (v1 : (List (List Int))) (v2 : (List Int)) : Nat→Int→Option Bool
  | 0,_=>none
  | n+1,v7 =>
    if v7<(v1.length : Int) then
      idx v1 v7 fun v8 =>
      if 30<(v8.length : Int) then
        Abi (Acp k) fun v9 =>
        some v9
      else
        Aai.L1 k v0 v1 v2 n (IntKind.wrap .i64 (v7+1))
    else
      Agv (Af5 k v0) fun v10 v11 =>
      ArI (AaX k v10 v11) fun v12 v13 v14 v15 =>
      Agv (AbI k v10 v15 v12) fun v16 v17 =>
      Agv (AbI k v10 v17 v12) fun v18 v19 =>
      Abi (Aah k v12 v13 v14 1 v16 v18 9) fun v20 =>
      Agv (AbI k v10 v19 5) fun v34 v35 =>
      if v34=0 then
        chk ((v20.length+v20.length)*24≤140737488355328) <|
        Aai.J2 k v1 v2 v12 v13 v14 v16 v18 (v20++v20)
      else
        if v34=1 then
          if 0<(v20.length : Int) then
            chk ((0 : Int)≤0∧(0 : Int).toNat<v20.length) <|
            idx v20 (0 : Int) fun v36 =>
            chk (v36.length*8≤140737488355328) <|
            chk ((0 : Int)≤0∧0<3∧(0 : Int).toNat<v2.length) <|
            idx v2 (0 : Int) fun v37 =>
            Abi (Acl k v37 9) fun v38 =>
            chk ((v36.length+([v38] : List Int).length)*8≤140737488355328) <|
            chk ((0 : Int)≤0∧(0 : Int).toNat<v20.length) <|
            Aai.J2 k v1 v2 v12 v13 v14 v16 v18 (v20.set (0 : Int).toNat (v36++([v38] : List Int)))
          else
            Aai.J2 k v1 v2 v12 v13 v14 v16 v18 v20
        else
          if v34=2 then
            if 0<(v20.length : Int) then
              chk ((0 : Int)≤0∧(0 : Int).toNat<v20.length) <|
              idx v20 (0 : Int) fun v39 =>
              chk ((1 : Int)≤(v39.length : Int)) <|
              chk ((0 : Int)≤0∧(0 : Int).toNat<v20.length) <|
              Aai.J2 k v1 v2 v12 v13 v14 v16 v18 (v20.set (0 : Int).toNat (v39.drop (1 : Int).toNat))
            else
              Aai.J2 k v1 v2 v12 v13 v14 v16 v18 v20
          else
            if v34=3 then
              if 1<(v20.length : Int) then
                chk ((1 : Int)≤(v20.length : Int)) <|
                Aai.J2 k v1 v2 v12 v13 v14 v16 v18 (v20.drop (1 : Int).toNat)
              else
                Aai.J2 k v1 v2 v12 v13 v14 v16 v18 v20
            else
              Aai.J2 k v1 v2 v12 v13 v14 v16 v18 v20
def Aai (k : Nat) (v0 : (List Int)) (v1 : (List (List Int))) (v2 : (List Int)) : Option Bool :=
  Abi (AfC k v0) fun v4 =>
  if (!v4)=true then
    Abi (Acp k) fun v5 =>
    some v5
  else
    if 12<(v1.length : Int) then
      Abi (Acp k) fun v6 =>
      some v6
    else
      Aai.L1 k v0 v1 v2 k 0
theorem GK {P : List (List Nat×List Nat)→Prop} {c : List (List Nat×List Nat)→Bool} {l : List (List Nat×List Nat)} (g : ∀ l,c l=true→P l) (h : c l=true:=by kernel_rfl) : P l:=g l h
abbrev Q0 (l : List AaA) : AV := .lst false false (List.map AaA.av l)
abbrev Q1 (l : List AaI) : AV := .lst false false (List.map AaI.av l)
abbrev Q2 (l : List AaD) : AV := .lst false false (List.map AaD.av l)
abbrev Gi (l : List Int) : Aau := .grow (List.map (AV.int .i64) l)
abbrev Ci (l : List Int) : Aau := .cells (List.map (AV.int .i64) l)
theorem A2 {p0 p1 : Prop} (a0 : p0) (a1 : p1) : p0∧p1:=⟨a0,a1⟩
theorem A3 {p0 p1 p2 : Prop} (a0 : p0) (a1 : p1) (a2 : p2) : p0∧p1∧p2:=⟨a0,a1,a2⟩
theorem A4 {p0 p1 p2 p3 : Prop} (a0 : p0) (a1 : p1) (a2 : p2) (a3 : p3) : p0∧p1∧p2∧p3:=⟨a0,a1,a2,a3⟩
theorem A5 {p0 p1 p2 p3 p4 : Prop} (a0 : p0) (a1 : p1) (a2 : p2) (a3 : p3) (a4 : p4) : p0∧p1∧p2∧p3∧p4:=⟨a0,a1,a2,a3,a4⟩
theorem A6 {p0 p1 p2 p3 p4 p5 : Prop} (a0 : p0) (a1 : p1) (a2 : p2) (a3 : p3) (a4 : p4) (a5 : p5) : p0∧p1∧p2∧p3∧p4∧p5:=⟨a0,a1,a2,a3,a4,a5⟩
theorem A7 {p0 p1 p2 p3 p4 p5 p6 : Prop} (a0 : p0) (a1 : p1) (a2 : p2) (a3 : p3) (a4 : p4) (a5 : p5) (a6 : p6) : p0∧p1∧p2∧p3∧p4∧p5∧p6:=⟨a0,a1,a2,a3,a4,a5,a6⟩
theorem A8 {p0 p1 p2 p3 p4 p5 p6 p7 : Prop} (a0 : p0) (a1 : p1) (a2 : p2) (a3 : p3) (a4 : p4) (a5 : p5) (a6 : p6) (a7 : p7) : p0∧p1∧p2∧p3∧p4∧p5∧p6∧p7:=⟨a0,a1,a2,a3,a4,a5,a6,a7⟩
theorem A9 {p0 p1 p2 p3 p4 p5 p6 p7 p8 : Prop} (a0 : p0) (a1 : p1) (a2 : p2) (a3 : p3) (a4 : p4) (a5 : p5) (a6 : p6) (a7 : p7) (a8 : p8) : p0∧p1∧p2∧p3∧p4∧p5∧p6∧p7∧p8:=⟨a0,a1,a2,a3,a4,a5,a6,a7,a8⟩
end Go.TF
set_option maxRecDepth 100000
namespace Go.Proofs.YtelffnegemdicaaPcT
open Go Go.Abs Go.Proofs
theorem Amn : Try.prog.follows .mixedOrders=true:=by kernel_rfl
section
variable {n : Nat} {c0 : Cx} {w0 : World} {Q : Acj} {s : Nat→AV} {H : Aao} {N : Nat} {T : Act→World→Prop}
theorem SQ {id : Nat} {ops : List Oper} {draw : Bool} {y : Code} (mu : List Nat) (gs : List (Option (Nat×Bool)))
 (h : ∀ (G : Log→Prop) (K : (Nat→AV)→Aao→Nat→Prop),(∀ lg,(!draw||AdH ops lg)=true→G lg)→(∀ s' H' N',AW Try.prog n c0 w0 y Q s' H' N'→K s' H' N')→Aee Try.prog mu ops gs s H N [] (fun s' H' N' lg=>G lg∧K s' H' N'))
 (hok : Ai1 n ops gs=true:=by kernel_rfl) : AW Try.prog n c0 w0 (.seq (.region id ops.toArray draw) y) Q s H N:=AW.seqR Amn mu gs hok h
theorem RG {id : Nat} {ops : List Oper} {draw : Bool} (mu : List Nat) (gs : List (Option (Nat×Bool)))
 (h : ∀ (G : Log→Prop) (K : (Nat→AV)→Aao→Nat→Prop),(∀ lg,(!draw||AdH ops lg)=true→G lg)→(∀ s' H' N',Q .normal s' H' N'→K s' H' N')→Aee Try.prog mu ops gs s H N [] (fun s' H' N' lg=>G lg∧K s' H' N'))
 (hok : Ai1 n ops gs=true:=by kernel_rfl) : AW Try.prog n c0 w0 (.region id ops.toArray draw) Q s H N:=AW.region Amn mu gs hok h
theorem WK {x : Code} (l : List (Nat×AV)) (hl : List (Nat×Aau)) (N' : Nat) (h1 : ∀ p ∈ l,s p.1=p.2) (h2 : ∀ p ∈ hl,H p.1=some p.2) (h : AW Try.prog n c0 w0 x Q (mkS l) (mkH hl) N') (hN : N≤N':=by simp) : AW Try.prog n c0 w0 x Q s H N:=AW.wk l hl N' h1 h2 hN h
theorem RN (h0 : Ab8 c0 0) (ρ : List (Nat×Nat)) (l : List (Nat×AV)) (o : List (Nat×Aau)) (M : Nat)
 (h1 : ∀ p ∈ l,s p.1=Abs.ren (AcM ρ) p.2∧gd (fun i=>(Abs.AdE ρ i).isSome=true) p.2)
 (h2 : ∀ p ∈ o,H (AcM ρ p.1)=some (AdY (AcM ρ) p.2)∧gdO (fun i=>(Abs.AdE ρ i).isSome=true) p.2)
 (h : Abs.Can n c0 w0 (mkS l) (mkH o) M T) (hρ1 : (ρ.map (·.2)).Nodup:=by decide) (hρ2 : ∀ p ∈ ρ,p.1<M∧(p.1<0→p.1=p.2):=by decide) (hk : o.map (·.1)=ρ.map (·.1):=by rfl) : Abs.Can n c0 w0 s H N T:=Abs.Can.ren h0 ρ l o M hρ1 hρ2 (Nat.zero_le _) hk h1 h2 h
theorem RM {x : Code} (h0 : Ab8 c0 0) (ρ : List (Nat×Nat)) (l : List (Nat×AV)) (o : List (Nat×Aau)) (M : Nat)
 (h1 : ∀ p ∈ l,s p.1=Abs.ren (AcM ρ) p.2∧gd (fun i=>(Abs.AdE ρ i).isSome=true) p.2)
 (h2 : ∀ p ∈ o,H (AcM ρ p.1)=some (AdY (AcM ρ) p.2)∧gdO (fun i=>(Abs.AdE ρ i).isSome=true) p.2)
 (h : AW Try.prog n c0 w0 x Q (mkS l) (mkH o) M) (hρ1 : (ρ.map (·.2)).Nodup:=by decide) (hρ2 : ∀ p ∈ ρ,p.1<M∧(p.1<0→p.1=p.2):=by decide) (hk : o.map (·.1)=ρ.map (·.1):=by rfl) : AW Try.prog n c0 w0 x Q s H N:=AW.rnm h0 ρ l o M hρ1 hρ2 (Nat.zero_le _) hk h1 h2 h
theorem AC {f : FuncId} {args : List AV} {K : CK} {args0 : List AV} {r : AV} {O' : List (Option Aau)} (hF : AbF Try.prog f args0 [] r O') (hco : AlP H (nm []) args args0 [])
 (hk : K (ren (nm ([]++Afr N (O'.length-([] : List Aau).length))) r) (Ajx (nm ([]++Afr N (O'.length-([] : List Aau).length))) H ([]++Afr N (O'.length-([] : List Aau).length)) O') (N+(O'.length-([] : List Aau).length)) ([]++[]) ([]++Afr N (O'.length-([] : List Aau).length)))
 (hcal : Aab Try.prog f=true:=by simp) (hun : Apb [] [] [] O':=by simp) : AlO Try.prog f args H N K :=
 AbA hF hcal [] [] [] rfl hco trivial .nil (by simp) (by simp) (.inl rfl) (by simp) hun hk
theorem CT {t : Nat} {x y : Code} (hb : s t = .bool true) (h : AW Try.prog n c0 w0 x Q s H N) (ht : decide (t<n)=true:=by decide) : AW Try.prog n c0 w0 (.cond (.tmp t) x y) Q s H N:=AW.condT ht hb h
theorem CF {t : Nat} {x y : Code} (hb : s t = .bool false) (h : AW Try.prog n c0 w0 y Q s H N) (ht : decide (t<n)=true:=by decide) : AW Try.prog n c0 w0 (.cond (.tmp t) x y) Q s H N:=AW.condF ht hb h
theorem EN {f : FuncId} {fn : Func} {code : Code} {args : List AV} {O : List Aau} {r : AV} {O' : List (Option Aau)} (hf : Try.prog.funcs[f]? = some fn)
 (h : ∀ (c0 : Cx) (w0 : World) (Q : Acj),Ab8 c0 O.length→(∀ s H N,Afx Try.prog s H fn.results.toList r→(∀ i,i<O'.length→H i=nth O' i)→Q .ret s H N∧Q .normal s H N)→AW Try.prog fn.ntmps c0 w0 code Q (AnG args) (fun i=>O[i]?) O.length)
 (hb : fn.body=some code:=by rfl) (hm : args.length≤fn.ntmps:=by simp) (hin : Ag7 fn.ntmps fn.results.toList=true:=by decide)
 (len : O.length≤O'.length:=by simp) (ga : gdL (· < O.length) args:=by simp) (gO : ∀ o ∈ O,gdO (· < O.length) o:=by simp) (gr : gd (fun i=>(nth O' i).isSome=true) r:=by simp) (gO' : ∀ o,some o ∈ O'→gdO (fun i=>(nth O' i).isSome=true) o:=by simp) : AbF Try.prog f args O r O':=AbF.enter hf hb hm hin len ga gO gr gO' h
theorem NX {α : Type} {F : Nat→α→Prop} {L : α→List (Nat×AV)} {O : α→List (Nat×Aau)} {M k k' : Nat} (y : α) (hF : F k' y) (h1 : ∀ p ∈ L y,s p.1=p.2) (h2 : ∀ p ∈ O y,H p.1=some p.2) (hk : k'<k:=by omega) (hN : N≤M:=by simp) :
 Abs.Can n c0 w0 s H N (fun a w=>∃ k' y,k'<k∧F k' y∧St n c0 w0 (mkS (L y)) (mkH (O y)) M a w):=Abs.Can.next y hk hF h1 h2 hN
theorem JN {α : Type} {F : α→Prop} {L : α→List (Nat×AV)} {O : α→List (Nat×Aau)} {M : Nat} (y : α) (hF : F y) (h1 : ∀ p ∈ L y,s p.1=p.2) (h2 : ∀ p ∈ O y,H p.1=some p.2) (hN : N≤M:=by simp) :
 Abs.Can n c0 w0 s H N (fun a w=>∃ y,F y∧St n c0 w0 (mkS (L y)) (mkH (O y)) M a w):=Abs.Can.join y hF h1 h2 hN
end
@[simp↓] theorem Asr {P : Program} {mu : List Nat} {d : Option Nat} {s : Nat→AV} {H : Aao} {N : Nat} {K : CK} {y : Operand} : bop P mu d s H N K (.move y)=K (ev s y) H N [] []:=bop.eq_1 ..
@[simp↓] theorem Ass {P : Program} {mu : List Nat} {d : Option Nat} {s : Nat→AV} {H : Aao} {N : Nat} {K : CK} {y : Operand} : bop P mu d s H N K (.assign y)=K (ev s y) H N [] []:=bop.eq_2 ..
@[simp] theorem t0 : AcS Try.prog 0=some false∧Aba Try.prog 0=some 1:=by and_intros <;> kernel_rfl
@[simp] theorem t1 : AcS Try.prog 1=some false∧Aba Try.prog 1=some 1∧Abr Try.prog 1=some [AV.nilfn]∧Abn Try.prog 1=some AV.nilfn:=by and_intros <;> kernel_rfl
@[simp] theorem t2 : AcS Try.prog 2=some false∧Aba Try.prog 2=some 1∧Abr Try.prog 2=some [AV.int .i64 0]∧Abn Try.prog 2=some (AV.int .i64 0)∧AjR Try.prog 2=some IntKind.i64:=by and_intros <;> kernel_rfl
@[simp] theorem t3 : AcS Try.prog 3=some false∧Aba Try.prog 3=some 1∧Abr Try.prog 3=some [AV.int .i64 0]∧Abn Try.prog 3=some (AV.int .i64 0)∧AjR Try.prog 3=some IntKind.i64:=by and_intros <;> kernel_rfl
@[simp] theorem t4 : AcS Try.prog 4=some false∧Aba Try.prog 4=some 1∧Abr Try.prog 4=some [AV.bool false]∧Abn Try.prog 4=some (AV.bool false)∧Try.prog.underlying 4=some Go.TypeDesc.bool:=by and_intros <;> kernel_rfl
@[simp] theorem t5 : AcS Try.prog 5=some false∧Aba Try.prog 5=some 1∧Abr Try.prog 5=some [AV.int .u8 0]∧Abn Try.prog 5=some (AV.int .u8 0)∧AjR Try.prog 5=some IntKind.u8:=by and_intros <;> kernel_rfl
@[simp] theorem t9 : AkF Try.prog 9=true∧AcS Try.prog 9=some false∧Aba Try.prog 9=some 1∧Abr Try.prog 9=some [AV.str { data := { toList:=[] } }]∧Abn Try.prog 9=some (AV.str { data := { toList:=[] } })∧Acs Try.prog 9=true:=by and_intros <;> kernel_rfl
@[simp] theorem t22 : Aa6 Try.prog 22=some (3,1,8)∧AlF Try.prog 22=true∧AcS Try.prog 22=some false∧Aba Try.prog 22=some 1∧Abr Try.prog 22=some [AV.lst true true []]∧Abn Try.prog 22=some (AV.lst true true [])∧Acs Try.prog 22=true∧Try.prog.underlying 22=some (Go.TypeDesc.slice 3):=by and_intros <;> kernel_rfl
@[simp] theorem t27 : Aa6 Try.prog 27=some (65,3,24)∧AlF Try.prog 27=true∧AcS Try.prog 27=some false∧Aba Try.prog 27=some 1∧Abr Try.prog 27=some [AV.lst true true []]∧Abn Try.prog 27=some (AV.lst true true [])∧Acs Try.prog 27=true∧Try.prog.underlying 27=some (Go.TypeDesc.slice 65):=by and_intros <;> kernel_rfl
@[simp] theorem t29 : AcS Try.prog 29=some true∧Aba Try.prog 29=some 3∧Abr Try.prog 29=some [AV.int .i64 0,AV.lst true true [],AV.lst true true []]∧Abn Try.prog 29=some (AV.agg [AV.int .i64 0,AV.lst true true [],AV.lst true true []])∧Acf Try.prog 29=true:=by and_intros <;> kernel_rfl
@[simp] theorem t35 : Aa6 Try.prog 35=some (46,3,24)∧AlF Try.prog 35=true∧AcS Try.prog 35=some false∧Aba Try.prog 35=some 1∧Abr Try.prog 35=some [AV.lst true true []]∧Abn Try.prog 35=some (AV.lst true true [])∧Acs Try.prog 35=true∧Try.prog.underlying 35=some (Go.TypeDesc.slice 46):=by and_intros <;> kernel_rfl
@[simp] theorem t37 : AcS Try.prog 37=some true∧Aba Try.prog 37=some 2∧Abr Try.prog 37=some [AV.int .i64 0,AV.lst true true []]∧Abn Try.prog 37=some (AV.agg [AV.int .i64 0,AV.lst true true []])∧Acf Try.prog 37=true:=by and_intros <;> kernel_rfl
@[simp] theorem t46 : AcS Try.prog 46=some true∧Aba Try.prog 46=some 3∧Abr Try.prog 46=some [AV.int .i64 0,AV.int .i64 0,AV.int .i64 0]∧Abn Try.prog 46=some (AV.agg [AV.int .i64 0,AV.int .i64 0,AV.int .i64 0])∧Acf Try.prog 46=true∧Anz Try.prog 46=some [Abk.int .i64,Abk.int .i64,Abk.int .i64]:=by and_intros <;> kernel_rfl
@[simp] theorem t56 : Aa6 Try.prog 56=some (22,1,24)∧AlF Try.prog 56=true∧AcS Try.prog 56=some false∧Aba Try.prog 56=some 1∧Abr Try.prog 56=some [AV.lst true true []]∧Abn Try.prog 56=some (AV.lst true true [])∧Acs Try.prog 56=true∧Try.prog.underlying 56=some (Go.TypeDesc.slice 22):=by and_intros <;> kernel_rfl
@[simp] theorem t57 : AcS Try.prog 57=some true∧Aba Try.prog 57=some 3∧Abr Try.prog 57=some [AV.int .i64 0,AV.int .i64 0,AV.int .i64 0]∧Ae4 Try.prog 57=some (3,1)∧Abn Try.prog 57=some (AV.agg [AV.int .i64 0,AV.int .i64 0,AV.int .i64 0])∧Acf Try.prog 57=true∧AnD Try.prog 57=some (3,Abk.int .i64):=by and_intros <;> kernel_rfl
@[simp] theorem t63 : AcS Try.prog 63=some false∧Aba Try.prog 63=some 1∧Abr Try.prog 63=some [AV.int .u64 0]∧Abn Try.prog 63=some (AV.int .u64 0)∧AjR Try.prog 63=some IntKind.u64:=by and_intros <;> kernel_rfl
@[simp] theorem t65 : AcS Try.prog 65=some true∧Aba Try.prog 65=some 3∧Abr Try.prog 65=some [AV.int .i64 0,AV.int .i64 0,AV.int .i64 0]∧Abn Try.prog 65=some (AV.agg [AV.int .i64 0,AV.int .i64 0,AV.int .i64 0])∧Acf Try.prog 65=true∧Anz Try.prog 65=some [Abk.int .i64,Abk.int .i64,Abk.int .i64]:=by and_intros <;> kernel_rfl
@[simp] theorem t73 : AcS Try.prog 73=some true∧Aba Try.prog 73=some 2∧Abr Try.prog 73=some [AV.lst true true [],AV.int .i64 0]∧Abn Try.prog 73=some (AV.agg [AV.lst true true [],AV.int .i64 0])∧Acf Try.prog 73=true:=by and_intros <;> kernel_rfl
@[simp] theorem t88 : AcS Try.prog 88=some false∧Aba Try.prog 88=some 1∧Abr Try.prog 88=some [AV.nilmap]∧Abn Try.prog 88=some AV.nilmap∧Aea Try.prog 88=some (Abk.int .i64,AV.bool false):=by and_intros <;> kernel_rfl
@[simp] theorem t91 : Aa6 Try.prog 91=some (4,1,1)∧AlF Try.prog 91=true∧AcS Try.prog 91=some false∧Aba Try.prog 91=some 1∧Abr Try.prog 91=some [AV.lst true true []]∧Abn Try.prog 91=some (AV.lst true true [])∧Acs Try.prog 91=true∧Try.prog.underlying 91=some (Go.TypeDesc.slice 4):=by and_intros <;> kernel_rfl
@[simp] theorem t93 : AcS Try.prog 93=some true∧Aba Try.prog 93=some 8∧Abr Try.prog 93=some [AV.int .i64 0,AV.lst true true [],AV.lst true true [],AV.int .i64 0,AV.int .i64 0,AV.int .i64 0,AV.nilmap,AV.bool false]∧Abn Try.prog 93=some (AV.agg [AV.int .i64 0,AV.lst true true [],AV.lst true true [],AV.int .i64 0,AV.int .i64 0,AV.int .i64 0,AV.nilmap,AV.bool false])∧Acf Try.prog 93=true:=by and_intros <;> kernel_rfl
@[simp] theorem t98 : AcS Try.prog 98=some false∧Aba Try.prog 98=some 1∧Abr Try.prog 98=some [AV.nilmap]∧Abn Try.prog 98=some AV.nilmap∧Aea Try.prog 98=some (Abk.int .i64,AV.int .i64 0):=by and_intros <;> kernel_rfl
@[simp] theorem AtV : Aa6 Try.prog 106=some (122,1,24)∧AlF Try.prog 106=true∧AcS Try.prog 106=some false∧Aba Try.prog 106=some 1∧Abr Try.prog 106=some [AV.lst true true []]∧Abn Try.prog 106=some (AV.lst true true [])∧Acs Try.prog 106=true∧Try.prog.underlying 106=some (Go.TypeDesc.slice 122):=by and_intros <;> kernel_rfl
@[simp] theorem AtU : AcS Try.prog 108=some true∧Aba Try.prog 108=some 4∧Abr Try.prog 108=some [AV.int .i64 0,AV.lst true true [],AV.lst true true [],AV.lst true true []]∧Abn Try.prog 108=some (AV.agg [AV.int .i64 0,AV.lst true true [],AV.lst true true [],AV.lst true true []])∧Acf Try.prog 108=true:=by and_intros <;> kernel_rfl
@[simp] theorem AtT : AcS Try.prog 112=some false∧Aba Try.prog 112=some 1∧Abr Try.prog 112=some [AV.nilmap]∧Abn Try.prog 112=some AV.nilmap∧Aea Try.prog 112=some (Abk.int .i64,AV.lst true true []):=by and_intros <;> kernel_rfl
@[simp] theorem AtS : Aa6 Try.prog 122=some (124,2,16)∧AlF Try.prog 122=true∧AcS Try.prog 122=some false∧Aba Try.prog 122=some 1∧Abr Try.prog 122=some [AV.lst true true []]∧Abn Try.prog 122=some (AV.lst true true [])∧Acs Try.prog 122=true∧Try.prog.underlying 122=some (Go.TypeDesc.slice 124):=by and_intros <;> kernel_rfl
@[simp] theorem AtR : AcS Try.prog 124=some true∧Aba Try.prog 124=some 2∧Abr Try.prog 124=some [AV.int .i64 0,AV.bool false]∧Abn Try.prog 124=some (AV.agg [AV.int .i64 0,AV.bool false])∧Acf Try.prog 124=true∧Anz Try.prog 124=some [Abk.int .i64,Abk.bool]:=by and_intros <;> kernel_rfl
@[simp] theorem AtQ : AcS Try.prog 125=some false∧Aba Try.prog 125=some 1∧Abr Try.prog 125=some [AV.nilmap]∧Abn Try.prog 125=some AV.nilmap∧Aea Try.prog 125=some (Abk.int .i64,AV.agg [AV.int .i64 0,AV.bool false]):=by and_intros <;> kernel_rfl
@[simp] theorem AtP : AdF Try.prog 29 0=some (0,1)∧Ab1 Try.prog 29 0=some 0∧Ab9 Try.prog 29 0=some (0,none)∧AdF Try.prog 29 1=some (1,1)∧Ab1 Try.prog 29 1=some 1∧Ab9 Try.prog 29 1=some (1,none)∧AdF Try.prog 29 2=some (2,1)∧Ab1 Try.prog 29 2=some 2∧Ab9 Try.prog 29 2=some (2,none):=by and_intros <;> kernel_rfl
@[simp] theorem AtO : AdF Try.prog 37 0=some (0,1)∧Ab1 Try.prog 37 0=some 0∧Ab9 Try.prog 37 0=some (0,none)∧AdF Try.prog 37 1=some (1,1)∧Ab1 Try.prog 37 1=some 1∧Ab9 Try.prog 37 1=some (1,none):=by and_intros <;> kernel_rfl
@[simp] theorem AtN : AdF Try.prog 46 0=some (0,1)∧Ab1 Try.prog 46 0=some 0∧Ab9 Try.prog 46 0=some (0,none)∧AdF Try.prog 46 1=some (1,1)∧Ab1 Try.prog 46 1=some 1∧Ab9 Try.prog 46 1=some (1,none)∧AdF Try.prog 46 2=some (2,1)∧Ab1 Try.prog 46 2=some 2∧Ab9 Try.prog 46 2=some (2,none):=by and_intros <;> kernel_rfl
@[simp] theorem AtM : AdF Try.prog 65 0=some (0,1)∧Ab1 Try.prog 65 0=some 0∧Ab9 Try.prog 65 0=some (0,none)∧AdF Try.prog 65 1=some (1,1)∧Ab1 Try.prog 65 1=some 1∧Ab9 Try.prog 65 1=some (1,none)∧AdF Try.prog 65 2=some (2,1)∧Ab1 Try.prog 65 2=some 2∧Ab9 Try.prog 65 2=some (2,none):=by and_intros <;> kernel_rfl
@[simp] theorem AtL : AdF Try.prog 73 0=some (0,1)∧Ab1 Try.prog 73 0=some 0∧Ab9 Try.prog 73 0=some (0,none)∧AdF Try.prog 73 1=some (1,1)∧Ab1 Try.prog 73 1=some 1∧Ab9 Try.prog 73 1=some (1,none):=by and_intros <;> kernel_rfl
@[simp] theorem AtK : AdF Try.prog 93 0=some (0,3)∧Ab1 Try.prog 93 0=some 0∧Ab9 Try.prog 93 0=some (0,some 3)∧AdF Try.prog 93 1=some (3,1)∧Ab1 Try.prog 93 1=some 3∧Ab9 Try.prog 93 1=some (3,none)∧AdF Try.prog 93 2=some (4,1)∧Ab1 Try.prog 93 2=some 4∧Ab9 Try.prog 93 2=some (4,none)∧AdF Try.prog 93 3=some (5,1)∧Ab1 Try.prog 93 3=some 5∧Ab9 Try.prog 93 3=some (5,none)∧AdF Try.prog 93 4=some (6,1)∧Ab1 Try.prog 93 4=some 6∧Ab9 Try.prog 93 4=some (6,none)∧AdF Try.prog 93 5=some (7,1)∧Ab1 Try.prog 93 5=some 7∧Ab9 Try.prog 93 5=some (7,none):=by and_intros <;> kernel_rfl
@[simp] theorem AtJ : AdF Try.prog 108 0=some (0,2)∧Ab1 Try.prog 108 0=some 0∧Ab9 Try.prog 108 0=some (0,some 2)∧AdF Try.prog 108 1=some (2,1)∧Ab1 Try.prog 108 1=some 2∧Ab9 Try.prog 108 1=some (2,none)∧AdF Try.prog 108 2=some (3,1)∧Ab1 Try.prog 108 2=some 3∧Ab9 Try.prog 108 2=some (3,none):=by and_intros <;> kernel_rfl
@[simp] theorem AtI : AdF Try.prog 124 0=some (0,1)∧Ab1 Try.prog 124 0=some 0∧Ab9 Try.prog 124 0=some (0,none)∧AdF Try.prog 124 1=some (1,1)∧Ab1 Try.prog 124 1=some 1∧Ab9 Try.prog 124 1=some (1,none):=by and_intros <;> kernel_rfl
@[simp] theorem c0 : Aab Try.prog 6=true∧Aab Try.prog 9=true∧Aab Try.prog 11=true∧Aab Try.prog 12=true∧Aab Try.prog 16=true∧Aab Try.prog 20=true∧Aab Try.prog 23=true∧Aab Try.prog 24=true∧Aab Try.prog 27=true∧Aab Try.prog 28=true∧Aab Try.prog 29=true∧Aab Try.prog 30=true∧Aab Try.prog 31=true∧Aab Try.prog 32=true∧Aab Try.prog 34=true∧Aab Try.prog 35=true∧Aab Try.prog 36=true∧Aab Try.prog 37=true∧Aab Try.prog 38=true∧Aab Try.prog 39=true∧Aab Try.prog 45=true∧Aab Try.prog 46=true∧Aab Try.prog 47=true∧Aab Try.prog 48=true∧Aab Try.prog 49=true∧Aab Try.prog 52=true∧Aab Try.prog 55=true∧Aab Try.prog 56=true∧Aab Try.prog 57=true∧Aab Try.prog 58=true:=by and_intros <;> kernel_rfl
@[simp] theorem c30 : Aab Try.prog 59=true∧Aab Try.prog 60=true∧Aab Try.prog 61=true∧Aab Try.prog 62=true∧Aab Try.prog 63=true∧Aab Try.prog 64=true∧Aab Try.prog 65=true∧Aab Try.prog 66=true∧Aab Try.prog 67=true∧Aab Try.prog 68=true∧Aab Try.prog 69=true∧Aab Try.prog 70=true∧Aab Try.prog 71=true∧Aab Try.prog 75=true∧Aab Try.prog 76=true∧Aab Try.prog 77=true∧Aab Try.prog 78=true∧Aab Try.prog 79=true∧Aab Try.prog 80=true∧Aab Try.prog 81=true∧Aab Try.prog 84=true∧Aab Try.prog 85=true∧Aab Try.prog 86=true∧Aab Try.prog 87=true∧Aab Try.prog 88=true∧Aab Try.prog 89=true∧Aab Try.prog 90=true∧Aab Try.prog 91=true∧Aab Try.prog 92=true∧Aab Try.prog 99=true:=by and_intros <;> kernel_rfl
@[simp] theorem c60 : Aab Try.prog 100=true∧Aab Try.prog 102=true∧Aab Try.prog 103=true∧Aab Try.prog 104=true∧Aab Try.prog 105=true∧Aab Try.prog 107=true∧Aab Try.prog 108=true∧Aab Try.prog 112=true∧Aab Try.prog 113=true∧Aab Try.prog 116=true∧Aab Try.prog 117=true∧Aab Try.prog 118=true∧Aab Try.prog 119=true∧Aab Try.prog 120=true∧Aab Try.prog 121=true∧Aab Try.prog 122=true∧Aab Try.prog 123=true∧Aab Try.prog 124=true∧Aab Try.prog 125=true∧Aab Try.prog 126=true∧Aab Try.prog 127=true∧Aab Try.prog 128=true∧Aab Try.prog 129=true∧Aab Try.prog 130=true∧Aab Try.prog 131=true∧Aab Try.prog 132=true∧Aab Try.prog 133=true∧Aab Try.prog 134=true:=by and_intros <;> kernel_rfl
def dlt {β : Type} : List (Nat×β)→List Nat→List (Nat×β)→List (Nat×β)
 | [],_,al=>al
 | p::l,dl,al=>if dl.contains p.1 then dlt l dl al else p::dlt l dl al
section
variable {n : Nat} {c0 : Cx} {w0 : World} {Q : Acj} {N : Nat} {l0 l1 : List (Nat×AV)} {o0 o1 : List (Nat×Aau)} {Φ : Prop}
abbrev Kt (n : Nat) (c0 : Cx) (w0 : World) (y : Code) (Q : Acj) (l0 : List (Nat×AV)) (o0 : List (Nat×Aau)) (K : (Nat→AV)→Aao→Nat→Prop) : Prop:=∀ s' H' N',AW Try.prog n c0 w0 y Q s' H' N'→K s' H' N'
theorem SR {id : Nat} {ops : List Oper} {draw : Bool} {y : Code} (mu : List Nat) (gs : List (Option (Nat×Bool)))
 (h : ∀ (G : Log→Prop) (K : (Nat→AV)→Aao→Nat→Prop),(∀ lg,(!draw||AdH ops lg)=true→G lg)→Kt n c0 w0 y Q l0 o0 K→Aee Try.prog mu ops gs (mkS l0) (mkH o0) N [] (fun s' H' N' lg=>G lg∧K s' H' N'))
 (hok : Ai1 n ops gs=true:=by kernel_rfl) : AW Try.prog n c0 w0 (.seq (.region id ops.toArray draw) y) Q (mkS l0) (mkH o0) N:=AW.seqR Amn mu gs hok h
theorem TL {A : Prop} {G : Log→Prop} {c : Log→Bool} {y : Code} {K : (Nat→AV)→Aao→Nat→Prop} (F : Φ) (g : ∀ lg,c lg=true→G lg) (r : Kt n c0 w0 y Q l0 o0 K) (dl : List Nat) (al : List (Nat×AV)) (dh : List Nat) (ah : List (Nat×Aau)) (M : Nat) (k : AW Try.prog n c0 w0 y Q (mkS l1) (mkH o1) M)
 (e1 : dlt l0 dl al=l1:=by simp only [dlt,List.contains_cons,List.contains_nil,Nat.reduceBEq,Bool.or_false,Bool.or_true,Bool.or_self,Bool.false_eq_true,reduceIte] <;> rfl) (e2 : dlt o0 dh ah=o1:=by simp only [dlt,List.contains_cons,List.contains_nil,Nat.reduceBEq,Bool.or_false,Bool.or_true,Bool.or_self,Bool.false_eq_true,reduceIte] <;> rfl)
 (h : Φ→(∀ lg,c lg=true→G lg)→(∀ s' H' N',(∀ p ∈ l1,s' p.1=p.2)→(∀ p ∈ o1,H' p.1=some p.2)→N'≤M→K s' H' N')→A:=by intro F g r; try simp [F]; and_intros <;> first | exact g _ (by kernel_rfl) | exact r _ _ _ (by simp [F]) (by simp [F]) (by simp) | omega | (simp [F,maxLen] <;> omega)) : A :=
 h F g fun _ _ _ h1 h2 h3=>r _ _ _ (WK l1 o1 M h1 h2 k h3)
theorem SW {id : Nat} {ops : List Oper} {draw : Bool} {y : Code} (F : Φ) (mu : List Nat) (gs : List (Option (Nat×Bool))) (dl : List Nat) (al : List (Nat×AV)) (dh : List Nat) (ah : List (Nat×Aau)) (M : Nat) (k : AW Try.prog n c0 w0 y Q (mkS l1) (mkH o1) M)
 (e1 : dlt l0 dl al=l1:=by simp only [dlt,List.contains_cons,List.contains_nil,Nat.reduceBEq,Bool.or_false,Bool.or_true,Bool.or_self,Bool.false_eq_true,reduceIte] <;> rfl) (e2 : dlt o0 dh ah=o1:=by simp only [dlt,List.contains_cons,List.contains_nil,Nat.reduceBEq,Bool.or_false,Bool.or_true,Bool.or_self,Bool.false_eq_true,reduceIte] <;> rfl)
 (h : ∀ (G : Log→Prop) (K : (Nat→AV)→Aao→Nat→Prop),Φ→(∀ lg,(!draw||AdH ops lg)=true→G lg)→(∀ s' H' N',(∀ p ∈ l1,s' p.1=p.2)→(∀ p ∈ o1,H' p.1=some p.2)→N'≤M→K s' H' N')→Aee Try.prog mu ops gs (mkS l0) (mkH o0) N [] (fun s' H' N' lg=>G lg∧K s' H' N'):=by intro G K F g r; try simp [F]; and_intros <;> first | exact g _ (by kernel_rfl) | exact r _ _ _ (by simp [F]) (by simp [F]) (by simp) | omega | (simp [F,maxLen] <;> omega))
 (hok : Ai1 n ops gs=true:=by kernel_rfl) : AW Try.prog n c0 w0 (.seq (.region id ops.toArray draw) y) Q (mkS l0) (mkH o0) N :=
 SQ mu gs (fun G K g r=>h G K F g fun _ _ _ h1 h2 h3=>r _ _ _ (WK l1 o1 M h1 h2 k h3)) hok
theorem CL {id : Nat} {ops : List Oper} {draw : Bool} {y : Code} {Ψ : Prop} (F : Φ) (mu : List Nat) (gs : List (Option (Nat×Bool))) (hc : Ψ) (dl : List Nat) (al : List (Nat×AV)) (dh : List Nat) (ah : List (Nat×Aau)) (M : Nat) (k : AW Try.prog n c0 w0 y Q (mkS l1) (mkH o1) M)
 (e1 : dlt l0 dl al=l1:=by simp only [dlt,List.contains_cons,List.contains_nil,Nat.reduceBEq,Bool.or_false,Bool.or_true,Bool.or_self,Bool.false_eq_true,reduceIte] <;> rfl) (e2 : dlt o0 dh ah=o1:=by simp only [dlt,List.contains_cons,List.contains_nil,Nat.reduceBEq,Bool.or_false,Bool.or_true,Bool.or_self,Bool.false_eq_true,reduceIte] <;> rfl)
 (h : ∀ (G : Log→Prop) (K : (Nat→AV)→Aao→Nat→Prop),Φ→Ψ→(∀ lg,(!draw||AdH ops lg)=true→G lg)→(∀ s' H' N',(∀ p ∈ l1,s' p.1=p.2)→(∀ p ∈ o1,H' p.1=some p.2)→N'≤M→K s' H' N')→Aee Try.prog mu ops gs (mkS l0) (mkH o0) N [] (fun s' H' N' lg=>G lg∧K s' H' N'):=by intro G K F hc g r; try simp [F]; and_intros; (try any_goals (first | omega | (simp [F,maxLen] <;> omega))); refine AC hc (by first | exact .nil | (repeat' first | exact .nil | refine .cons (.same (by simp [F])) ?_)) ?_; try simp [F]; and_intros <;> first | exact g _ (by kernel_rfl) | exact r _ _ _ (by simp [F]) (by simp [F]) (by simp) | omega | (simp [F,maxLen] <;> omega))
 (hok : Ai1 n ops gs=true:=by kernel_rfl) : AW Try.prog n c0 w0 (.seq (.region id ops.toArray draw) y) Q (mkS l0) (mkH o0) N :=
 SQ mu gs (fun G K g r=>h G K F hc g fun _ _ _ h1 h2 h3=>r _ _ _ (WK l1 o1 M h1 h2 k h3)) hok
end
end Go.Proofs.YtelffnegemdicaaPcT
namespace Go.TF
open Go Go.Abs
end Go.TF
