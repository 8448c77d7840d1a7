import Derived.Test.YtelffnegemdicaaFzLay27
import Derived.Test.YtelffnegemdicaaFzLay22
import Derived.Test.YtelffnegemdicaaProg
import Derived.KernelRfl
set_option linter.unusedVariables false
set_option maxRecDepth 100000
namespace Go.TF
open Go Go.Abs
abbrev Iz (n : Int) : AV := .int .i64 n
abbrev Lz (l : List Int) : AV := .lst false false (l.map (.int .i64))
abbrev Lb (l : List Int) : AV := .lst false false (l.map (.int .u8))
abbrev Lw (l : List Int) : AV := .lst false false (l.map (.int .u32))
structure AaC where
  From : Int
  To : Int
  Cap : Int
@[simp] def AaC.av (x : AaC) : AV:=AV.agg [AV.int .i64 x.From,AV.int .i64 x.To,AV.int .i64 x.Cap]
@[simp] theorem AaC.okEls (l : List AaC) : okEls 3 (l.map AaC.av)↔True:=iff_true_intro (Acs.2 fun x hx=>by
  simp only [List.mem_map] at hx
  obtain ⟨b,_,rfl⟩:=hx
  simp)
@[simp] theorem AaC.gdF (S : Nat→Prop) (l : List AaC) : gdL S (AaL (l.map AaC.av))↔True:=iff_true_intro (AiI (by simp) l)
@[simp] theorem AaC.frF (l : List AaC) : Ach (AaL (l.map AaC.av))=true:=AfN (by simp) l
@[simp] theorem AaC.renF (σ : Nat→Nat) (l : List AaC) : Adg σ (AaL (l.map AaC.av))=AaL (l.map AaC.av):=Agi (by simp) l
@[simp] theorem AaC.lenF (l : List AaC) : (AaL (l.map AaC.av)).length=l.length*3:=Ab5 (F:=AaC.av) (fun _=>rfl) l
@[simp↓] theorem AaC.oneF (l : List AaC) : (AaL (l.map AaC.av)).all AV.one=true:=Ah7 (by simp) l
@[simp] theorem AaC.ids (S : Nat→Prop) (l : List AaC) : AbW S (l.map AaC.av)↔True:=iff_true_intro (Af6 (by simp) l)
structure AaB where
  arc : Int
  back : Bool
@[simp] def AaB.av (x : AaB) : AV:=AV.agg [AV.int .i64 x.arc,AV.bool x.back]
@[simp] theorem AaB.okEls (l : List AaB) : okEls 2 (l.map AaB.av)↔True:=iff_true_intro (Acs.2 fun x hx=>by
  simp only [List.mem_map] at hx
  obtain ⟨b,_,rfl⟩:=hx
  simp)
@[simp] theorem AaB.gdF (S : Nat→Prop) (l : List AaB) : gdL S (AaL (l.map AaB.av))↔True:=iff_true_intro (AiI (by simp) l)
@[simp] theorem AaB.frF (l : List AaB) : Ach (AaL (l.map AaB.av))=true:=AfN (by simp) l
@[simp] theorem AaB.renF (σ : Nat→Nat) (l : List AaB) : Adg σ (AaL (l.map AaB.av))=AaL (l.map AaB.av):=Agi (by simp) l
@[simp] theorem AaB.lenF (l : List AaB) : (AaL (l.map AaB.av)).length=l.length*2:=Ab5 (F:=AaB.av) (fun _=>rfl) l
@[simp↓] theorem AaB.oneF (l : List AaB) : (AaL (l.map AaB.av)).all AV.one=true:=Ah7 (by simp) l
@[simp] theorem AaB.mpR (σ : Nat→Nat) (k : IntKind) (l : List (Int×AaB)) : AfT σ (.mp (mpA (AV.int k) AaB.av l)) = .mp (mpA (AV.int k) AaB.av l):=AkU σ _ _ l (by simp) (by simp)
@[simp] theorem AaB.mpG (S : Nat→Prop) (k : IntKind) (l : List (Int×AaB)) : gdO S (.mp (mpA (AV.int k) AaB.av l))↔True:=Al8 S _ _ l (by simp) (by simp)
@[simp] theorem AaB.mpF (k : IntKind) (l : List (Int×AaB)) : Afn (.mp (mpA (AV.int k) AaB.av l))=true:=AlD _ _ l (by simp) (by simp)
@[simp] theorem AaB.mpPR (σ : Nat→Nat) (k : IntKind) (l : List (Int×AaB)) (i : Int) (f0 : Int) (f1 : Bool) : AfT σ (.mp (Ady (mpA (AV.int k) AaB.av l) (AV.int k i) (AV.agg [AV.int .i64 f0,AV.bool f1]))) = .mp (Ady (mpA (AV.int k) AaB.av l) (AV.int k i) (AV.agg [AV.int .i64 f0,AV.bool f1])):=by
  have h:=AaB.mpR σ k (AgC l i (AaB.mk f0 f1))
  rw [Ah9] at h; exact h
@[simp] theorem AaB.mpPG (S : Nat→Prop) (k : IntKind) (l : List (Int×AaB)) (i : Int) (f0 : Int) (f1 : Bool) : gdO S (.mp (Ady (mpA (AV.int k) AaB.av l) (AV.int k i) (AV.agg [AV.int .i64 f0,AV.bool f1])))↔True:=by
  have h:=AaB.mpG S k (AgC l i (AaB.mk f0 f1))
  rw [Ah9] at h; exact h
@[simp] theorem AaB.ids (S : Nat→Prop) (l : List AaB) : AbW S (l.map AaB.av)↔True:=iff_true_intro (Af6 (by simp) l)
structure AaA where
  From : Int
  To : Int
  Level : Int
@[simp] def AaA.av (x : AaA) : AV:=AV.agg [AV.int .i64 x.From,AV.int .i64 x.To,AV.int .i64 x.Level]
@[simp] theorem AaA.okEls (l : List AaA) : okEls 3 (l.map AaA.av)↔True:=iff_true_intro (Acs.2 fun x hx=>by
  simp only [List.mem_map] at hx
  obtain ⟨b,_,rfl⟩:=hx
  simp)
@[simp] theorem AaA.gdF (S : Nat→Prop) (l : List AaA) : gdL S (AaL (l.map AaA.av))↔True:=iff_true_intro (AiI (by simp) l)
@[simp] theorem AaA.frF (l : List AaA) : Ach (AaL (l.map AaA.av))=true:=AfN (by simp) l
@[simp] theorem AaA.renF (σ : Nat→Nat) (l : List AaA) : Adg σ (AaL (l.map AaA.av))=AaL (l.map AaA.av):=Agi (by simp) l
@[simp] theorem AaA.lenF (l : List AaA) : (AaL (l.map AaA.av)).length=l.length*3:=Ab5 (F:=AaA.av) (fun _=>rfl) l
@[simp↓] theorem AaA.oneF (l : List AaA) : (AaL (l.map AaA.av)).all AV.one=true:=Ah7 (by simp) l
@[simp] theorem AaA.setR (σ : Nat→Nat) (l : List AaA) (i : Nat) (f0 : Int) (f1 : Int) (f2 : Int) : Adg σ (AaL ((l.map AaA.av).set i (AV.agg [AV.int .i64 f0,AV.int .i64 f1,AV.int .i64 f2])))=AaL ((l.map AaA.av).set i (AV.agg [AV.int .i64 f0,AV.int .i64 f1,AV.int .i64 f2])):=by
  have h:=AaA.renF σ (l.set i (AaA.mk f0 f1 f2))
  rw [List.map_set] at h; exact h
@[simp] theorem AaA.setG (S : Nat→Prop) (l : List AaA) (i : Nat) (f0 : Int) (f1 : Int) (f2 : Int) : gdL S (AaL ((l.map AaA.av).set i (AV.agg [AV.int .i64 f0,AV.int .i64 f1,AV.int .i64 f2])))↔True:=by
  have h:=AaA.gdF S (l.set i (AaA.mk f0 f1 f2))
  rw [List.map_set] at h; exact h
@[simp] theorem AaA.setF (l : List AaA) (i : Nat) (f0 : Int) (f1 : Int) (f2 : Int) : Ach (AaL ((l.map AaA.av).set i (AV.agg [AV.int .i64 f0,AV.int .i64 f1,AV.int .i64 f2])))=true:=by
  have h:=AaA.frF (l.set i (AaA.mk f0 f1 f2))
  rw [List.map_set] at h; exact h
@[simp] theorem AaA.len_take (i : Nat) (l : List AaA) : (AaL (List.take i (l.map AaA.av))).length=(l.take i).length*3:=by rw [← List.map_take]; exact AaA.lenF _
@[simp] theorem AaA.ren_take (σ : Nat→Nat) (i : Nat) (l : List AaA) : Adg σ (AaL (List.take i (l.map AaA.av)))=AaL (List.take i (l.map AaA.av)):=by rw [← List.map_take]; exact AaA.renF σ _
@[simp] theorem AaA.gd_take (S : Nat→Prop) (i : Nat) (l : List AaA) : gdL S (AaL (List.take i (l.map AaA.av)))↔True:=by rw [← List.map_take]; exact AaA.gdF S _
@[simp] theorem AaA.one_take (i : Nat) (l : List AaA) : (∀ x : AV,x ∈ AaL (List.take i (l.map AaA.av))→x.one=true)↔True:=iff_true_intro (List.all_eq_true.1 (by rw [← List.map_take]; exact AaA.oneF _))
@[simp] theorem AaA.len_drop (i : Nat) (l : List AaA) : (AaL (List.drop i (l.map AaA.av))).length=(l.drop i).length*3:=by rw [← List.map_drop]; exact AaA.lenF _
@[simp] theorem AaA.ren_drop (σ : Nat→Nat) (i : Nat) (l : List AaA) : Adg σ (AaL (List.drop i (l.map AaA.av)))=AaL (List.drop i (l.map AaA.av)):=by rw [← List.map_drop]; exact AaA.renF σ _
@[simp] theorem AaA.gd_drop (S : Nat→Prop) (i : Nat) (l : List AaA) : gdL S (AaL (List.drop i (l.map AaA.av)))↔True:=by rw [← List.map_drop]; exact AaA.gdF S _
@[simp] theorem AaA.ids (S : Nat→Prop) (l : List AaA) : AbW S (l.map AaA.av)↔True:=iff_true_intro (Af6 (by simp) l)
def Aev (k : Nat) (v0 : (List Int)) : Option Bool :=
  some (decide ((v0.length : Int)≤400))
def AbZ (k : Nat) (v0 : Int) (v1 : Int) (v2 : Int) : Option Bool :=
  if v1≤v0 then
    some (decide (v0≤v2))
  else
    some false
def AdD (k : Nat) (v0 : Int) (v1 : Int) (v2 : Int) (v3 : Int) (v4 : (List AaC)) : Option Bool :=
  Abe (AbZ k v0 0 (IntKind.wrap .i64 (v3-1))) fun v6 =>
  if (!v6)=true then
    some true
  else
    Abe (AbZ k v1 0 (IntKind.wrap .i64 (v3-1))) fun v7 =>
    if (!v7)=true then
      some true
    else
      if v0=v1 then
        some true
      else
        if v1=0 then
          some true
        else
          if v0=1 then
            some true
          else
            Abe (AbZ k v2 0 1048576) fun v8 =>
            some (!v8)
def AaQ.L1 (k : Nat) (v0 : (List AaC)) (v1 : Int) (v2 : (List AaC)) : Nat→Int→Option Int
  | 0,_=>none
  | n+1,v4 =>
    if v4<(v0.length : Int) then
      idx v0 v4 fun v5 =>
      Abe (AdD k v5.From v5.To v5.Cap v1 v2) fun v6 =>
      if v6=true then
        some v4
      else
        AaQ.L1 k v0 v1 v2 n (IntKind.wrap .i64 (v4+1))
    else
      some (-1)
def AaQ (k : Nat) (v0 : (List AaC)) (v1 : Int) (v2 : (List AaC)) : Option Int :=
  AaQ.L1 k v0 v1 v2 k 0
def Aa3 (k : Nat) (v0 : (List AaC)) (v1 : Int) (v2 : (List AaC)) : Option Bool :=
  Abe (AaQ k v0 v1 v2) fun v4 =>
  some (decide (0≤v4))
def Ac4 (k : Nat) (v0 : Int) (v1 : (List AaC)) : Option Int :=
  Abe (AbZ k v0 2 130) fun v3 =>
  if (!v3)=true then
    some 16
  else
    if 1200<(v1.length : Int) then
      some 16
    else
      Abe (Aa3 k v1 v0 v1) fun v4 =>
      if v4=true then
        some 16
      else
        some 0
def AbK (k : Nat) (v0 : (List Int)) : Option (List Int) :=
  chk (v0.length*8≤140737488355328) <| some v0
def AbU.S (v4 : (List (List AaB))) (x : Int) (e : AaB) (F : (List (List AaB))→Option (List (List AaB))) : Option (List (List AaB)) :=
  chk ((0 : Int)≤x∧x.toNat<v4.length) <|
  idx v4 x fun l =>
  chk ((l.length+([e] : List AaB).length)*16≤140737488355328) <|
  F (v4.set x.toNat (l++[e]))
def AbU.L1 (k : Nat) (v1 : (List AaC)) : Nat→Int→(List (List AaB))→Option (List (List AaB))
  | 0,_,_=>none
  | n+1,v3,v4 =>
    if v3<(v1.length : Int) then
      idx v1 v3 fun v5 =>
      AbU.S v4 v5.From ⟨v3,false⟩ fun v6 =>
      AbU.S v6 v5.To ⟨v3,true⟩ fun v7 =>
      AbU.L1 k v1 n (IntKind.wrap .i64 (v3+1)) v7
    else
      some v4
def AbU (k : Nat) (v0 : Int) (v1 : (List AaC)) (v2 : (List Int)) : Option (List (List AaB)) :=
  chk ((0 : Int)≤v0∧24*v0≤281474976710656) <|
  AbU.L1 k v1 k 0 (List.replicate v0.toNat ([] : List AaB))
def Abm (k : Nat) (v0 : Int) (v1 : (List AaC)) (v2 : (List Int)) (v3 : (List (List AaB))) (v4 : Int) (v5 : Bool) : Option (Int×Int) :=
  idx v1 v4 fun v8 =>
  if v5=true then
    idx v2 v4 fun v9 =>
    some (v9,v8.From)
  else
    idx v2 v4 fun v10 =>
    some (IntKind.wrap .i64 (v8.Cap-v10),v8.To)
def AaK.J3 (k : Nat) (v11 : Int) (kb2 : Nat→Int→(List (Int×AaB))→(List Int)→Option (List (Int×AaB))) (v14 : (List (Int×AaB))) (v15 : (List Int)) (v16 : Nat) : Option (List (Int×AaB)) :=
  kb2 v16 (IntKind.wrap .i64 (v11+1)) v14 v15
def AaK.J4 (k : Nat) (v10 : Nat) (v11 : Int) (v12 : (List (Int×AaB))) (v13 : (List Int)) (v17 : AaB) (v18 : Int) (v19 : Int) (kb2 : Nat→Int→(List (Int×AaB))→(List Int)→Option (List (Int×AaB))) (v20 : Bool) : Option (List (Int×AaB)) :=
  if 0<v18 then
    if (!v20)=true then
      chk (((v13.drop v10).length+([v19] : List Int).length)*8≤140737488355328∧v10≤v13.length) <|
      AaK.J3 k v11 kb2 (AgC v12 v19 v17) ((v13.drop v10)++([v19] : List Int)) 0
    else
      AaK.J3 k v11 kb2 v12 v13 v10
  else
    AaK.J3 k v11 kb2 v12 v13 v10
def AaK.L2 (k : Nat) (v0 : Int) (v1 : (List AaC)) (v2 : (List Int)) (v3 : (List (List AaB))) (v9 : (List AaB)) (kb1 : Nat→(List (Int×AaB))→(List Int)→Option (List (Int×AaB))) : Nat→Nat→Int→(List (Int×AaB))→(List Int)→Option (List (Int×AaB))
  | 0,_,_,_,_=>none
  | n+1,v10,v11,v12,v13 =>
    if v11<(v9.length : Int) then
      idx v9 v11 fun v17 =>
      AfD (Abm k v0 v1 v2 v3 v17.arc v17.back) fun v18 v19 =>
      Ao5 (Al4 v12 v19) (fun v21 =>
        AaK.J4 k v10 v11 v12 v13 v17 v18 v19 (fun v10_ v11_ v12_ v13_=>AaK.L2 k v0 v1 v2 v3 v9 kb1 n v10_ v11_ v12_ v13_) true
      ) <|
      AaK.J4 k v10 v11 v12 v13 v17 v18 v19 (fun v10_ v11_ v12_ v13_=>AaK.L2 k v0 v1 v2 v3 v9 kb1 n v10_ v11_ v12_ v13_) false
    else
      chk (0<v13.length∧(1 : Int)≤(((v13.length-v10) : Nat) : Int)) <|
      kb1 (v10+(1 : Int).toNat) v12 v13
def AaK.L1 (k : Nat) (v0 : Int) (v1 : (List AaC)) (v2 : (List Int)) (v3 : (List (List AaB))) : Nat→Nat→(List (Int×AaB))→(List Int)→Option (List (Int×AaB))
  | 0,_,_,_=>none
  | n+1,v5,v6,v7 =>
    if 0<(((v7.length-v5) : Nat) : Int) then
      chk ((0 : Int)≤0∧(0 : Int).toNat<(v7.length-v5)∧v5+(0 : Int).toNat<v7.length) <|
      idx v7 ((v5+(0 : Int).toNat : Nat) : Int) fun v8 =>
      idx v3 v8 fun v9 =>
      AaK.L2 k v0 v1 v2 v3 v9 (fun v5_ v6_ v7_=>AaK.L1 k v0 v1 v2 v3 n v5_ v6_ v7_) k v5 0 v6 v7
    else
      some v6
def AaK (k : Nat) (v0 : Int) (v1 : (List AaC)) (v2 : (List Int)) (v3 : (List (List AaB))) : Option (List (Int×AaB)) :=
  AaK.L1 k v0 v1 v2 v3 k 0 (AgC ([] : (List (Int×AaB))) 0 (AaB.mk (-1) false)) ([0] : List Int)
def AaM.J3 (k : Nat) (v0 : Int) (v1 : (List AaC)) (v2 : (List Int)) (v3 : (List (List AaB))) (v8 : Int) (v10 : (List AaB)) (kb2 : Int→Int→(List AaB)→Option (Bool×(List Int))) (v11 : Int) (v12 : Bool) : Option (Bool×(List Int)) :=
  AfD (Abm k v0 v1 v2 v3 v11 v12) fun v13 v14 =>
  chk ((v10.length+([(AaB.mk v11 v12)] : List AaB).length)*16≤140737488355328) <|
  Am7 (if v13<v8 then v13 else v8) fun v15 =>
  idx v1 v11 fun v16 =>
  if v12=true then
    kb2 v15 v16.To (v10++([(AaB.mk v11 v12)] : List AaB))
  else
    kb2 v15 v16.From (v10++([(AaB.mk v11 v12)] : List AaB))
def AaM.J5 (k : Nat) (v18 : Int) (kb4 : Int→(List Int)→Option (Bool×(List Int))) (v20 : (List Int)) : Option (Bool×(List Int)) :=
  kb4 (IntKind.wrap .i64 (v18+1)) v20
def AaM.L4 (k : Nat) (v8 : Int) (v10 : (List AaB)) : Nat→Int→(List Int)→Option (Bool×(List Int))
  | 0,_,_=>none
  | n+1,v18,v19 =>
    if v18<(v10.length : Int) then
      idx v10 v18 fun v21 =>
      if v21.back=true then
        chk ((0 : Int)≤v21.arc∧(v21.arc).toNat<v19.length) <|
        idx v19 v21.arc fun v22 =>
        chk ((0 : Int)≤v21.arc∧(v21.arc).toNat<v19.length) <|
        AaM.J5 k v18 (fun v18_ v19_=>AaM.L4 k v8 v10 n v18_ v19_) (v19.set (v21.arc).toNat (IntKind.wrap .i64 (v22-v8)))
      else
        chk ((0 : Int)≤v21.arc∧(v21.arc).toNat<v19.length) <|
        idx v19 v21.arc fun v23 =>
        chk ((0 : Int)≤v21.arc∧(v21.arc).toNat<v19.length) <|
        AaM.J5 k v18 (fun v18_ v19_=>AaM.L4 k v8 v10 n v18_ v19_) (v19.set (v21.arc).toNat (IntKind.wrap .i64 (v23+v8)))
    else
      some (true,v19)
def AaM.L2 (k : Nat) (v0 : Int) (v1 : (List AaC)) (v2 : (List Int)) (v3 : (List (List AaB))) (v6 : (List (Int×AaB))) : Nat→Int→Int→(List AaB)→Option (Bool×(List Int))
  | 0,_,_,_=>none
  | n+1,v8,v9,v10 =>
    if v9≠0 then
      Ao5 (Al4 v6 v9) (fun v17 =>
        AaM.J3 k v0 v1 v2 v3 v8 v10 (fun v8_ v9_ v10_=>AaM.L2 k v0 v1 v2 v3 v6 n v8_ v9_ v10_) v17.arc v17.back
      ) <|
      AaM.J3 k v0 v1 v2 v3 v8 v10 (fun v8_ v9_ v10_=>AaM.L2 k v0 v1 v2 v3 v6 n v8_ v9_ v10_) 0 false
    else
      AaM.L4 k v8 v10 k 0 v2
def AaM.J1 (k : Nat) (v0 : Int) (v1 : (List AaC)) (v2 : (List Int)) (v3 : (List (List AaB))) (v6 : (List (Int×AaB))) (v7 : Bool) : Option (Bool×(List Int)) :=
  if (!v7)=true then
    some (false,v2)
  else
    AaM.L2 k v0 v1 v2 v3 v6 k 1048576 1 ([] : List AaB)
def AaM (k : Nat) (v0 : Int) (v1 : (List AaC)) (v2 : (List Int)) (v3 : (List (List AaB))) : Option (Bool×(List Int)) :=
  Abe (AaK k v0 v1 v2 v3) fun v6 =>
  Ao5 (Al4 v6 1) (fun v24 =>
    AaM.J1 k v0 v1 v2 v3 v6 true
  ) <|
  AaM.J1 k v0 v1 v2 v3 v6 false
def Ab7.L1 (k : Nat) (v0 : Int) (v1 : (List AaC)) (v5 : (List (List AaB))) : Nat→(List Int)→Option (List Int)
  | 0,_=>none
  | n+1,v6 =>
    AfD (AaM k v0 v1 v6 v5) fun v7 v8 =>
    chk (v8.length=v6.length) <|
    if v7=true then
      Ab7.L1 k v0 v1 v5 n v8
    else
      some v8
def Ab7 (k : Nat) (v0 : Int) (v1 : (List AaC)) (v2 : (List Int)) : Option (List Int) :=
  Abe (AbK k v2) fun v4 =>
  Abe (AbU k v0 v1 v4) fun v5 =>
  Ab7.L1 k v0 v1 v5 k v4
def AeD (k : Nat) (v0 : Int) (v1 : (List AaC)) : Option ((List Int)×Int) :=
  Abe (Ac4 k v0 v1) fun v4 =>
  if v4≠0 then
    some (([] : List Int),v4)
  else
    chk ((0 : Int)≤(v1.length : Int)∧16*(v1.length : Int)≤281474976710656) <|
    Abe (Ab7 k v0 v1 (List.replicate ((v1.length : Int)).toNat (0 : Int))) fun v5 =>
    some (v5,0)
def Abp.L1 (k : Nat) (v1 : (List AaC)) (v2 : (List Int)) : Nat→Int→(List Int)→Option (List Int)
  | 0,_,_=>none
  | n+1,v4,v5 =>
    if v4<(v1.length : Int) then
      idx v1 v4 fun v6 =>
      chk ((0 : Int)≤v6.From∧(v6.From).toNat<v5.length) <|
      idx v5 v6.From fun v7 =>
      idx v2 v4 fun v8 =>
      chk ((0 : Int)≤v6.From∧(v6.From).toNat<v5.length) <|
      chk ((0 : Int)≤v6.To∧(v6.To).toNat<(v5.set (v6.From).toNat (IntKind.wrap .i64 (v7+v8))).length) <|
      idx (v5.set (v6.From).toNat (IntKind.wrap .i64 (v7+v8))) v6.To fun v9 =>
      chk ((0 : Int)≤v6.To∧(v6.To).toNat<(v5.set (v6.From).toNat (IntKind.wrap .i64 (v7+v8))).length) <|
      Abp.L1 k v1 v2 n (IntKind.wrap .i64 (v4+1)) ((v5.set (v6.From).toNat (IntKind.wrap .i64 (v7+v8))).set (v6.To).toNat (IntKind.wrap .i64 (v9-v8)))
    else
      some v5
def Abp (k : Nat) (v0 : Int) (v1 : (List AaC)) (v2 : (List Int)) : Option (List Int) :=
  chk ((0 : Int)≤v0∧16*v0≤281474976710656) <|
  Abp.L1 k v1 v2 k 0 (List.replicate (v0).toNat (0 : Int))
def Aei (k : Nat) (v0 : Int) : Option Bool :=
  some (v0 !=0)
def Aak.L1 (k : Nat) (v0 : (List Int)) : Nat→Int→Option Int
  | 0,_=>none
  | n+1,v2 =>
    if v2<(v0.length : Int) then
      idx v0 v2 fun v3 =>
      Abe (Aei k v3) fun v4 =>
      if v4=true then
        some v2
      else
        Aak.L1 k v0 n (IntKind.wrap .i64 (v2+1))
    else
      some (-1)
def Aak (k : Nat) (v0 : (List Int)) : Option Int :=
  Aak.L1 k v0 k 0
def AbX (k : Nat) (v0 : (List Int)) : Option Bool :=
  Abe (Aak k v0) fun v2 =>
  some (decide (0≤v2))
def Abz.L1 (k : Nat) (v0 : Int) (v1 : (List AaC)) (v2 : (List Int)) : Nat→Int→Option Bool
  | 0,_=>none
  | n+1,v5 =>
    if v5<(v1.length : Int) then
      idx v1 v5 fun v6 =>
      idx v2 v5 fun v7 =>
      Abe (AbZ k v7 0 v6.Cap) fun v8 =>
      if (!v8)=true then
        some false
      else
        Abz.L1 k v0 v1 v2 n (IntKind.wrap .i64 (v5+1))
    else
      Abe (Abp k v0 v1 v2) fun v9 =>
      chk ((2 : Int)≤((v9.length : Nat) : Int)) <|
      Abe (AbX k (v9.drop ((2 : Int).toNat))) fun v10 =>
      some (!v10)
def Abz (k : Nat) (v0 : Int) (v1 : (List AaC)) (v2 : (List Int)) : Option Bool :=
  Abe (Ac4 k v0 v1) fun v4 =>
  if v4≠0 then
    some false
  else
    if (v2.length : Int)≠(v1.length : Int) then
      some false
    else
      Abz.L1 k v0 v1 v2 k 0
def Aew (k : Nat) (v0 : Int) (v1 : (List AaC)) (v2 : (List Int)) : Option Int :=
  Abe (Abz k v0 v1 v2) fun v4 =>
  if (!v4)=true then
    some 0
  else
    Abe (Abp k v0 v1 v2) fun v5 =>
    chk ((0 : Int)≤0∧(0 : Int).toNat<v5.length) <|
    idx v5 (0 : Int) fun v6 =>
    some v6
def Aej (k : Nat) (v0 : Int) (v1 : Int) (v2 : Int) (v3 : Int) : Option Bool :=
  some (v0==v3)
def Aad.L1 (k : Nat) (v0 : (List AaC)) (v1 : Int) : Nat→Int→Option Int
  | 0,_=>none
  | n+1,v3 =>
    if v3<(v0.length : Int) then
      idx v0 v3 fun v4 =>
      Abe (Aej k v4.From v4.To v4.Cap v1) fun v5 =>
      if v5=true then
        some v3
      else
        Aad.L1 k v0 v1 n (IntKind.wrap .i64 (v3+1))
    else
      some (-1)
def Aad (k : Nat) (v0 : (List AaC)) (v1 : Int) : Option Int :=
  Aad.L1 k v0 v1 k 0
def AcO (k : Nat) (v0 : (List Int)) : Option (List Int) :=
  chk (v0.length*8≤140737488355328) <| some v0
def AaW.J4 (k : Nat) (v12 : (List Int)) (v17 : Int) (v18 : Int) (v19 : AaC) (kb2 : (List Int)→(List Int)→(List (Int×Int))→Int→Option ((List (List Int))×Int)) (v20 : (List Int)) (v21 : (List (Int×Int))) : Option ((List (List Int))×Int) :=
  kb2 (v12.set (v17).toNat (IntKind.wrap .i64 (v18-1))) v20 (AgC v21 v19.To (v20.length : Int)) v19.To
def AaW.L6 (k : Nat) (v1 : (List AaC)) (v12 : (List Int)) (v13 : (List Int)) (v17 : Int) (v18 : Int) (v19 : AaC) (v22 : Int) (kb2 : (List Int)→(List Int)→(List (Int×Int))→Int→Option ((List (List Int))×Int)) : Nat→Int→(List (Int×Int))→Option ((List (List Int))×Int)
  | 0,_,_=>none
  | n+1,v24,v25 =>
    if v24<((((v13++([v17] : List Int)).length-((v22).toNat)) : Nat) : Int) then
      chk ((0 : Int)≤v24∧(v24).toNat<((v13++([v17] : List Int)).length-((v22).toNat))∧(v22).toNat+(v24).toNat<(v13++([v17] : List Int)).length) <|
      idx (v13++([v17] : List Int)) (((v22).toNat+(v24).toNat : Nat) : Int) fun v26 =>
      idx v1 v26 fun v27 =>
      AaW.L6 k v1 v12 v13 v17 v18 v19 v22 kb2 n (IntKind.wrap .i64 (v24+1)) (Apr v25 v27.To)
    else
      chk (0<(v13++([v17] : List Int)).length∧(0 : Int)<v22∧(0 : Int)≤v22∧(v22 : Int)≤(((v13++([v17] : List Int)).length : Nat) : Int)) <|
      AaW.J4 k v12 v17 v18 v19 kb2 ((v13++([v17] : List Int)).take ((v22).toNat)) v25
def AaW.J5 (k : Nat) (v1 : (List AaC)) (v12 : (List Int)) (v13 : (List Int)) (v14 : (List (Int×Int))) (v17 : Int) (v18 : Int) (v19 : AaC) (kb2 : (List Int)→(List Int)→(List (Int×Int))→Int→Option ((List (List Int))×Int)) (v22 : Int) (v23 : Bool) : Option ((List (List Int))×Int) :=
  if v23=true then
    chk (0<(v13++([v17] : List Int)).length∧(0 : Int)≤v22∧(v22 : Int)≤(((v13++([v17] : List Int)).length : Nat) : Int)) <|
    AaW.L6 k v1 v12 v13 v17 v18 v19 v22 kb2 k 0 v14
  else
    AaW.J4 k v12 v17 v18 v19 kb2 (v13++([v17] : List Int)) v14
def AaW.J3 (k : Nat) (v1 : (List AaC)) (v12 : (List Int)) (v13 : (List Int)) (v14 : (List (Int×Int))) (kb2 : (List Int)→(List Int)→(List (Int×Int))→Int→Option ((List (List Int))×Int)) (v17 : Int) : Option ((List (List Int))×Int) :=
  chk ((0 : Int)≤v17∧(v17).toNat<v12.length) <|
  idx v12 v17 fun v18 =>
  chk ((0 : Int)≤v17∧(v17).toNat<v12.length) <|
  chk ((v13.length+([v17] : List Int).length)*8≤140737488355328) <|
  idx v1 v17 fun v19 =>
  Ao5 (Al4 v14 v19.To) (fun v28 =>
    AaW.J5 k v1 v12 v13 v14 v17 v18 v19 kb2 v28 true
  ) <|
  AaW.J5 k v1 v12 v13 v14 v17 v18 v19 kb2 0 false
def AaW.J8 (k : Nat) (v29 : Int) (kb7 : Int→Option ((List (List Int))×Int)) : Option ((List (List Int))×Int) :=
  kb7 (IntKind.wrap .i64 (v29+1))
def AaW.L7 (k : Nat) (v1 : (List AaC)) (v12 : (List Int)) (v13 : (List Int)) (v14 : (List (Int×Int))) (v15 : Int) (kb2 : (List Int)→(List Int)→(List (Int×Int))→Int→Option ((List (List Int))×Int)) : Nat→Int→Option ((List (List Int))×Int)
  | 0,_=>none
  | n+1,v29 =>
    if v29<(v1.length : Int) then
      idx v1 v29 fun v30 =>
      if v30.From≠v15 then
        AaW.J8 k v29 (fun v29_=>AaW.L7 k v1 v12 v13 v14 v15 kb2 n v29_)
      else
        chk ((0 : Int)≤v29∧(v29).toNat<v12.length) <|
        idx v12 v29 fun v31 =>
        if v31=0 then
          AaW.J8 k v29 (fun v29_=>AaW.L7 k v1 v12 v13 v14 v15 kb2 n v29_)
        else
          AaW.J3 k v1 v12 v13 v14 kb2 v29
    else
      AaW.J3 k v1 v12 v13 v14 kb2 v29
def AaW.L2 (k : Nat) (v1 : (List AaC)) (v9 : Int) (v11 : (List (List Int))) (kb1 : Int→(List Int)→(List (List Int))→Option ((List (List Int))×Int)) : Nat→(List Int)→(List Int)→(List (Int×Int))→Int→Option ((List (List Int))×Int)
  | 0,_,_,_,_=>none
  | n+1,v12,v13,v14,v15 =>
    if v15≠1 then
      Abe (Aad k v1 v15) fun v16 =>
      AaW.L7 k v1 v12 v13 v14 v15 (fun v12_ v13_ v14_ v15_=>AaW.L2 k v1 v9 v11 kb1 n v12_ v13_ v14_ v15_) k v16
    else
      Abe (AcO k v13) fun v32 =>
      chk ((v11.length+([v32] : List (List Int)).length)*24≤140737488355328) <|
      kb1 (IntKind.wrap .i64 (v9+1)) v12 (v11++([v32] : List (List Int)))
def AaW.L1 (k : Nat) (v1 : (List AaC)) (v8 : Int) : Nat→Int→(List Int)→(List (List Int))→Option ((List (List Int))×Int)
  | 0,_,_,_=>none
  | n+1,v9,v10,v11 =>
    if v9<v8 then
      AaW.L2 k v1 v9 v11 (fun v9_ v10_ v11_=>AaW.L1 k v1 v8 n v9_ v10_ v11_) k v10 ([] : List Int) (AgC ([] : (List (Int×Int))) 0 0) 0
    else
      some (v11,0)
def AaW (k : Nat) (v0 : Int) (v1 : (List AaC)) (v2 : (List Int)) : Option ((List (List Int))×Int) :=
  Abe (Ac4 k v0 v1) fun v5 =>
  if v5≠0 then
    some (([] : List (List Int)),v5)
  else
    Abe (Abz k v0 v1 v2) fun v6 =>
    if (!v6)=true then
      some (([] : List (List Int)),17)
    else
      Abe (AbK k v2) fun v7 =>
      Abe (Aew k v0 v1 v2) fun v8 =>
      AaW.L1 k v1 v8 k 0 v7 ([] : List (List Int))
def AdW (k : Nat) : Option Bool :=
  AfD (AeD k 3 ([(AaC.mk 0 2 3),(AaC.mk 2 1 2)] : List AaC)) fun v1 v2 =>
  AfD (AaW k 3 ([(AaC.mk 0 2 3),(AaC.mk 2 1 2)] : List AaC) v1) fun v3 v4 =>
  if v2=0 then
    if v4=0 then
      if (v1.length : Int)=2 then
        idx v1 0 fun v5 =>
        if v5=2 then
          idx v1 1 fun v6 =>
          if v6=2 then
            Abe (Abz k 3 ([(AaC.mk 0 2 3),(AaC.mk 2 1 2)] : List AaC) v1) fun v7 =>
            if v7=true then
              Abe (Aew k 3 ([(AaC.mk 0 2 3),(AaC.mk 2 1 2)] : List AaC) v1) fun v8 =>
              if v8=2 then
                if (v3.length : Int)=2 then
                  Abe (Abz k 3 ([(AaC.mk 0 2 3),(AaC.mk 2 1 2)] : List AaC) ([1,2] : List Int)) fun v9 =>
                  some (!v9)
                else
                  some false
              else
                some false
            else
              some false
          else
            some false
        else
          some false
      else
        some false
    else
      some false
  else
    some false
def Afk (k : Nat) (v0 : (List Int)) : Option ((List Int)×Int) :=
  some (v0,0)
def Acu.J1 (k : Nat) (v3 : Int) : Option Int :=
  some v3
def Acu (k : Nat) (v0 : Int) (v1 : Int) : Option Int :=
  if v1<1 then
    some 0
  else
    chk (v1≠(0 : Int)) <|
    if Int.tmod v0 v1<0 then
      Acu.J1 k (IntKind.wrap .i64 (Int.tmod v0 v1+v1))
    else
      Acu.J1 k (Int.tmod v0 v1)
def Aa0 (k : Nat) (v0 : (List Int)) (v1 : Int) (v2 : Int) : Option (Int×Int) :=
  if (v0.length : Int)≤v1 then
    some (0,v1)
  else
    idx v0 (IntKind.wrap .i64 (IntKind.wrap .i64 (v1+1)-1)) fun v5 =>
    Abe (Acu k v5 v2) fun v6 =>
    some (v6,IntKind.wrap .i64 (v1+1))
def AcD (k : Nat) (v0 : (List Int)) (v1 : Int) (v2 : Int) : Option (Bool×Int) :=
  AfD (Aa0 k v0 v1 v2) fun v5 v6 =>
  some ((v5==(IntKind.wrap .i64 (v2-1))),v6)
def AbS.J2 (k : Nat) (v3 : Int) (kb1 : Int→Option Bool) : Option Bool :=
  kb1 (IntKind.wrap .i64 (v3+1))
def AbS.L1 (k : Nat) (v0 : (List Int)) (v1 : Int) : Nat→Int→Option Bool
  | 0,_=>none
  | n+1,v3 =>
    if v3<(v0.length : Int) then
      idx v0 v3 fun v4 =>
      if v4<0 then
        some false
      else
        if v1≤v4 then
          some false
        else
          if 0<v3 then
            idx v0 (IntKind.wrap .i64 (v3-1)) fun v5 =>
            if v4≤v5 then
              some false
            else
              AbS.J2 k v3 (fun v3_=>AbS.L1 k v0 v1 n v3_)
          else
            AbS.J2 k v3 (fun v3_=>AbS.L1 k v0 v1 n v3_)
    else
      some true
def AbS (k : Nat) (v0 : (List Int)) (v1 : Int) : Option Bool :=
  AbS.L1 k v0 v1 k 0
def Abf.L1 (k : Nat) (v0 : (List Int)) (v1 : Int) : Nat→Int→Option Bool
  | 0,_=>none
  | n+1,v3 =>
    if v3<(v0.length : Int) then
      idx v0 v3 fun v4 =>
      if v4=v1 then
        some true
      else
        Abf.L1 k v0 v1 n (IntKind.wrap .i64 (v3+1))
    else
      some false
def Abf (k : Nat) (v0 : (List Int)) (v1 : Int) : Option Bool :=
  Abf.L1 k v0 v1 k 0
def Acf (k : Nat) (v0 : Int) (v1 : Int) (v2 : Int) (v3 : Int) (v4 : Int) (v5 : Int) : Option Bool :=
  if v0<v3 then
    some true
  else
    if v0=v3 then
      some (decide (v1<v4))
    else
      some false
def Aav.J2 (k : Nat) (v5 : Int) (kb1 : Int→Option Int) (v7 : Bool) : Option Int :=
  if v7=true then
    some 14
  else
    kb1 (IntKind.wrap .i64 (v5+1))
def Aav.L1 (k : Nat) (v0 : Int) (v1 : (List AaA)) (v2 : (List Int)) : Nat→Int→Option Int
  | 0,_=>none
  | n+1,v5 =>
    if v5<(v1.length : Int) then
      idx v1 v5 fun v6 =>
      if v6.From<0 then
        some 14
      else
        if v0≤v6.From then
          some 14
        else
          if v6.To<0 then
            some 14
          else
            if v0≤v6.To then
              some 14
            else
              if v6.From=v6.To then
                some 14
              else
                if v6.Level<1 then
                  some 14
                else
                  if 3<v6.Level then
                    some 14
                  else
                    if 0<v5 then
                      idx v1 (IntKind.wrap .i64 (v5-1)) fun v8 =>
                      Abe (Acf k v8.From v8.To v8.Level v6.From v6.To v6.Level) fun v9 =>
                      if (!v9)=true then
                        Aav.J2 k v5 (fun v5_=>Aav.L1 k v0 v1 v2 n v5_) true
                      else
                        Abe (Abf k v2 v6.From) fun v10 =>
                        if v10=true then
                          Aav.J2 k v5 (fun v5_=>Aav.L1 k v0 v1 v2 n v5_) true
                        else
                          Abe (Abf k v2 v6.To) fun v11 =>
                          Aav.J2 k v5 (fun v5_=>Aav.L1 k v0 v1 v2 n v5_) v11
                    else
                      Abe (Abf k v2 v6.From) fun v12 =>
                      if v12=true then
                        Aav.J2 k v5 (fun v5_=>Aav.L1 k v0 v1 v2 n v5_) true
                      else
                        Abe (Abf k v2 v6.To) fun v13 =>
                        Aav.J2 k v5 (fun v5_=>Aav.L1 k v0 v1 v2 n v5_) v13
    else
      some 0
def Aav (k : Nat) (v0 : Int) (v1 : (List AaA)) (v2 : (List Int)) : Option Int :=
  if v0<0 then
    some 14
  else
    if 64<v0 then
      some 14
    else
      if 500<(v1.length : Int) then
        some 14
      else
        Abe (AbS k v2 v0) fun v4 =>
        if (!v4)=true then
          some 14
        else
          Aav.L1 k v0 v1 v2 k 0
def AbC.J1 (k : Nat) (v1 : (List AaA)) (v3 : Int) (v4 : Int) (v7 : Int) : Option (Int×Bool) :=
  if v7<(v1.length : Int) then
    idx v1 v7 fun v8 =>
    if v8.From=v3 then
      some (v7,(v8.To==v4))
    else
      some (v7,false)
  else
    some (v7,false)
def AbC.L2 (k : Nat) (v1 : (List AaA)) (v3 : Int) (v4 : Int) : Nat→Int→Option (Int×Bool)
  | 0,_=>none
  | n+1,v9 =>
    if v9<(v1.length : Int) then
      idx v1 v9 fun v10 =>
      Abe (Acf k v10.From v10.To v10.Level v3 v4 0) fun v11 =>
      if v11=true then
        AbC.L2 k v1 v3 v4 n (IntKind.wrap .i64 (v9+1))
      else
        AbC.J1 k v1 v3 v4 v9
    else
      AbC.J1 k v1 v3 v4 v9
def AbC (k : Nat) (v0 : Int) (v1 : (List AaA)) (v2 : (List Int)) (v3 : Int) (v4 : Int) : Option (Int×Bool) :=
  AbC.L2 k v1 v3 v4 k 0
def Adh (k : Nat) (v0 : Int) (v1 : (List AaA)) (v2 : (List Int)) : Option (Int×(List AaA)×(List Int)) :=
  chk (v1.length*24≤140737488355328) <|
  chk (v2.length*8≤140737488355328) <|
  some (v0,v1,v2)
def AdC (k : Nat) (v0 : Int) (v1 : (List AaA)) (v2 : (List Int)) (v3 : Int) (v4 : Int) (v5 : Int) : Option (Int×(List AaA)×(List Int)×Int) :=
  Abe (Aav k v0 v1 v2) fun v10 =>
  if v10≠0 then
    some (0,([] : List AaA),([] : List Int),14)
  else
    AfD (AbC k v0 v1 v2 v3 v4) fun v11 v12 =>
    if v3<0 then
      some (0,([] : List AaA),([] : List Int),4)
    else
      if v0≤v3 then
        some (0,([] : List AaA),([] : List Int),4)
      else
        if v4<0 then
          some (0,([] : List AaA),([] : List Int),4)
        else
          if v0≤v4 then
            some (0,([] : List AaA),([] : List Int),4)
          else
            if v3=v4 then
              some (0,([] : List AaA),([] : List Int),4)
            else
              Abe (Abf k v2 v3) fun v13 =>
              if v13=true then
                some (0,([] : List AaA),([] : List Int),4)
              else
                Abe (Abf k v2 v4) fun v14 =>
                if v14=true then
                  some (0,([] : List AaA),([] : List Int),4)
                else
                  if v5<1 then
                    some (0,([] : List AaA),([] : List Int),2)
                  else
                    if 3<v5 then
                      some (0,([] : List AaA),([] : List Int),2)
                    else
                      if v12=true then
                        some (0,([] : List AaA),([] : List Int),19)
                      else
                        if (v1.length : Int)=500 then
                          some (0,([] : List AaA),([] : List Int),3)
                        else
                          AnM (Adh k v0 v1 v2) fun v15 v16 v17 =>
                          chk ((0 : Int)≤v11∧(v11 : Int)≤(v1.length : Int)) <|
                          chk ((v1.take (v11).toNat).length*24≤140737488355328) <|
                          chk (((v1.take (v11).toNat).length+([(AaA.mk v3 v4 v5)] : List AaA).length)*24≤140737488355328) <|
                          chk ((0 : Int)≤v11∧(v11 : Int)≤(v1.length : Int)) <|
                          chk ((((v1.take (v11).toNat)++([(AaA.mk v3 v4 v5)] : List AaA)).length+(v1.drop (v11).toNat).length)*24≤140737488355328) <|
                          some (v15,((v1.take (v11).toNat)++([(AaA.mk v3 v4 v5)] : List AaA))++(v1.drop (v11).toNat),v17,0)
def AaT.J4 (k : Nat) (v13 : Int) (kb3 : Int→Int→Int→(List AaA)→(List Int)→Option (Int×(List AaA)×(List Int)×Int)) (v18 : Int) (v19 : Int) (v20 : (List AaA)) (v21 : (List Int)) : Option (Int×(List AaA)×(List Int)×Int) :=
  kb3 (IntKind.wrap .i64 (v13-1)) v18 v19 v20 v21
def AaT.L3 (k : Nat) (v0 : (List Int)) : Nat→Int→Int→Int→(List AaA)→(List Int)→Option (Int×(List AaA)×(List Int)×Int)
  | 0,_,_,_,_,_=>none
  | n+1,v13,v14,v15,v16,v17 =>
    if 0<v13 then
      AfD (Aa0 k v0 v14 v15) fun v22 v23 =>
      AfD (Aa0 k v0 v23 v15) fun v24 v25 =>
      AfD (Aa0 k v0 v25 3) fun v26 v27 =>
      AqC (AdC k v15 v16 v17 v22 v24 (IntKind.wrap .i64 (1+v26))) fun v28 v29 v30 v31 =>
      if v31=0 then
        AaT.J4 k v13 (fun v13_ v14_ v15_ v16_ v17_=>AaT.L3 k v0 n v13_ v14_ v15_ v16_ v17_) v27 v28 v29 v30
      else
        AaT.J4 k v13 (fun v13_ v14_ v15_ v16_ v17_=>AaT.L3 k v0 n v13_ v14_ v15_ v16_ v17_) v27 v15 v16 v17
    else
      some (v15,v16,v17,v14)
def AaT.J2 (k : Nat) (v0 : (List Int)) (v8 : Int) (v9 : Int) (v10 : (List Int)) : Option (Int×(List AaA)×(List Int)×Int) :=
  AfD (Aa0 k v0 v9 23) fun v11 v12 =>
  AaT.L3 k v0 k v11 v12 v8 ([] : List AaA) v10
def AaT.J1 (k : Nat) (v0 : (List Int)) (v7 : Int) (v8 : Int) : Option (Int×(List AaA)×(List Int)×Int) :=
  AfD (AcD k v0 v7 8) fun v32 v33 =>
  if v32=true then
    AfD (Aa0 k v0 v33 v8) fun v34 v35 =>
    AaT.J2 k v0 v8 v35 ([v34] : List Int)
  else
    AaT.J2 k v0 v8 v33 ([] : List Int)
def AaT (k : Nat) (v0 : (List Int)) (v1 : Int) : Option (Int×(List AaA)×(List Int)×Int) :=
  AfD (Aa0 k v0 v1 8) fun v6 v7 =>
  if (v0.length : Int)=0 then
    AaT.J1 k v0 v7 4
  else
    AaT.J1 k v0 v7 (IntKind.wrap .i64 (2+v6))
def Acg (k : Nat) (v0 : (List Int)) (v1 : Int) (v2 : (List Int)) : Option (Int×Int) :=
  AfD (Aa0 k v0 v1 (v2.length : Int)) fun v5 v6 =>
  idx v2 v5 fun v7 =>
  some (v7,v6)
def AbE.J2 (k : Nat) (v0 : (List Int)) (v1 : Int) (v3 : Int) : Option (List Int) :=
  chk ((0 : Int)≤v3∧(v3 : Int)≤(v0.length : Int)) <|
  chk ((v0.take (v3).toNat).length*8≤140737488355328) <|
  chk (((v0.take (v3).toNat).length+([v1] : List Int).length)*8≤140737488355328) <|
  chk ((0 : Int)≤v3∧(v3 : Int)≤(v0.length : Int)) <|
  chk ((((v0.take (v3).toNat)++([v1] : List Int)).length+(v0.drop (v3).toNat).length)*8≤140737488355328) <|
  some (((v0.take (v3).toNat)++([v1] : List Int))++(v0.drop (v3).toNat))
def AbE.J1 (k : Nat) (v0 : (List Int)) (v1 : Int) (v3 : Int) : Option (List Int) :=
  if v3<(v0.length : Int) then
    idx v0 v3 fun v4 =>
    if v4=v1 then
      chk (v0.length*8≤140737488355328) <|
      some v0
    else
      AbE.J2 k v0 v1 v3
  else
    AbE.J2 k v0 v1 v3
def AbE.L3 (k : Nat) (v0 : (List Int)) (v1 : Int) : Nat→Int→Option (List Int)
  | 0,_=>none
  | n+1,v5 =>
    if v5<(v0.length : Int) then
      idx v0 v5 fun v6 =>
      if v6<v1 then
        AbE.L3 k v0 v1 n (IntKind.wrap .i64 (v5+1))
      else
        AbE.J1 k v0 v1 v5
    else
      AbE.J1 k v0 v1 v5
def AbE (k : Nat) (v0 : (List Int)) (v1 : Int) : Option (List Int) :=
  AbE.L3 k v0 v1 k 0
def Aai.L2 (k : Nat) (v0 : (List Int)) (v11 : Int) (v14 : (List Int)) : Nat→Int→Int→Int→(List Int)→Option ((List Int)×(List Int)×Int×Int)
  | 0,_,_,_,_=>none
  | n+1,v19,v20,v21,v22 =>
    if 0<v20 then
      chk ((v22.length+([v19] : List Int).length)*8≤140737488355328) <|
      AfD (Aa0 k v0 v21 3) fun v23 v24 =>
      Am7 (if 1<(IntKind.wrap .i64 (v19-v23)) then IntKind.wrap .i64 (v19-v23) else 1) fun v25 =>
      Aai.L2 k v0 v11 v14 n v25 (IntKind.wrap .i64 (v20-1)) v24 (v22++([v19] : List Int))
    else
      some (v14,v22,v11,v21)
def Aai.J1 (k : Nat) (v0 : (List Int)) (v11 : Int) (v13 : Int) (v14 : (List Int)) : Option ((List Int)×(List Int)×Int×Int) :=
  AfD (Acg k v0 v13 ([3,2,1,6,0] : List Int)) fun v15 v16 =>
  AfD (Aa0 k v0 v16 4) fun v17 v18 =>
  Aai.L2 k v0 v11 v14 k (IntKind.wrap .i64 (1+v15)) (IntKind.wrap .i64 (1+v17)) v18 ([] : List Int)
def Aai (k : Nat) (v0 : (List Int)) (v1 : Int) (v2 : Int) (v3 : (List AaA)) (v4 : (List Int)) : Option ((List Int)×(List Int)×Int×Int) :=
  AfD (Aa0 k v0 v1 v2) fun v9 v10 =>
  AfD (Acg k v0 v10 ([1,1,2,3] : List Int)) fun v11 v12 =>
  AfD (AcD k v0 v12 3) fun v26 v27 =>
  if v26=true then
    AfD (Aa0 k v0 v27 v2) fun v28 v29 =>
    Abe (AbE k ([v9] : List Int) v28) fun v30 =>
    Aai.J1 k v0 v11 v29 v30
  else
    Aai.J1 k v0 v11 v27 ([v9] : List Int)
def Aam.J2 (k : Nat) (v5 : Int) (kb1 : Int→Int→(List Int)→Option ((List Int)×Int)) (v8 : Int) (v9 : (List Int)) : Option ((List Int)×Int) :=
  kb1 (IntKind.wrap .i64 (v5+1)) v8 v9
def Aam.L1 (k : Nat) (v0 : (List Int)) (v2 : Int) : Nat→Int→Int→(List Int)→Option ((List Int)×Int)
  | 0,_,_,_=>none
  | n+1,v5,v6,v7 =>
    if v5<v2 then
      AfD (Aa0 k v0 v6 3) fun v10 v11 =>
      if v10=0 then
        chk ((v7.length+([v5] : List Int).length)*8≤140737488355328) <|
        Aam.J2 k v5 (fun v5_ v6_ v7_=>Aam.L1 k v0 v2 n v5_ v6_ v7_) v11 (v7++([v5] : List Int))
      else
        Aam.J2 k v5 (fun v5_ v6_ v7_=>Aam.L1 k v0 v2 n v5_ v6_ v7_) v11 v7
    else
      some (v7,v6)
def Aam (k : Nat) (v0 : (List Int)) (v1 : Int) (v2 : Int) : Option ((List Int)×Int) :=
  Aam.L1 k v0 v2 k 0 v1 ([] : List Int)
def Aay.J2 (k : Nat) (v4 : Int) (kb1 : Int→Option Bool) : Option Bool :=
  kb1 (IntKind.wrap .i64 (v4+1))
def Aay.L1 (k : Nat) (v0 : (List Int)) (v1 : Int) (v2 : Int) : Nat→Int→Option Bool
  | 0,_=>none
  | n+1,v4 =>
    if v4<(v0.length : Int) then
      idx v0 v4 fun v5 =>
      if v5<v1 then
        some false
      else
        if v2<v5 then
          some false
        else
          if 0<v4 then
            idx v0 (IntKind.wrap .i64 (v4-1)) fun v6 =>
            if v5≤v6 then
              some false
            else
              Aay.J2 k v4 (fun v4_=>Aay.L1 k v0 v1 v2 n v4_)
          else
            Aay.J2 k v4 (fun v4_=>Aay.L1 k v0 v1 v2 n v4_)
    else
      some true
def Aay (k : Nat) (v0 : (List Int)) (v1 : Int) (v2 : Int) : Option Bool :=
  Aay.L1 k v0 v1 v2 k 0
def Aau.L1 (k : Nat) (v0 : (List Int)) (v1 : Int) : Nat→Int→Option Int
  | 0,_=>none
  | n+1,v3 =>
    if v3<(v0.length : Int) then
      idx v0 v3 fun v4 =>
      if v1=v4 then
        some v3
      else
        Aau.L1 k v0 v1 n (IntKind.wrap .i64 (v3+1))
    else
      some (-1)
def Aau (k : Nat) (v0 : (List Int)) (v1 : Int) : Option Int :=
  Aau.L1 k v0 v1 k 0
def AbB (k : Nat) (v0 : (List Int)) (v1 : Int) : Option Bool :=
  Abe (Aau k v0 v1) fun v3 =>
  some (decide (0≤v3))
def Adz (k : Nat) (v0 : Int) (v1 : (List AaA)) (v2 : (List Int)) (v3 : Int) (v4 : Int) (v5 : Int) : Option Bool :=
  Abe (AbZ k v3 0 (IntKind.wrap .i64 (v0-1))) fun v7 =>
  if v7=true then
    Abe (AbZ k v4 0 (IntKind.wrap .i64 (v0-1))) fun v8 =>
    if v8=true then
      if v3≠v4 then
        Abe (AbB k v2 v3) fun v9 =>
        if (!v9)=true then
          Abe (AbB k v2 v4) fun v10 =>
          some (!v10)
        else
          some false
      else
        some false
    else
      some false
  else
    some false
def Ab1 (k : Nat) (v0 : Int) : Option Bool :=
  some (v0 !=v0)
def Ab8 (k : Nat) (v0 : Int) (v1 : Int) : Option Int :=
  Abe (Ab1 k v0) fun v3 =>
  Abe (Ab1 k v1) fun v4 =>
  if v3=true then
    if v4=true then
      some 0
    else
      some (-1)
  else
    if v4=true then
      some 1
    else
      if v0<v1 then
        some (-1)
      else
        if v1<v0 then
          some 1
        else
          some 0
def Abn.L1 (k : Nat) (v0 : (List Int)) : Nat→Int→Option Int
  | 0,_=>none
  | n+1,v2 =>
    if v2<(v0.length : Int) then
      idx v0 v2 fun v3 =>
      if v3≠0 then
        some v3
      else
        Abn.L1 k v0 n (IntKind.wrap .i64 (v2+1))
    else
      some 0
def Abn (k : Nat) (v0 : (List Int)) : Option Int :=
  Abn.L1 k v0 k 0
def Acw (k : Nat) (v0 : Int) (v1 : Int) (v2 : Int) (v3 : Int) (v4 : Int) (v5 : Int) : Option Int :=
  Abe (Ab8 k v0 v3) fun v7 =>
  Abe (Ab8 k v1 v4) fun v8 =>
  Abe (Abn k ([v7,v8] : List Int)) fun v9 =>
  some v9
def AbA.J2 (k : Nat) (v6 : Int) (kb1 : Int→Option Int) : Option Int :=
  kb1 (IntKind.wrap .i64 (v6+1))
def AbA.L1 (k : Nat) (v0 : Int) (v1 : (List AaA)) (v2 : (List Int)) : Nat→Int→Option Int
  | 0,_=>none
  | n+1,v6 =>
    if v6<(v1.length : Int) then
      idx v1 v6 fun v7 =>
      Abe (Adz k v0 v1 v2 v7.From v7.To v7.Level) fun v8 =>
      if (!v8)=true then
        some 14
      else
        Abe (AbZ k v7.Level 1 3) fun v9 =>
        if (!v9)=true then
          some 14
        else
          if 0<v6 then
            idx v1 (IntKind.wrap .i64 (v6-1)) fun v10 =>
            Abe (Acw k v10.From v10.To v10.Level v7.From v7.To v7.Level) fun v11 =>
            if 0≤v11 then
              some 14
            else
              AbA.J2 k v6 (fun v6_=>AbA.L1 k v0 v1 v2 n v6_)
          else
            AbA.J2 k v6 (fun v6_=>AbA.L1 k v0 v1 v2 n v6_)
    else
      some 0
def AbA (k : Nat) (v0 : Int) (v1 : (List AaA)) (v2 : (List Int)) : Option Int :=
  Abe (AbZ k v0 0 64) fun v4 =>
  if (!v4)=true then
    some 14
  else
    if 500<(v1.length : Int) then
      some 14
    else
      Abe (Aay k v2 0 (IntKind.wrap .i64 (v0-1))) fun v5 =>
      if (!v5)=true then
        some 14
      else
        AbA.L1 k v0 v1 v2 k 0
def Aan.J2 (k : Nat) (v11 : Int) (kb1 : Int→Option Int) : Option Int :=
  kb1 (IntKind.wrap .i64 (v11+1))
def Aan.L1 (k : Nat) (v4 : (List Int)) : Nat→Int→Option Int
  | 0,_=>none
  | n+1,v11 =>
    if v11<(v4.length : Int) then
      idx v4 v11 fun v12 =>
      Abe (AbZ k v12 1 1000) fun v13 =>
      if (!v13)=true then
        some 15
      else
        if 0<v11 then
          idx v4 (IntKind.wrap .i64 (v11-1)) fun v14 =>
          if v14<v12 then
            some 15
          else
            Aan.J2 k v11 (fun v11_=>Aan.L1 k v4 n v11_)
        else
          Aan.J2 k v11 (fun v11_=>Aan.L1 k v4 n v11_)
    else
      some 0
def Aan (k : Nat) (v0 : Int) (v1 : (List AaA)) (v2 : (List Int)) (v3 : (List Int)) (v4 : (List Int)) (v5 : Int) : Option Int :=
  Abe (AbA k v0 v1 v2) fun v7 =>
  if v7≠0 then
    some v7
  else
    if (v3.length : Int)=0 then
      some 15
    else
      Abe (Aay k v3 0 (IntKind.wrap .i64 (v0-1))) fun v8 =>
      if (!v8)=true then
        some 15
      else
        Abe (AbZ k (v4.length : Int) 1 8) fun v9 =>
        if (!v9)=true then
          some 15
        else
          Abe (AbZ k v5 1 3) fun v10 =>
          if (!v10)=true then
            some 15
          else
            Aan.L1 k v4 k 0
def Ab3 (k : Nat) (v0 : Int) : Option Int :=
  some (IntKind.wrap .i64 (2+IntKind.wrap .i64 (2*v0)))
def AbQ (k : Nat) (v0 : (List AaA)) : Option (List AaA) :=
  chk (v0.length*24≤140737488355328) <| some v0
def Ac9 (k : Nat) (v0 : Int) (v1 : (List AaA)) (v2 : (List Int)) : Option (Int×(List AaA)×(List Int)) :=
  Abe (AbQ k v1) fun v6 =>
  Abe (AbK k v2) fun v7 =>
  some (v0,v6,v7)
def AcX (k : Nat) (v0 : Int) (v1 : Int) (v2 : Int) (v3 : Int) : Option Bool :=
  some (decide (v2<v3))
def AaR.L1 (k : Nat) (v0 : (List AaA)) (v1 : Int) : Nat→Int→Option Int
  | 0,_=>none
  | n+1,v3 =>
    if v3<(v0.length : Int) then
      idx v0 v3 fun v4 =>
      Abe (AcX k v4.From v4.To v4.Level v1) fun v5 =>
      if v5=true then
        some v3
      else
        AaR.L1 k v0 v1 n (IntKind.wrap .i64 (v3+1))
    else
      some (-1)
def AaR (k : Nat) (v0 : (List AaA)) (v1 : Int) : Option Int :=
  AaR.L1 k v0 v1 k 0
def AaI.J2 (k : Nat) (v5 : Int) (kb1 : Int→Int→(List AaA)→Option (List AaA)) (v7 : (List AaA)) (v8 : Int) : Option (List AaA) :=
  kb1 v8 (IntKind.wrap .i64 (v5+1)) v7
def AaI.L1 (k : Nat) (v1 : Int) : Nat→Int→Int→(List AaA)→Option (List AaA)
  | 0,_,_,_=>none
  | n+1,v4,v5,v6 =>
    if v5<(v6.length : Int) then
      idx v6 v5 fun v9 =>
      Abe (AcX k v9.From v9.To v9.Level v1) fun v10 =>
      if (!v10)=true then
        idx v6 v4 fun v11 =>
        AaI.J2 k v5 (fun v4_ v5_ v6_=>AaI.L1 k v1 n v4_ v5_ v6_) (v6.set (v4).toNat v9) (IntKind.wrap .i64 (v4+1))
      else
        AaI.J2 k v5 (fun v4_ v5_ v6_=>AaI.L1 k v1 n v4_ v5_ v6_) v6 v4
    else
      chk ((0 : Int)≤v4∧(v4 : Int)≤((v6.length : Nat) : Int)) <|
      chk (0<v6.length∧(v4).toNat≤v6.length) <|
      Am7 (v6.take ((v4).toNat)++List.replicate (v6.length-((v4).toNat)) (AaA.mk 0 0 0)) fun v12 =>
      chk ((0 : Int)≤v4∧(v4 : Int)≤((v12.length : Nat) : Int)) <|
      some (v12.take ((v4).toNat))
def AaI (k : Nat) (v0 : (List AaA)) (v1 : Int) : Option (List AaA) :=
  Abe (AaR k v0 v1) fun v3 =>
  if v3=(-1) then
    some v0
  else
    AaI.L1 k v1 k v3 (IntKind.wrap .i64 (v3+1)) v0
def AcE (k : Nat) (v0 : Int) (v1 : (List AaA)) (v2 : (List Int)) (v3 : Int) : Option (Int×(List AaA)×(List Int)) :=
  AnM (Ac9 k v0 v1 v2) fun v7 v8 v9 =>
  Abe (AaI k v8 v3) fun v10 =>
  some (v7,v10,v9)
def AdU (k : Nat) (v0 : Int) (v1 : Int) : Option (Int×Int) :=
  some (IntKind.wrap .u64 (IntKind.wrap .u64 (IntKind.wrap .u64 (Int.fdiv v0 (2 ^ (32))*Int.fdiv v1 (2 ^ (32)))+Int.fdiv (IntKind.wrap .u64 (IntKind.wrap .u64 (Int.fdiv v0 (2 ^ (32))*AbP .and .u64 v1 4294967295)+Int.fdiv (IntKind.wrap .u64 (AbP .and .u64 v0 4294967295*AbP .and .u64 v1 4294967295)) (2 ^ (32)))) (2 ^ (32)))+Int.fdiv (IntKind.wrap .u64 (AbP .and .u64 (IntKind.wrap .u64 (IntKind.wrap .u64 (Int.fdiv v0 (2 ^ (32))*AbP .and .u64 v1 4294967295)+Int.fdiv (IntKind.wrap .u64 (AbP .and .u64 v0 4294967295*AbP .and .u64 v1 4294967295)) (2 ^ (32)))) 4294967295+IntKind.wrap .u64 (AbP .and .u64 v0 4294967295*Int.fdiv v1 (2 ^ (32))))) (2 ^ (32))),IntKind.wrap .u64 (v0*v1))
def AeC (k : Nat) (v0 : Int) (v1 : Int) : Option (Int×Int) :=
  AfD (AdU k v0 v1) fun v4 v5 =>
  some (v4,v5)
def Aax.L1 (k : Nat) : Nat→Int→(List Int)→Option (List Int)
  | 0,_,_=>none
  | n+1,v6,v7 =>
    if v6<(v7.length : Int) then
      chk ((0 : Int)≤v6∧(v6 : Int)≤((v7.length : Nat) : Int)) <|
      chk ((0 : Int)≤v6∧(v6 : Int)≤((v7.length : Nat) : Int)) <|
      chk (0<v7.length∧(v6).toNat+(v7.length-((v6).toNat))≤v7.length∧0+min ((v6).toNat) (v7.length-((v6).toNat))≤v7.length∧((v7.drop 0).take (min ((v6).toNat) (v7.length-((v6).toNat)))).length≤(v7.length-((v6).toNat))) <|
      Am7 ((v7.take ((v6).toNat)++((v7.drop 0).take (min ((v6).toNat) (v7.length-((v6).toNat)))))++v7.drop ((v6).toNat+((v7.drop 0).take (min ((v6).toNat) (v7.length-((v6).toNat)))).length)) fun v8 =>
      Aax.L1 k n (IntKind.wrap .i64 (v6+(((v7.drop 0).take (min ((v6).toNat) (v7.length-((v6).toNat)))).length : Int))) v8
    else
      some v7
def Aax (k : Nat) (v0 : (List Int)) (v1 : Int) : Option (List Int) :=
  if v1<0 then
    none
  else
    AfD (AeC k (IntKind.wrap .u64 (v0.length : Int)) (IntKind.wrap .u64 v1)) fun v3 v4 =>
    if 0<v3 then
      none
    else
      if 9223372036854775807<v4 then
        none
      else
        chk ((0 : Int)≤(IntKind.wrap .i64 v4)∧16*(IntKind.wrap .i64 v4)≤281474976710656) <|
        chk (0<(List.replicate (IntKind.wrap .i64 v4).toNat (0 : Int)).length∧0+(List.replicate (IntKind.wrap .i64 v4).toNat (0 : Int)).length≤(List.replicate (IntKind.wrap .i64 v4).toNat (0 : Int)).length∧v0.length≤(List.replicate (IntKind.wrap .i64 v4).toNat (0 : Int)).length) <|
        Am7 (((List.replicate (IntKind.wrap .i64 v4).toNat (0 : Int)).take 0++v0)++(List.replicate (IntKind.wrap .i64 v4).toNat (0 : Int)).drop (0+v0.length)) fun v5 =>
        Aax.L1 k k (v0.length : Int) v5
def AdA (k : Nat) (v0 : Int) (v1 : (List AaA)) (v2 : (List Int)) (v3 : (List Int)) (v4 : Int) : Option Bool :=
  Abe (AbB k v3 v4) fun v6 =>
  if v6=true then
    Abe (AbB k v2 v4) fun v7 =>
    some (!v7)
  else
    some false
def Aca (k : Nat) (v0 : Int) (v1 : Int) (v2 : (List AaA)) (v3 : (List Int)) (v4 : (List Int)) : Option Bool :=
  Abe (AdA k v1 v2 v3 v4 v0) fun v6 =>
  some v6
def Aah.J2 (k : Nat) (v6 : Int) (kb1 : Int→(List Int)→Option (List Int)) (v8 : (List Int)) : Option (List Int) :=
  kb1 (IntKind.wrap .i64 (v6+1)) v8
def Aah.L1 (k : Nat) (v0 : Int) (v1 : Int) (v2 : (List AaA)) (v3 : (List Int)) (v4 : (List Int)) : Nat→Int→(List Int)→Option (List Int)
  | 0,_,_=>none
  | n+1,v6,v7 =>
    if v6<v0 then
      Abe (Aca k v6 v1 v2 v3 v4) fun v9 =>
      if v9=true then
        chk ((v7.length+([v6] : List Int).length)*8≤140737488355328) <|
        Aah.J2 k v6 (fun v6_ v7_=>Aah.L1 k v0 v1 v2 v3 v4 n v6_ v7_) (v7++([v6] : List Int))
      else
        Aah.J2 k v6 (fun v6_ v7_=>Aah.L1 k v0 v1 v2 v3 v4 n v6_ v7_) v7
    else
      some v7
def Aah (k : Nat) (v0 : Int) (v1 : Int) (v2 : (List AaA)) (v3 : (List Int)) (v4 : (List Int)) : Option (List Int) :=
  Aah.L1 k v0 v1 v2 v3 v4 k 0 ([] : List Int)
def Aaw.J3 (k : Nat) (v6 : Int) (v7 : Int) : Option Int :=
  idx (bI (ByteArray.mk #[0,1,2,2,3,3,3,3,4,4,4,4,4,4,4,4,5,5,5,5,5,5,5,5,5,5,5,5,5,5,5,5,6,6,6,6,6,6,6,6,6,6,6,6,6,6,6,6,6,6,6,6,6,6,6,6,6,6,6,6,6,6,6,6,7,7,7,7,7,7,7,7,7,7,7,7,7,7,7,7,7,7,7,7,7,7,7,7,7,7,7,7,7,7,7,7,7,7,7,7,7,7,7,7,7,7,7,7,7,7,7,7,7,7,7,7,7,7,7,7,7,7,7,7,7,7,7,7,8,8,8,8,8,8,8,8,8,8,8,8,8,8,8,8,8,8,8,8,8,8,8,8,8,8,8,8,8,8,8,8,8,8,8,8,8,8,8,8,8,8,8,8,8,8,8,8,8,8,8,8,8,8,8,8,8,8,8,8,8,8,8,8,8,8,8,8,8,8,8,8,8,8,8,8,8,8,8,8,8,8,8,8,8,8,8,8,8,8,8,8,8,8,8,8,8,8,8,8,8,8,8,8,8,8,8,8,8,8,8,8,8,8,8,8,8,8,8,8,8,8,8,8,8,8,8,8])) (IntKind.wrap .u8 v6) fun v8 =>
  some (IntKind.wrap .i64 (v7+IntKind.wrap .i64 v8))
def Aaw.J2 (k : Nat) (v4 : Int) (v5 : Int) : Option Int :=
  if 256≤v4 then
    Aaw.J3 k (Int.fdiv v4 (2 ^ (8))) (IntKind.wrap .i64 (v5+8))
  else
    Aaw.J3 k v4 v5
def Aaw.J1 (k : Nat) (v2 : Int) (v3 : Int) : Option Int :=
  if 65536≤v2 then
    Aaw.J2 k (Int.fdiv v2 (2 ^ (16))) (IntKind.wrap .i64 (v3+16))
  else
    Aaw.J2 k v2 v3
def Aaw (k : Nat) (v0 : Int) : Option Int :=
  if 4294967296≤v0 then
    Aaw.J1 k (Int.fdiv v0 (2 ^ (32))) 32
  else
    Aaw.J1 k v0 0
def AcW (k : Nat) (v0 : Int) : Option Int :=
  Abe (Aaw k v0) fun v2 =>
  some v2
def AdE (k : Nat) (v0 : Int) (v1 : Int) : Option Bool :=
  Abe (Ab1 k v0) fun v3 =>
  if v3=true then
    Abe (Ab1 k v1) fun v4 =>
    if (!v4)=true then
      some true
    else
      some (decide (v0<v1))
  else
    some (decide (v0<v1))
def AaJ.J2 (k : Nat) (v4 : Int) (kb1 : Int→(List Int)→Option (List Int)) (v6 : (List Int)) : Option (List Int) :=
  kb1 (IntKind.wrap .i64 (v4+1)) v6
def AaJ.L3 (k : Nat) (v1 : Int) (v4 : Int) (kb1 : Int→(List Int)→Option (List Int)) : Nat→Int→(List Int)→Option (List Int)
  | 0,_,_=>none
  | n+1,v7,v8 =>
    if v1<v7 then
      chk ((0 : Int)≤v7∧(v7).toNat<v8.length) <|
      idx v8 v7 fun v9 =>
      chk ((0 : Int)≤(IntKind.wrap .i64 (v7-1))∧(IntKind.wrap .i64 (v7-1)).toNat<v8.length) <|
      idx v8 (IntKind.wrap .i64 (v7-1)) fun v10 =>
      Abe (AdE k v9 v10) fun v11 =>
      if v11=true then
        chk ((0 : Int)≤(IntKind.wrap .i64 (v7-1))∧(IntKind.wrap .i64 (v7-1)).toNat<v8.length) <|
        chk ((0 : Int)≤v7∧(v7).toNat<v8.length) <|
        chk ((0 : Int)≤v7∧(v7).toNat<v8.length) <|
        chk ((0 : Int)≤(IntKind.wrap .i64 (v7-1))∧(IntKind.wrap .i64 (v7-1)).toNat<(v8.set (v7).toNat v10).length) <|
        AaJ.L3 k v1 v4 kb1 n (IntKind.wrap .i64 (v7-1)) ((v8.set (v7).toNat v10).set (IntKind.wrap .i64 (v7-1)).toNat v9)
      else
        AaJ.J2 k v4 kb1 v8
    else
      AaJ.J2 k v4 kb1 v8
def AaJ.L1 (k : Nat) (v1 : Int) (v2 : Int) : Nat→Int→(List Int)→Option (List Int)
  | 0,_,_=>none
  | n+1,v4,v5 =>
    if v4<v2 then
      AaJ.L3 k v1 v4 (fun v4_ v5_=>AaJ.L1 k v1 v2 n v4_ v5_) k v4 v5
    else
      some v5
def AaJ (k : Nat) (v0 : (List Int)) (v1 : Int) (v2 : Int) : Option (List Int) :=
  AaJ.L1 k v1 v2 k (IntKind.wrap .i64 (v1+1)) v0
def Aar.L1 (k : Nat) (v0 : (List Int)) (v1 : Int) (v2 : Int) (v3 : Int) : Nat→Option (List Int)
  | 0=>none
  | n+1 =>
    if IntKind.wrap .i64 (v2-v1)≤12 then
      Abe (AaJ k v0 v1 v2) fun v5 =>
      chk (v5.length=v0.length) <|
      some v5
    else
      if v3=0 then
        none
      else
        none
def Aar (k : Nat) (v0 : (List Int)) (v1 : Int) (v2 : Int) (v3 : Int) : Option (List Int) :=
  Aar.L1 k v0 v1 v2 v3 k
def Abv (k : Nat) (v0 : (List Int)) : Option (List Int) :=
  Abe (AcW k (IntKind.wrap .u64 (v0.length : Int))) fun v2 =>
  Abe (Aar k v0 0 (v0.length : Int) v2) fun v3 =>
  chk (v3.length=v0.length) <|
  some v3
def AbT.J2 (k : Nat) (v5 : Int) (kb1 : Int→(List Int)→Option (List Int)) (v7 : (List Int)) : Option (List Int) :=
  kb1 (IntKind.wrap .i64 (v5+1)) v7
def AbT.L1 (k : Nat) (v1 : (List AaA)) (v3 : Int) : Nat→Int→(List Int)→Option (List Int)
  | 0,_,_=>none
  | n+1,v5,v6 =>
    if v5<(v1.length : Int) then
      idx v1 v5 fun v8 =>
      if v8.From=v3 then
        chk ((v6.length+([v8.To] : List Int).length)*8≤140737488355328) <|
        AbT.J2 k v5 (fun v5_ v6_=>AbT.L1 k v1 v3 n v5_ v6_) (v6++([v8.To] : List Int))
      else
        AbT.J2 k v5 (fun v5_ v6_=>AbT.L1 k v1 v3 n v5_ v6_) v6
    else
      Abe (Abv k v6) fun v9 =>
      chk (v9.length=v6.length) <|
      some v9
def AbT (k : Nat) (v0 : Int) (v1 : (List AaA)) (v2 : (List Int)) (v3 : Int) : Option (List Int) :=
  AbT.L1 k v1 v3 k 0 ([] : List Int)
def AcM (k : Nat) (v0 : Int) (v1 : (List Int)) : Option Bool :=
  Abe (AbZ k v0 0 (IntKind.wrap .i64 ((v1.length : Int)-1))) fun v3 =>
  if (!v3)=true then
    some true
  else
    chk ((0 : Int)≤v0∧(v0).toNat<v1.length) <|
    idx v1 v0 fun v4 =>
    some (decide (0≤v4))
def Aac.L1 (k : Nat) (v0 : (List Int)) (v1 : (List Int)) : Nat→Int→Option Int
  | 0,_=>none
  | n+1,v3 =>
    if v3<(v0.length : Int) then
      idx v0 v3 fun v4 =>
      Abe (AcM k v4 v1) fun v5 =>
      if v5=true then
        some v3
      else
        Aac.L1 k v0 v1 n (IntKind.wrap .i64 (v3+1))
    else
      some (-1)
def Aac (k : Nat) (v0 : (List Int)) (v1 : (List Int)) : Option Int :=
  Aac.L1 k v0 v1 k 0
def AaP.J2 (k : Nat) (v5 : Int) (kb1 : Int→Int→(List Int)→Option (List Int)) (v7 : (List Int)) (v8 : Int) : Option (List Int) :=
  kb1 v8 (IntKind.wrap .i64 (v5+1)) v7
def AaP.L1 (k : Nat) (v1 : (List Int)) : Nat→Int→Int→(List Int)→Option (List Int)
  | 0,_,_,_=>none
  | n+1,v4,v5,v6 =>
    if v5<(v6.length : Int) then
      chk ((0 : Int)≤v5∧(v5).toNat<v6.length) <|
      idx v6 v5 fun v9 =>
      Abe (AcM k v9 v1) fun v10 =>
      if (!v10)=true then
        chk ((0 : Int)≤v4∧(v4).toNat<v6.length) <|
        AaP.J2 k v5 (fun v4_ v5_ v6_=>AaP.L1 k v1 n v4_ v5_ v6_) (v6.set (v4).toNat v9) (IntKind.wrap .i64 (v4+1))
      else
        AaP.J2 k v5 (fun v4_ v5_ v6_=>AaP.L1 k v1 n v4_ v5_ v6_) v6 v4
    else
      chk ((0 : Int)≤v4∧(v4 : Int)≤((v6.length : Nat) : Int)) <|
      chk (0<v6.length∧(v4).toNat≤v6.length) <|
      Am7 (v6.take ((v4).toNat)++List.replicate (v6.length-((v4).toNat)) 0) fun v11 =>
      chk ((0 : Int)≤v4∧(v4 : Int)≤((v11.length : Nat) : Int)) <|
      some (v11.take ((v4).toNat))
def AaP (k : Nat) (v0 : (List Int)) (v1 : (List Int)) : Option (List Int) :=
  Abe (Aac k v0 v1) fun v3 =>
  if v3=(-1) then
    some v0
  else
    AaP.L1 k v1 k v3 (IntKind.wrap .i64 (v3+1)) v0
def Aae.J3 (k : Nat) (v11 : Int) (kb2 : Int→(List Int)→(List Int)→Option (List Int)) (v14 : (List Int)) (v15 : (List Int)) : Option (List Int) :=
  kb2 (IntKind.wrap .i64 (v11+1)) v14 v15
def Aae.L2 (k : Nat) (v0 : Int) (v1 : (List AaA)) (v2 : (List Int)) (v8 : (List Int)) (v9 : Int) (kb1 : (List Int)→Int→(List Int)→Option (List Int)) : Nat→Int→(List Int)→(List Int)→Option (List Int)
  | 0,_,_,_=>none
  | n+1,v11,v12,v13 =>
    if v11<(v8.length : Int) then
      idx v8 v11 fun v16 =>
      chk ((0 : Int)≤v16∧(v16).toNat<v12.length) <|
      idx v12 v16 fun v17 =>
      if 0≤v17 then
        Aae.J3 k v11 (fun v11_ v12_ v13_=>Aae.L2 k v0 v1 v2 v8 v9 kb1 n v11_ v12_ v13_) v12 v13
      else
        chk ((0 : Int)≤v16∧(v16).toNat<v12.length) <|
        Abe (AbT k v0 v1 v2 v16) fun v18 =>
        chk ((v13.length+v18.length)*8≤140737488355328) <|
        Aae.J3 k v11 (fun v11_ v12_ v13_=>Aae.L2 k v0 v1 v2 v8 v9 kb1 n v11_ v12_ v13_) (v12.set (v16).toNat v9) (v13++v18)
    else
      Abe (AaP k v13 v12) fun v19 =>
      kb1 v19 (IntKind.wrap .i64 (v9+1)) v12
def Aae.L1 (k : Nat) (v0 : Int) (v1 : (List AaA)) (v2 : (List Int)) : Nat→(List Int)→Int→(List Int)→Option (List Int)
  | 0,_,_,_=>none
  | n+1,v8,v9,v10 =>
    if 0<(v8.length : Int) then
      Aae.L2 k v0 v1 v2 v8 v9 (fun v8_ v9_ v10_=>Aae.L1 k v0 v1 v2 n v8_ v9_ v10_) k 0 v10 ([] : List Int)
    else
      some v10
def Aae (k : Nat) (v0 : Int) (v1 : (List AaA)) (v2 : (List Int)) (v3 : (List Int)) : Option (List Int) :=
  Am7 (if 0<v0 then v0 else 0) fun v5 =>
  Abe (Aax k ([-1] : List Int) v5) fun v6 =>
  Abe (Aah k v0 v0 v1 v2 v3) fun v7 =>
  Aae.L1 k v0 v1 v2 k v7 0 v6
def Ada (k : Nat) (v0 : (List Int)) (v1 : (List Int)) (v2 : Int) (v3 : Int) : Option Int :=
  if v3<0 then
    some 0
  else
    if v3<(v1.length : Int) then
      idx v1 v3 fun v5 =>
      some v5
    else
      some 1
def AbR.L1 (k : Nat) (v3 : (List Int)) (v4 : (List Int)) (v5 : Int) (v10 : (List Int)) : Nat→Int→(List Int)→Option (List Int)
  | 0,_,_=>none
  | n+1,v11,v12 =>
    if v11<(v10.length : Int) then
      chk ((0 : Int)≤v11∧(v11).toNat<v12.length) <|
      idx v12 v11 fun v13 =>
      Abe (Ada k v3 v4 v5 v13) fun v14 =>
      chk ((0 : Int)≤v11∧(v11).toNat<v12.length) <|
      AbR.L1 k v3 v4 v5 v10 n (IntKind.wrap .i64 (v11+1)) (v12.set (v11).toNat v14)
    else
      some v12
def AbR (k : Nat) (v0 : Int) (v1 : (List AaA)) (v2 : (List Int)) (v3 : (List Int)) (v4 : (List Int)) (v5 : Int) : Option (List Int) :=
  AnM (AcE k v0 v1 v2 v5) fun v7 v8 v9 =>
  Abe (Aae k v7 v8 v9 v3) fun v10 =>
  AbR.L1 k v3 v4 v5 v10 k 0 v10
def Abh (k : Nat) (v0 : Int) (v1 : Int) (v2 : Int) (v3 : Int) (v4 : (List AaC)) : Option (List AaC) :=
  chk ((v4.length+([(AaC.mk v0 v1 v2)] : List AaC).length)*24≤140737488355328) <|
  some (v4++([(AaC.mk v0 v1 v2)] : List AaC))
def AdN (k : Nat) (v0 : Int) : Option Int :=
  Abe (Ab3 k v0) fun v2 =>
  some (IntKind.wrap .i64 (v2+1))
def AaN.J2 (k : Nat) (v14 : Int) (kb1 : Int→(List AaC)→Option (Int×(List AaC)×Int)) (v16 : (List AaC)) : Option (Int×(List AaC)×Int) :=
  kb1 (IntKind.wrap .i64 (v14+1)) v16
def AaN.J4 (k : Nat) (v21 : Int) (kb3 : Int→(List AaC)→Option (Int×(List AaC)×Int)) (v23 : (List AaC)) : Option (Int×(List AaC)×Int) :=
  kb3 (IntKind.wrap .i64 (v21+1)) v23
def AaN.J6 (k : Nat) (v28 : Int) (kb5 : Int→(List AaC)→Option (Int×(List AaC)×Int)) (v30 : (List AaC)) : Option (Int×(List AaC)×Int) :=
  kb5 (IntKind.wrap .i64 (v28+1)) v30
def AaN.J8 (k : Nat) (v38 : Int) (kb7 : Int→(List AaC)→Option (Int×(List AaC)×Int)) (v40 : (List AaC)) : Option (Int×(List AaC)×Int) :=
  kb7 (IntKind.wrap .i64 (v38+1)) v40
def AaN.L7 (k : Nat) (v12 : Int) (v13 : (List Int)) (v36 : (List AaA)) : Nat→Int→(List AaC)→Option (Int×(List AaC)×Int)
  | 0,_,_=>none
  | n+1,v38,v39 =>
    if v38<(v36.length : Int) then
      idx v36 v38 fun v41 =>
      idx v13 v41.From fun v42 =>
      if 0<v42 then
        Abe (AdN k v41.From) fun v43 =>
        Abe (Ab3 k v41.To) fun v44 =>
        Abe (Abh k v43 v44 64 v12 v39) fun v45 =>
        AaN.J8 k v38 (fun v38_ v39_=>AaN.L7 k v12 v13 v36 n v38_ v39_) v45
      else
        AaN.J8 k v38 (fun v38_ v39_=>AaN.L7 k v12 v13 v36 n v38_ v39_) v39
    else
      some (v12,v39,0)
def AaN.L5 (k : Nat) (v0 : Int) (v1 : (List AaA)) (v2 : (List Int)) (v5 : Int) (v6 : (List Int)) (v12 : Int) (v13 : (List Int)) : Nat→Int→(List AaC)→Option (Int×(List AaC)×Int)
  | 0,_,_=>none
  | n+1,v28,v29 =>
    if v28<(v6.length : Int) then
      idx v6 v28 fun v31 =>
      idx v13 v31 fun v32 =>
      if 0<v32 then
        Abe (Ab3 k v31) fun v33 =>
        Abe (Abh k v33 1 1 v12 v29) fun v34 =>
        AaN.J6 k v28 (fun v28_ v29_=>AaN.L5 k v0 v1 v2 v5 v6 v12 v13 n v28_ v29_) v34
      else
        AaN.J6 k v28 (fun v28_ v29_=>AaN.L5 k v0 v1 v2 v5 v6 v12 v13 n v28_ v29_) v29
    else
      AnM (AcE k v0 v1 v2 v5) fun v35 v36 v37 =>
      AaN.L7 k v12 v13 v36 k 0 v29
def AaN.L3 (k : Nat) (v0 : Int) (v1 : (List AaA)) (v2 : (List Int)) (v5 : Int) (v6 : (List Int)) (v12 : Int) (v13 : (List Int)) : Nat→Int→(List AaC)→Option (Int×(List AaC)×Int)
  | 0,_,_=>none
  | n+1,v21,v22 =>
    if v21<(v13.length : Int) then
      idx v13 v21 fun v24 =>
      if 0<v24 then
        Abe (Ab3 k v21) fun v25 =>
        Abe (AdN k v21) fun v26 =>
        Abe (Abh k v25 v26 (IntKind.wrap .i64 (v24-1)) v12 v22) fun v27 =>
        AaN.J4 k v21 (fun v21_ v22_=>AaN.L3 k v0 v1 v2 v5 v6 v12 v13 n v21_ v22_) v27
      else
        AaN.J4 k v21 (fun v21_ v22_=>AaN.L3 k v0 v1 v2 v5 v6 v12 v13 n v21_ v22_) v22
    else
      AaN.L5 k v0 v1 v2 v5 v6 v12 v13 k 0 v22
def AaN.L1 (k : Nat) (v0 : Int) (v1 : (List AaA)) (v2 : (List Int)) (v3 : (List Int)) (v5 : Int) (v6 : (List Int)) (v12 : Int) (v13 : (List Int)) : Nat→Int→(List AaC)→Option (Int×(List AaC)×Int)
  | 0,_,_=>none
  | n+1,v14,v15 =>
    if v14<(v3.length : Int) then
      idx v3 v14 fun v17 =>
      idx v13 v17 fun v18 =>
      if 0<v18 then
        Abe (Ab3 k v17) fun v19 =>
        Abe (Abh k 0 v19 v18 v12 v15) fun v20 =>
        AaN.J2 k v14 (fun v14_ v15_=>AaN.L1 k v0 v1 v2 v3 v5 v6 v12 v13 n v14_ v15_) v20
      else
        AaN.J2 k v14 (fun v14_ v15_=>AaN.L1 k v0 v1 v2 v3 v5 v6 v12 v13 n v14_ v15_) v15
    else
      AaN.L3 k v0 v1 v2 v5 v6 v12 v13 k 0 v15
def AaN (k : Nat) (v0 : Int) (v1 : (List AaA)) (v2 : (List Int)) (v3 : (List Int)) (v4 : (List Int)) (v5 : Int) (v6 : (List Int)) : Option (Int×(List AaC)×Int) :=
  Abe (Aan k v0 v1 v2 v3 v4 v5) fun v10 =>
  if v10≠0 then
    some (0,([] : List AaC),v10)
  else
    Abe (Aay k v6 0 (IntKind.wrap .i64 (v0-1))) fun v11 =>
    if (!v11)=true then
      some (0,([] : List AaC),4)
    else
      Abe (Ab3 k v0) fun v12 =>
      Abe (AbR k v0 v1 v2 v3 v4 v5) fun v13 =>
      AaN.L1 k v0 v1 v2 v3 v5 v6 v12 v13 k 0 ([] : List AaC)
def Abc.L1 (k : Nat) (v0 : Int) (v1 : (List AaC)) : Nat→Int→Option Int
  | 0,_=>none
  | n+1,v3 =>
    if v3<(v1.length : Int) then
      idx v1 v3 fun v4 =>
      if v4.From<0 then
        some 16
      else
        if v0≤v4.From then
          some 16
        else
          if v4.To<0 then
            some 16
          else
            if v0≤v4.To then
              some 16
            else
              if v4.From=v4.To then
                some 16
              else
                if v4.To=0 then
                  some 16
                else
                  if v4.From=1 then
                    some 16
                  else
                    if v4.Cap<0 then
                      some 16
                    else
                      if 1048576<v4.Cap then
                        some 16
                      else
                        Abc.L1 k v0 v1 n (IntKind.wrap .i64 (v3+1))
    else
      some 0
def Abc (k : Nat) (v0 : Int) (v1 : (List AaC)) : Option Int :=
  if v0<2 then
    some 16
  else
    if 130<v0 then
      some 16
    else
      if 1200<(v1.length : Int) then
        some 16
      else
        Abc.L1 k v0 v1 k 0
def Aa6.L2 (k : Nat) (v0 : Int) (v6 : (List Int)) : Nat→Int→Option Bool
  | 0,_=>none
  | n+1,v11 =>
    if v11<v0 then
      idx v6 v11 fun v12 =>
      if v12≠0 then
        some false
      else
        Aa6.L2 k v0 v6 n (IntKind.wrap .i64 (v11+1))
    else
      some true
def Aa6.L1 (k : Nat) (v0 : Int) (v1 : (List AaC)) (v2 : (List Int)) : Nat→Int→(List Int)→Option Bool
  | 0,_,_=>none
  | n+1,v5,v6 =>
    if v5<(v2.length : Int) then
      idx v2 v5 fun v7 =>
      if v7<0 then
        some false
      else
        idx v1 v5 fun v8 =>
        if v8.Cap<v7 then
          some false
        else
          chk ((0 : Int)≤v8.From∧(v8.From).toNat<v6.length) <|
          idx v6 v8.From fun v9 =>
          chk ((0 : Int)≤v8.From∧(v8.From).toNat<v6.length) <|
          chk ((0 : Int)≤v8.To∧(v8.To).toNat<(v6.set (v8.From).toNat (IntKind.wrap .i64 (v9-v7))).length) <|
          idx (v6.set (v8.From).toNat (IntKind.wrap .i64 (v9-v7))) v8.To fun v10 =>
          chk ((0 : Int)≤v8.To∧(v8.To).toNat<(v6.set (v8.From).toNat (IntKind.wrap .i64 (v9-v7))).length) <|
          Aa6.L1 k v0 v1 v2 n (IntKind.wrap .i64 (v5+1)) ((v6.set (v8.From).toNat (IntKind.wrap .i64 (v9-v7))).set (v8.To).toNat (IntKind.wrap .i64 (v10+v7)))
    else
      Aa6.L2 k v0 v6 k 2
def Aa6 (k : Nat) (v0 : Int) (v1 : (List AaC)) (v2 : (List Int)) : Option Bool :=
  Abe (Abc k v0 v1) fun v4 =>
  if v4≠0 then
    some false
  else
    if (v2.length : Int)≠(v1.length : Int) then
      some false
    else
      chk ((0 : Int)≤v0∧16*v0≤281474976710656) <|
      Aa6.L1 k v0 v1 v2 k 0 (List.replicate (v0).toNat (0 : Int))
def Aa5.J2 (k : Nat) (v6 : Int) (kb1 : Int→Int→Option Int) (v7 : Int) : Option Int :=
  kb1 v7 (IntKind.wrap .i64 (v6+1))
def Aa5.L1 (k : Nat) (v1 : (List AaC)) (v2 : (List Int)) : Nat→Int→Int→Option Int
  | 0,_,_=>none
  | n+1,v5,v6 =>
    if v6<(v2.length : Int) then
      idx v1 v6 fun v8 =>
      if v8.From=0 then
        idx v2 v6 fun v9 =>
        Aa5.J2 k v6 (fun v5_ v6_=>Aa5.L1 k v1 v2 n v5_ v6_) (IntKind.wrap .i64 (v5+v9))
      else
        Aa5.J2 k v6 (fun v5_ v6_=>Aa5.L1 k v1 v2 n v5_ v6_) v5
    else
      some v5
def Aa5 (k : Nat) (v0 : Int) (v1 : (List AaC)) (v2 : (List Int)) : Option Int :=
  Abe (Aa6 k v0 v1 v2) fun v4 =>
  if (!v4)=true then
    some 0
  else
    Aa5.L1 k v1 v2 k 0 0
def Acv (k : Nat) (v0 : (List Int)) : Option Bool :=
  Abe (Aev k v0) fun v2 =>
  if (!v2)=true then
    Abe (AdW k) fun v3 =>
    some v3
  else
    AfD (Afk k v0) fun v4 v5 =>
    AqC (AaT k v4 v5) fun v6 v7 v8 v9 =>
    AqC (Aai k v4 v9 v6 v7 v8) fun v10 v11 v12 v13 =>
    AfD (Aam k v4 v13 v6) fun v14 v15 =>
    AfD (Aa0 k v4 v15 v6) fun v16 v17 =>
    Abe (AbE k v14 v16) fun v18 =>
    AnM (AaN k v6 v7 v8 v10 v11 v12 v14) fun v19 v20 v21 =>
    AnM (AaN k v6 v7 v8 v10 v11 v12 v18) fun v22 v23 v24 =>
    AfD (AeD k v19 v20) fun v25 v26 =>
    AfD (AeD k v22 v23) fun v27 v28 =>
    Abe (Aa5 k v19 v20 v25) fun v29 =>
    Abe (Aa5 k v22 v23 v27) fun v30 =>
    Abe (AdW k) fun v31 =>
    if v31=true then
      if v21=0 then
        if v24=0 then
          if v29≤v30 then
            if v30≤IntKind.wrap .i64 (v29+1) then
              some (decide (v29≤(v14.length : Int)))
            else
              some false
          else
            some false
        else
          some false
      else
        some false
    else
      some false
theorem GK {P : List (List Nat×List Nat)→Prop} {c : List (List Nat×List Nat)→Bool} {l : List (List Nat×List Nat)} (g : ∀ l,c l=true→P l) (h : c l=true:=by kernel_rfl) : P l:=g l h
abbrev Q0 (l : List AaC) : AV := .lst false false (List.map AaC.av l)
abbrev Q1 (l : List AaB) : AV := .lst false false (List.map AaB.av l)
abbrev Q2 (l : List AaA) : AV := .lst false false (List.map AaA.av l)
abbrev Gi (l : List Int) : Aas := .grow (List.map (AV.int .i64) l)
abbrev Ci (l : List Int) : Aas := .cells (List.map (AV.int .i64) l)
theorem A2 {p0 p1 : Prop} (a0 : p0) (a1 : p1) : p0∧p1:=⟨a0,a1⟩
theorem A3 {p0 p1 p2 : Prop} (a0 : p0) (a1 : p1) (a2 : p2) : p0∧p1∧p2:=⟨a0,a1,a2⟩
theorem A4 {p0 p1 p2 p3 : Prop} (a0 : p0) (a1 : p1) (a2 : p2) (a3 : p3) : p0∧p1∧p2∧p3:=⟨a0,a1,a2,a3⟩
theorem A5 {p0 p1 p2 p3 p4 : Prop} (a0 : p0) (a1 : p1) (a2 : p2) (a3 : p3) (a4 : p4) : p0∧p1∧p2∧p3∧p4:=⟨a0,a1,a2,a3,a4⟩
theorem A6 {p0 p1 p2 p3 p4 p5 : Prop} (a0 : p0) (a1 : p1) (a2 : p2) (a3 : p3) (a4 : p4) (a5 : p5) : p0∧p1∧p2∧p3∧p4∧p5:=⟨a0,a1,a2,a3,a4,a5⟩
theorem A7 {p0 p1 p2 p3 p4 p5 p6 : Prop} (a0 : p0) (a1 : p1) (a2 : p2) (a3 : p3) (a4 : p4) (a5 : p5) (a6 : p6) : p0∧p1∧p2∧p3∧p4∧p5∧p6:=⟨a0,a1,a2,a3,a4,a5,a6⟩
theorem A8 {p0 p1 p2 p3 p4 p5 p6 p7 : Prop} (a0 : p0) (a1 : p1) (a2 : p2) (a3 : p3) (a4 : p4) (a5 : p5) (a6 : p6) (a7 : p7) : p0∧p1∧p2∧p3∧p4∧p5∧p6∧p7:=⟨a0,a1,a2,a3,a4,a5,a6,a7⟩
theorem A9 {p0 p1 p2 p3 p4 p5 p6 p7 p8 : Prop} (a0 : p0) (a1 : p1) (a2 : p2) (a3 : p3) (a4 : p4) (a5 : p5) (a6 : p6) (a7 : p7) (a8 : p8) : p0∧p1∧p2∧p3∧p4∧p5∧p6∧p7∧p8:=⟨a0,a1,a2,a3,a4,a5,a6,a7,a8⟩
end Go.TF
set_option maxRecDepth 100000
namespace Go.Proofs.YtelffnegemdicaaFwT
open Go Go.Abs Go.Proofs
theorem Apo : Try.prog.follows .mixedOrders=true:=by kernel_rfl
section
variable {n : Nat} {c0 : Cx} {w0 : World} {Q : Acl} {s : Nat→AV} {H : Aaj} {N : Nat} {T : Act→World→Prop}
theorem SQ {id : Nat} {ops : List Oper} {draw : Bool} {y : Code} (mu : List Nat) (gs : List (Option (Nat×Bool)))
 (h : ∀ (G : Log→Prop) (K : (Nat→AV)→Aaj→Nat→Prop),(∀ lg,(!draw||Adp ops lg)=true→G lg)→(∀ s' H' N',AW Try.prog n c0 w0 y Q s' H' N'→K s' H' N')→Ae7 Try.prog mu ops gs s H N [] (fun s' H' N' lg=>G lg∧K s' H' N'))
 (hok : Alg n ops gs=true:=by kernel_rfl) : AW Try.prog n c0 w0 (.seq (.region id ops.toArray draw) y) Q s H N:=AW.seqR Apo mu gs hok h
theorem RG {id : Nat} {ops : List Oper} {draw : Bool} (mu : List Nat) (gs : List (Option (Nat×Bool)))
 (h : ∀ (G : Log→Prop) (K : (Nat→AV)→Aaj→Nat→Prop),(∀ lg,(!draw||Adp ops lg)=true→G lg)→(∀ s' H' N',Q .normal s' H' N'→K s' H' N')→Ae7 Try.prog mu ops gs s H N [] (fun s' H' N' lg=>G lg∧K s' H' N'))
 (hok : Alg n ops gs=true:=by kernel_rfl) : AW Try.prog n c0 w0 (.region id ops.toArray draw) Q s H N:=AW.region Apo mu gs hok h
theorem WK {x : Code} (l : List (Nat×AV)) (hl : List (Nat×Aas)) (N' : Nat) (h1 : ∀ p ∈ l,s p.1=p.2) (h2 : ∀ p ∈ hl,H p.1=some p.2) (h : AW Try.prog n c0 w0 x Q (mkS l) (mkH hl) N') (hN : N≤N':=by simp) : AW Try.prog n c0 w0 x Q s H N:=AW.wk l hl N' h1 h2 hN h
theorem RN (h0 : AcT c0 0) (ρ : List (Nat×Nat)) (l : List (Nat×AV)) (o : List (Nat×Aas)) (M : Nat)
 (h1 : ∀ p ∈ l,s p.1=Abs.ren (AeN ρ) p.2∧gd (fun i=>(Abs.AfV ρ i).isSome=true) p.2)
 (h2 : ∀ p ∈ o,H (AeN ρ p.1)=some (AfT (AeN ρ) p.2)∧gdO (fun i=>(Abs.AfV ρ i).isSome=true) p.2)
 (h : Abs.Can n c0 w0 (mkS l) (mkH o) M T) (hρ1 : (ρ.map (·.2)).Nodup:=by decide) (hρ2 : ∀ p ∈ ρ,p.1<M∧(p.1<0→p.1=p.2):=by decide) (hk : o.map (·.1)=ρ.map (·.1):=by rfl) : Abs.Can n c0 w0 s H N T:=Abs.Can.ren h0 ρ l o M hρ1 hρ2 (Nat.zero_le _) hk h1 h2 h
theorem RM {x : Code} (h0 : AcT c0 0) (ρ : List (Nat×Nat)) (l : List (Nat×AV)) (o : List (Nat×Aas)) (M : Nat)
 (h1 : ∀ p ∈ l,s p.1=Abs.ren (AeN ρ) p.2∧gd (fun i=>(Abs.AfV ρ i).isSome=true) p.2)
 (h2 : ∀ p ∈ o,H (AeN ρ p.1)=some (AfT (AeN ρ) p.2)∧gdO (fun i=>(Abs.AfV ρ i).isSome=true) p.2)
 (h : AW Try.prog n c0 w0 x Q (mkS l) (mkH o) M) (hρ1 : (ρ.map (·.2)).Nodup:=by decide) (hρ2 : ∀ p ∈ ρ,p.1<M∧(p.1<0→p.1=p.2):=by decide) (hk : o.map (·.1)=ρ.map (·.1):=by rfl) : AW Try.prog n c0 w0 x Q s H N:=AW.rnm h0 ρ l o M hρ1 hρ2 (Nat.zero_le _) hk h1 h2 h
theorem AC {f : FuncId} {args : List AV} {K : CK} {args0 : List AV} {r : AV} {O' : List (Option Aas)} (hF : Aa9 Try.prog f args0 [] r O') (hco : AlM H (nm []) args args0 [])
 (hk : K (ren (nm ([]++AfU N (O'.length-([] : List Aas).length))) r) (Ajo (nm ([]++AfU N (O'.length-([] : List Aas).length))) H ([]++AfU N (O'.length-([] : List Aas).length)) O') (N+(O'.length-([] : List Aas).length)) ([]++[]) ([]++AfU N (O'.length-([] : List Aas).length)))
 (hcal : AaU Try.prog f=true:=by simp) (hun : ApQ [] [] [] O':=by simp) : AlJ Try.prog f args H N K :=
 Aa1 hF hcal [] [] [] rfl hco trivial .nil (by simp) (by simp) (.inl rfl) (by simp) hun hk
theorem CT {t : Nat} {x y : Code} (hb : s t = .bool true) (h : AW Try.prog n c0 w0 x Q s H N) (ht : decide (t<n)=true:=by decide) : AW Try.prog n c0 w0 (.cond (.tmp t) x y) Q s H N:=AW.condT ht hb h
theorem CF {t : Nat} {x y : Code} (hb : s t = .bool false) (h : AW Try.prog n c0 w0 y Q s H N) (ht : decide (t<n)=true:=by decide) : AW Try.prog n c0 w0 (.cond (.tmp t) x y) Q s H N:=AW.condF ht hb h
theorem EN {f : FuncId} {fn : Func} {code : Code} {args : List AV} {O : List Aas} {r : AV} {O' : List (Option Aas)} (hf : Try.prog.funcs[f]? = some fn)
 (h : ∀ (c0 : Cx) (w0 : World) (Q : Acl),AcT c0 O.length→(∀ s H N,Afd Try.prog s H fn.results.toList r→(∀ i,i<O'.length→H i=nth O' i)→Q .ret s H N∧Q .normal s H N)→AW Try.prog fn.ntmps c0 w0 code Q (AnS args) (fun i=>O[i]?) O.length)
 (hb : fn.body=some code:=by rfl) (hm : args.length≤fn.ntmps:=by simp) (hin : Agh fn.ntmps fn.results.toList=true:=by decide)
 (len : O.length≤O'.length:=by simp) (ga : gdL (· < O.length) args:=by simp) (gO : ∀ o ∈ O,gdO (· < O.length) o:=by simp) (gr : gd (fun i=>(nth O' i).isSome=true) r:=by simp) (gO' : ∀ o,some o ∈ O'→gdO (fun i=>(nth O' i).isSome=true) o:=by simp) : Aa9 Try.prog f args O r O':=Aa9.enter hf hb hm hin len ga gO gr gO' h
theorem NX {α : Type} {F : Nat→α→Prop} {L : α→List (Nat×AV)} {O : α→List (Nat×Aas)} {M k k' : Nat} (y : α) (hF : F k' y) (h1 : ∀ p ∈ L y,s p.1=p.2) (h2 : ∀ p ∈ O y,H p.1=some p.2) (hk : k'<k:=by omega) (hN : N≤M:=by simp) :
 Abs.Can n c0 w0 s H N (fun a w=>∃ k' y,k'<k∧F k' y∧St n c0 w0 (mkS (L y)) (mkH (O y)) M a w):=Abs.Can.next y hk hF h1 h2 hN
theorem JN {α : Type} {F : α→Prop} {L : α→List (Nat×AV)} {O : α→List (Nat×Aas)} {M : Nat} (y : α) (hF : F y) (h1 : ∀ p ∈ L y,s p.1=p.2) (h2 : ∀ p ∈ O y,H p.1=some p.2) (hN : N≤M:=by simp) :
 Abs.Can n c0 w0 s H N (fun a w=>∃ y,F y∧St n c0 w0 (mkS (L y)) (mkH (O y)) M a w):=Abs.Can.join y hF h1 h2 hN
end
@[simp↓] theorem AsA {P : Program} {mu : List Nat} {d : Option Nat} {s : Nat→AV} {H : Aaj} {N : Nat} {K : CK} {y : Operand} : bop P mu d s H N K (.move y)=K (ev s y) H N [] []:=bop.eq_1 ..
@[simp↓] theorem AsB {P : Program} {mu : List Nat} {d : Option Nat} {s : Nat→AV} {H : Aaj} {N : Nat} {K : CK} {y : Operand} : bop P mu d s H N K (.assign y)=K (ev s y) H N [] []:=bop.eq_2 ..
@[simp] theorem t0 : AcZ Try.prog 0=some false∧Aba Try.prog 0=some 1:=by and_intros <;> kernel_rfl
@[simp] theorem t1 : AcZ Try.prog 1=some false∧Aba Try.prog 1=some 1∧Aby Try.prog 1=some [AV.nilfn]∧Abk Try.prog 1=some AV.nilfn:=by and_intros <;> kernel_rfl
@[simp] theorem t2 : AcZ Try.prog 2=some false∧Aba Try.prog 2=some 1∧Aby Try.prog 2=some [AV.int .i64 0]∧Abk Try.prog 2=some (AV.int .i64 0)∧Ai8 Try.prog 2=some IntKind.i64:=by and_intros <;> kernel_rfl
@[simp] theorem t3 : AcZ Try.prog 3=some false∧Aba Try.prog 3=some 1∧Aby Try.prog 3=some [AV.int .i64 0]∧Abk Try.prog 3=some (AV.int .i64 0)∧Ai8 Try.prog 3=some IntKind.i64:=by and_intros <;> kernel_rfl
@[simp] theorem t4 : AcZ Try.prog 4=some false∧Aba Try.prog 4=some 1∧Aby Try.prog 4=some [AV.bool false]∧Abk Try.prog 4=some (AV.bool false)∧Try.prog.underlying 4=some Go.TypeDesc.bool:=by and_intros <;> kernel_rfl
@[simp] theorem t5 : AcZ Try.prog 5=some false∧Aba Try.prog 5=some 1∧Aby Try.prog 5=some [AV.int .u8 0]∧Abk Try.prog 5=some (AV.int .u8 0)∧Ai8 Try.prog 5=some IntKind.u8:=by and_intros <;> kernel_rfl
@[simp] theorem t9 : Aj7 Try.prog 9=true∧AcZ Try.prog 9=some false∧Aba Try.prog 9=some 1∧Aby Try.prog 9=some [AV.str { data := { toList:=[] } }]∧Abk Try.prog 9=some (AV.str { data := { toList:=[] } })∧Acq Try.prog 9=true:=by and_intros <;> kernel_rfl
@[simp] theorem t22 : Aa2 Try.prog 22=some (3,1,8)∧AlL Try.prog 22=true∧AcZ Try.prog 22=some false∧Aba Try.prog 22=some 1∧Aby Try.prog 22=some [AV.lst true true []]∧Abk Try.prog 22=some (AV.lst true true [])∧Acq Try.prog 22=true∧Try.prog.underlying 22=some (Go.TypeDesc.slice 3):=by and_intros <;> kernel_rfl
@[simp] theorem t27 : Aa2 Try.prog 27=some (65,3,24)∧AlL Try.prog 27=true∧AcZ Try.prog 27=some false∧Aba Try.prog 27=some 1∧Aby Try.prog 27=some [AV.lst true true []]∧Abk Try.prog 27=some (AV.lst true true [])∧Acq Try.prog 27=true∧Try.prog.underlying 27=some (Go.TypeDesc.slice 65):=by and_intros <;> kernel_rfl
@[simp] theorem t29 : AcZ Try.prog 29=some true∧Aba Try.prog 29=some 3∧Aby Try.prog 29=some [AV.int .i64 0,AV.lst true true [],AV.lst true true []]∧Abk Try.prog 29=some (AV.agg [AV.int .i64 0,AV.lst true true [],AV.lst true true []])∧Acc Try.prog 29=true:=by and_intros <;> kernel_rfl
@[simp] theorem t32 : AcZ Try.prog 32=some true∧Aba Try.prog 32=some 3∧Aby Try.prog 32=some [AV.lst true true [],AV.lst true true [],AV.int .i64 0]∧Abk Try.prog 32=some (AV.agg [AV.lst true true [],AV.lst true true [],AV.int .i64 0])∧Acc Try.prog 32=true:=by and_intros <;> kernel_rfl
@[simp] theorem t35 : Aa2 Try.prog 35=some (46,3,24)∧AlL Try.prog 35=true∧AcZ Try.prog 35=some false∧Aba Try.prog 35=some 1∧Aby Try.prog 35=some [AV.lst true true []]∧Abk Try.prog 35=some (AV.lst true true [])∧Acq Try.prog 35=true∧Try.prog.underlying 35=some (Go.TypeDesc.slice 46):=by and_intros <;> kernel_rfl
@[simp] theorem t37 : AcZ Try.prog 37=some true∧Aba Try.prog 37=some 2∧Aby Try.prog 37=some [AV.int .i64 0,AV.lst true true []]∧Abk Try.prog 37=some (AV.agg [AV.int .i64 0,AV.lst true true []])∧Acc Try.prog 37=true:=by and_intros <;> kernel_rfl
@[simp] theorem t46 : AcZ Try.prog 46=some true∧Aba Try.prog 46=some 3∧Aby Try.prog 46=some [AV.int .i64 0,AV.int .i64 0,AV.int .i64 0]∧Abk Try.prog 46=some (AV.agg [AV.int .i64 0,AV.int .i64 0,AV.int .i64 0])∧Acc Try.prog 46=true∧An0 Try.prog 46=some [Abj.int .i64,Abj.int .i64,Abj.int .i64]:=by and_intros <;> kernel_rfl
@[simp] theorem t56 : Aa2 Try.prog 56=some (22,1,24)∧AlL Try.prog 56=true∧AcZ Try.prog 56=some false∧Aba Try.prog 56=some 1∧Aby Try.prog 56=some [AV.lst true true []]∧Abk Try.prog 56=some (AV.lst true true [])∧Acq Try.prog 56=true∧Try.prog.underlying 56=some (Go.TypeDesc.slice 22):=by and_intros <;> kernel_rfl
@[simp] theorem t63 : AcZ Try.prog 63=some false∧Aba Try.prog 63=some 1∧Aby Try.prog 63=some [AV.int .u64 0]∧Abk Try.prog 63=some (AV.int .u64 0)∧Ai8 Try.prog 63=some IntKind.u64:=by and_intros <;> kernel_rfl
@[simp] theorem t65 : AcZ Try.prog 65=some true∧Aba Try.prog 65=some 3∧Aby Try.prog 65=some [AV.int .i64 0,AV.int .i64 0,AV.int .i64 0]∧Abk Try.prog 65=some (AV.agg [AV.int .i64 0,AV.int .i64 0,AV.int .i64 0])∧Acc Try.prog 65=true∧An0 Try.prog 65=some [Abj.int .i64,Abj.int .i64,Abj.int .i64]:=by and_intros <;> kernel_rfl
@[simp] theorem t73 : AcZ Try.prog 73=some true∧Aba Try.prog 73=some 2∧Aby Try.prog 73=some [AV.lst true true [],AV.int .i64 0]∧Abk Try.prog 73=some (AV.agg [AV.lst true true [],AV.int .i64 0])∧Acc Try.prog 73=true:=by and_intros <;> kernel_rfl
@[simp] theorem t93 : AcZ Try.prog 98=some false∧Aba Try.prog 98=some 1∧Aby Try.prog 98=some [AV.nilmap]∧Abk Try.prog 98=some AV.nilmap∧Ae5 Try.prog 98=some (Abj.int .i64,AV.int .i64 0):=by and_intros <;> kernel_rfl
@[simp] theorem t99 : Aa2 Try.prog 106=some (122,1,24)∧AlL Try.prog 106=true∧AcZ Try.prog 106=some false∧Aba Try.prog 106=some 1∧Aby Try.prog 106=some [AV.lst true true []]∧Abk Try.prog 106=some (AV.lst true true [])∧Acq Try.prog 106=true∧Try.prog.underlying 106=some (Go.TypeDesc.slice 122):=by and_intros <;> kernel_rfl
@[simp] theorem Asf : AcZ Try.prog 108=some true∧Aba Try.prog 108=some 4∧Aby Try.prog 108=some [AV.int .i64 0,AV.lst true true [],AV.lst true true [],AV.lst true true []]∧Abk Try.prog 108=some (AV.agg [AV.int .i64 0,AV.lst true true [],AV.lst true true [],AV.lst true true []])∧Acc Try.prog 108=true:=by and_intros <;> kernel_rfl
@[simp] theorem Ase : Aa2 Try.prog 122=some (124,2,16)∧AlL Try.prog 122=true∧AcZ Try.prog 122=some false∧Aba Try.prog 122=some 1∧Aby Try.prog 122=some [AV.lst true true []]∧Abk Try.prog 122=some (AV.lst true true [])∧Acq Try.prog 122=true∧Try.prog.underlying 122=some (Go.TypeDesc.slice 124):=by and_intros <;> kernel_rfl
@[simp] theorem Asd : AcZ Try.prog 124=some true∧Aba Try.prog 124=some 2∧Aby Try.prog 124=some [AV.int .i64 0,AV.bool false]∧Abk Try.prog 124=some (AV.agg [AV.int .i64 0,AV.bool false])∧Acc Try.prog 124=true∧An0 Try.prog 124=some [Abj.int .i64,Abj.bool]:=by and_intros <;> kernel_rfl
@[simp] theorem Asc : AcZ Try.prog 125=some false∧Aba Try.prog 125=some 1∧Aby Try.prog 125=some [AV.nilmap]∧Abk Try.prog 125=some AV.nilmap∧Ae5 Try.prog 125=some (Abj.int .i64,AV.agg [AV.int .i64 0,AV.bool false]):=by and_intros <;> kernel_rfl
@[simp] theorem Asb : AdI Try.prog 29 0=some (0,1)∧Ab4 Try.prog 29 0=some 0∧AcK Try.prog 29 0=some (0,none)∧AdI Try.prog 29 1=some (1,1)∧Ab4 Try.prog 29 1=some 1∧AcK Try.prog 29 1=some (1,none)∧AdI Try.prog 29 2=some (2,1)∧Ab4 Try.prog 29 2=some 2∧AcK Try.prog 29 2=some (2,none):=by and_intros <;> kernel_rfl
@[simp] theorem Asa : AdI Try.prog 32 0=some (0,1)∧Ab4 Try.prog 32 0=some 0∧AcK Try.prog 32 0=some (0,none)∧AdI Try.prog 32 1=some (1,1)∧Ab4 Try.prog 32 1=some 1∧AcK Try.prog 32 1=some (1,none)∧AdI Try.prog 32 2=some (2,1)∧Ab4 Try.prog 32 2=some 2∧AcK Try.prog 32 2=some (2,none):=by and_intros <;> kernel_rfl
@[simp] theorem AsZ : AdI Try.prog 37 0=some (0,1)∧Ab4 Try.prog 37 0=some 0∧AcK Try.prog 37 0=some (0,none)∧AdI Try.prog 37 1=some (1,1)∧Ab4 Try.prog 37 1=some 1∧AcK Try.prog 37 1=some (1,none):=by and_intros <;> kernel_rfl
@[simp] theorem AsY : AdI Try.prog 46 0=some (0,1)∧Ab4 Try.prog 46 0=some 0∧AcK Try.prog 46 0=some (0,none)∧AdI Try.prog 46 1=some (1,1)∧Ab4 Try.prog 46 1=some 1∧AcK Try.prog 46 1=some (1,none)∧AdI Try.prog 46 2=some (2,1)∧Ab4 Try.prog 46 2=some 2∧AcK Try.prog 46 2=some (2,none):=by and_intros <;> kernel_rfl
@[simp] theorem AsX : AdI Try.prog 65 0=some (0,1)∧Ab4 Try.prog 65 0=some 0∧AcK Try.prog 65 0=some (0,none)∧AdI Try.prog 65 1=some (1,1)∧Ab4 Try.prog 65 1=some 1∧AcK Try.prog 65 1=some (1,none)∧AdI Try.prog 65 2=some (2,1)∧Ab4 Try.prog 65 2=some 2∧AcK Try.prog 65 2=some (2,none):=by and_intros <;> kernel_rfl
@[simp] theorem AsW : AdI Try.prog 73 0=some (0,1)∧Ab4 Try.prog 73 0=some 0∧AcK Try.prog 73 0=some (0,none)∧AdI Try.prog 73 1=some (1,1)∧Ab4 Try.prog 73 1=some 1∧AcK Try.prog 73 1=some (1,none):=by and_intros <;> kernel_rfl
@[simp] theorem AsV : AdI Try.prog 108 0=some (0,2)∧Ab4 Try.prog 108 0=some 0∧AcK Try.prog 108 0=some (0,some 2)∧AdI Try.prog 108 1=some (2,1)∧Ab4 Try.prog 108 1=some 2∧AcK Try.prog 108 1=some (2,none)∧AdI Try.prog 108 2=some (3,1)∧Ab4 Try.prog 108 2=some 3∧AcK Try.prog 108 2=some (3,none):=by and_intros <;> kernel_rfl
@[simp] theorem AsU : AdI Try.prog 124 0=some (0,1)∧Ab4 Try.prog 124 0=some 0∧AcK Try.prog 124 0=some (0,none)∧AdI Try.prog 124 1=some (1,1)∧Ab4 Try.prog 124 1=some 1∧AcK Try.prog 124 1=some (1,none):=by and_intros <;> kernel_rfl
@[simp] theorem c0 : AaU Try.prog 4=true∧AaU Try.prog 9=true∧AaU Try.prog 10=true∧AaU Try.prog 11=true∧AaU Try.prog 12=true∧AaU Try.prog 13=true∧AaU Try.prog 14=true∧AaU Try.prog 15=true∧AaU Try.prog 16=true∧AaU Try.prog 17=true∧AaU Try.prog 19=true∧AaU Try.prog 20=true∧AaU Try.prog 21=true∧AaU Try.prog 22=true∧AaU Try.prog 23=true∧AaU Try.prog 26=true∧AaU Try.prog 27=true∧AaU Try.prog 35=true∧AaU Try.prog 36=true∧AaU Try.prog 37=true∧AaU Try.prog 38=true∧AaU Try.prog 39=true∧AaU Try.prog 40=true∧AaU Try.prog 41=true∧AaU Try.prog 42=true∧AaU Try.prog 43=true∧AaU Try.prog 44=true∧AaU Try.prog 45=true∧AaU Try.prog 46=true∧AaU Try.prog 47=true:=by and_intros <;> kernel_rfl
@[simp] theorem c30 : AaU Try.prog 51=true∧AaU Try.prog 56=true∧AaU Try.prog 63=true∧AaU Try.prog 64=true∧AaU Try.prog 65=true∧AaU Try.prog 66=true∧AaU Try.prog 67=true∧AaU Try.prog 68=true∧AaU Try.prog 69=true∧AaU Try.prog 70=true∧AaU Try.prog 71=true∧AaU Try.prog 72=true∧AaU Try.prog 73=true∧AaU Try.prog 74=true∧AaU Try.prog 75=true∧AaU Try.prog 76=true∧AaU Try.prog 77=true∧AaU Try.prog 78=true∧AaU Try.prog 79=true∧AaU Try.prog 80=true∧AaU Try.prog 81=true∧AaU Try.prog 88=true∧AaU Try.prog 90=true∧AaU Try.prog 91=true∧AaU Try.prog 92=true∧AaU Try.prog 93=true∧AaU Try.prog 94=true∧AaU Try.prog 95=true∧AaU Try.prog 96=true∧AaU Try.prog 97=true:=by and_intros <;> kernel_rfl
@[simp] theorem c60 : AaU Try.prog 98=true∧AaU Try.prog 99=true∧AaU Try.prog 100=true∧AaU Try.prog 101=true∧AaU Try.prog 102=true∧AaU Try.prog 103=true∧AaU Try.prog 104=true∧AaU Try.prog 105=true∧AaU Try.prog 108=true∧AaU Try.prog 109=true∧AaU Try.prog 110=true∧AaU Try.prog 111=true∧AaU Try.prog 112=true∧AaU Try.prog 113=true∧AaU Try.prog 114=true∧AaU Try.prog 115=true∧AaU Try.prog 116=true∧AaU Try.prog 117=true∧AaU Try.prog 118=true∧AaU Try.prog 119=true∧AaU Try.prog 120=true∧AaU Try.prog 121=true∧AaU Try.prog 122=true∧AaU Try.prog 123=true∧AaU Try.prog 124=true∧AaU Try.prog 125=true∧AaU Try.prog 126=true∧AaU Try.prog 127=true∧AaU Try.prog 128=true∧AaU Try.prog 129=true:=by and_intros <;> kernel_rfl
end Go.Proofs.YtelffnegemdicaaFwT
namespace Go.TF
open Go Go.Abs
end Go.TF
