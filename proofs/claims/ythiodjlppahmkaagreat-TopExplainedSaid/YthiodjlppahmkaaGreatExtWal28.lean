import Derived.Test.YthiodjlppahmkaaGreatExtLay27
set_option linter.unusedVariables false
set_option maxRecDepth 100000
namespace Go.TF
open Go Go.Abs
abbrev Iz (n : Int) : AV := .int .i64 n
abbrev Lz (l : List Int) : AV := .lst false false (l.map (.int .i64))
abbrev Lb (l : List Int) : AV := .lst false false (l.map (.int .u8))
abbrev Lw (l : List Int) : AV := .lst false false (l.map (.int .u32))
structure AaB where
  From : Int
  To : Int
  Level : Int
@[simp] def AaB.av (x : AaB) : AV:=AV.agg [AV.int .i64 x.From,AV.int .i64 x.To,AV.int .i64 x.Level]
@[simp] theorem AaB.okEls (l : List AaB) : okEls 3 (l.map AaB.av)↔True:=iff_true_intro (Acw.2 fun x hx=>by
  simp only [List.mem_map] at hx
  obtain ⟨b,_,rfl⟩:=hx
  simp)
@[simp] theorem AaB.gdF (S : Nat→Prop) (l : List AaB) : gdL S (AaI (l.map AaB.av))↔True:=iff_true_intro (AiF (by simp) l)
@[simp] theorem AaB.frF (l : List AaB) : Ac7 (AaI (l.map AaB.av))=true:=Agh (by simp) l
@[simp] theorem AaB.renF (σ : Nat→Nat) (l : List AaB) : AdP σ (AaI (l.map AaB.av))=AaI (l.map AaB.av):=Agy (by simp) l
@[simp] theorem AaB.lenF (l : List AaB) : (AaI (l.map AaB.av)).length=l.length*3:=AcK (F:=AaB.av) (fun _=>rfl) l
@[simp↓] theorem AaB.oneF (l : List AaB) : (AaI (l.map AaB.av)).all AV.one=true:=Ah9 (by simp) l
@[simp] theorem AaB.setR (σ : Nat→Nat) (l : List AaB) (i : Nat) (f0 f1 f2 : Int) : AdP σ (AaI ((l.map AaB.av).set i (AV.agg [AV.int .i64 f0,AV.int .i64 f1,AV.int .i64 f2])))=AaI ((l.map AaB.av).set i (AV.agg [AV.int .i64 f0,AV.int .i64 f1,AV.int .i64 f2])):=by
  have h:=AaB.renF σ (l.set i (AaB.mk f0 f1 f2))
  rw [List.map_set] at h; exact h
@[simp] theorem AaB.setG (S : Nat→Prop) (l : List AaB) (i : Nat) (f0 f1 f2 : Int) : gdL S (AaI ((l.map AaB.av).set i (AV.agg [AV.int .i64 f0,AV.int .i64 f1,AV.int .i64 f2])))↔True:=by
  have h:=AaB.gdF S (l.set i (AaB.mk f0 f1 f2))
  rw [List.map_set] at h; exact h
@[simp] theorem AaB.setF (l : List AaB) (i : Nat) (f0 f1 f2 : Int) : Ac7 (AaI ((l.map AaB.av).set i (AV.agg [AV.int .i64 f0,AV.int .i64 f1,AV.int .i64 f2])))=true:=by
  have h:=AaB.frF (l.set i (AaB.mk f0 f1 f2))
  rw [List.map_set] at h; exact h
@[simp] theorem AaB.len_take (i : Nat) (l : List AaB) : (AaI (List.take i (l.map AaB.av))).length=(l.take i).length*3:=by rw [← List.map_take]; exact AaB.lenF _
@[simp] theorem AaB.ren_take (σ : Nat→Nat) (i : Nat) (l : List AaB) : AdP σ (AaI (List.take i (l.map AaB.av)))=AaI (List.take i (l.map AaB.av)):=by rw [← List.map_take]; exact AaB.renF σ _
@[simp] theorem AaB.gd_take (S : Nat→Prop) (i : Nat) (l : List AaB) : gdL S (AaI (List.take i (l.map AaB.av)))↔True:=by rw [← List.map_take]; exact AaB.gdF S _
@[simp] theorem AaB.one_take (i : Nat) (l : List AaB) : (∀ x : AV,x ∈ AaI (List.take i (l.map AaB.av))→x.one=true)↔True:=iff_true_intro (List.all_eq_true.1 (by rw [← List.map_take]; exact AaB.oneF _))
@[simp] theorem AaB.len_drop (i : Nat) (l : List AaB) : (AaI (List.drop i (l.map AaB.av))).length=(l.drop i).length*3:=by rw [← List.map_drop]; exact AaB.lenF _
@[simp] theorem AaB.ren_drop (σ : Nat→Nat) (i : Nat) (l : List AaB) : AdP σ (AaI (List.drop i (l.map AaB.av)))=AaI (List.drop i (l.map AaB.av)):=by rw [← List.map_drop]; exact AaB.renF σ _
@[simp] theorem AaB.gd_drop (S : Nat→Prop) (i : Nat) (l : List AaB) : gdL S (AaI (List.drop i (l.map AaB.av)))↔True:=by rw [← List.map_drop]; exact AaB.gdF S _
@[simp] theorem AaB.ids (S : Nat→Prop) (l : List AaB) : AbP S (l.map AaB.av)↔True:=iff_true_intro (Af8 (by simp) l)
structure AaP where
  Key : Int
  Side : (List Int)
@[simp] def AaP.av (x : AaP) : AV:=AV.agg [AV.int .i64 x.Key,sl (AV.int .i64) x.Side]
@[simp] theorem AaP.okEls (l : List AaP) : okEls 2 (l.map AaP.av)↔True:=iff_true_intro (Acw.2 fun x hx=>by
  simp only [List.mem_map] at hx
  obtain ⟨b,_,rfl⟩:=hx
  simp)
@[simp] theorem AaP.gdF (S : Nat→Prop) (l : List AaP) : gdL S (AaI (l.map AaP.av))↔True:=iff_true_intro (AiF (by simp) l)
@[simp] theorem AaP.renF (σ : Nat→Nat) (l : List AaP) : AdP σ (AaI (l.map AaP.av))=AaI (l.map AaP.av):=Agy (by simp) l
@[simp] theorem AaP.lenF (l : List AaP) : (AaI (l.map AaP.av)).length=l.length*2:=AcK (F:=AaP.av) (fun _=>rfl) l
@[simp↓] theorem AaP.oneF (l : List AaP) : (AaI (l.map AaP.av)).all AV.one=true:=Ah9 (by simp) l
@[simp] theorem AaP.ids (S : Nat→Prop) (l : List AaP) : AbP S (l.map AaP.av)↔True:=iff_true_intro (Af8 (by simp) l)
structure AaC where
  From : Int
  To : Int
  Cap : Int
@[simp] def AaC.av (x : AaC) : AV:=AV.agg [AV.int .i64 x.From,AV.int .i64 x.To,AV.int .i64 x.Cap]
@[simp] theorem AaC.okEls (l : List AaC) : okEls 3 (l.map AaC.av)↔True:=iff_true_intro (Acw.2 fun x hx=>by
  simp only [List.mem_map] at hx
  obtain ⟨b,_,rfl⟩:=hx
  simp)
@[simp] theorem AaC.gdF (S : Nat→Prop) (l : List AaC) : gdL S (AaI (l.map AaC.av))↔True:=iff_true_intro (AiF (by simp) l)
@[simp] theorem AaC.frF (l : List AaC) : Ac7 (AaI (l.map AaC.av))=true:=Agh (by simp) l
@[simp] theorem AaC.renF (σ : Nat→Nat) (l : List AaC) : AdP σ (AaI (l.map AaC.av))=AaI (l.map AaC.av):=Agy (by simp) l
@[simp] theorem AaC.lenF (l : List AaC) : (AaI (l.map AaC.av)).length=l.length*3:=AcK (F:=AaC.av) (fun _=>rfl) l
@[simp↓] theorem AaC.oneF (l : List AaC) : (AaI (l.map AaC.av)).all AV.one=true:=Ah9 (by simp) l
@[simp] theorem AaC.ids (S : Nat→Prop) (l : List AaC) : AbP S (l.map AaC.av)↔True:=iff_true_intro (Af8 (by simp) l)
structure AaA where
  arc : Int
  back : Bool
@[simp] def AaA.av (x : AaA) : AV:=AV.agg [AV.int .i64 x.arc,AV.bool x.back]
@[simp] theorem AaA.okEls (l : List AaA) : okEls 2 (l.map AaA.av)↔True:=iff_true_intro (Acw.2 fun x hx=>by
  simp only [List.mem_map] at hx
  obtain ⟨b,_,rfl⟩:=hx
  simp)
@[simp] theorem AaA.gdF (S : Nat→Prop) (l : List AaA) : gdL S (AaI (l.map AaA.av))↔True:=iff_true_intro (AiF (by simp) l)
@[simp] theorem AaA.frF (l : List AaA) : Ac7 (AaI (l.map AaA.av))=true:=Agh (by simp) l
@[simp] theorem AaA.renF (σ : Nat→Nat) (l : List AaA) : AdP σ (AaI (l.map AaA.av))=AaI (l.map AaA.av):=Agy (by simp) l
@[simp] theorem AaA.lenF (l : List AaA) : (AaI (l.map AaA.av)).length=l.length*2:=AcK (F:=AaA.av) (fun _=>rfl) l
@[simp↓] theorem AaA.oneF (l : List AaA) : (AaI (l.map AaA.av)).all AV.one=true:=Ah9 (by simp) l
@[simp] theorem AaA.mpR (σ : Nat→Nat) (k : IntKind) (l : List (Int×AaA)) : AeR σ (.mp (mpA (AV.int k) AaA.av l)) = .mp (mpA (AV.int k) AaA.av l):=Ano σ _ _ l (by simp) (by simp)
@[simp] theorem AaA.mpG (S : Nat→Prop) (k : IntKind) (l : List (Int×AaA)) : gdO S (.mp (mpA (AV.int k) AaA.av l))↔True:=Ap7 S _ _ l (by simp) (by simp)
@[simp] theorem AaA.mpF (k : IntKind) (l : List (Int×AaA)) : Ae6 (.mp (mpA (AV.int k) AaA.av l))=true:=Aow _ _ l (by simp) (by simp)
@[simp] theorem AaA.mpPR (σ : Nat→Nat) (k : IntKind) (l : List (Int×AaA)) (i f0 : Int) (f1 : Bool) : AeR σ (.mp (Aeo (mpA (AV.int k) AaA.av l) (AV.int k i) (AV.agg [AV.int .i64 f0,AV.bool f1]))) = .mp (Aeo (mpA (AV.int k) AaA.av l) (AV.int k i) (AV.agg [AV.int .i64 f0,AV.bool f1])):=by
  have h:=AaA.mpR σ k (Agm l i (AaA.mk f0 f1))
  rw [Akr] at h; exact h
@[simp] theorem AaA.mpPG (S : Nat→Prop) (k : IntKind) (l : List (Int×AaA)) (i f0 : Int) (f1 : Bool) : gdO S (.mp (Aeo (mpA (AV.int k) AaA.av l) (AV.int k i) (AV.agg [AV.int .i64 f0,AV.bool f1])))↔True:=by
  have h:=AaA.mpG S k (Agm l i (AaA.mk f0 f1))
  rw [Akr] at h; exact h
@[simp] theorem AaA.ids (S : Nat→Prop) (l : List AaA) : AbP S (l.map AaA.av)↔True:=iff_true_intro (Af8 (by simp) l)
def AhB (k : Nat) : Option (List Int) :=
  chk ((List.replicate 64 0).length=64∧([1116352408,1899447441,3049323471,3921009573,961987163,1508970993,2453635748,2870763221,3624381080,310598401,607225278,1426881987,1925078388,2162078206,2614888103,3248222580,3835390401,4022224774,264347078,604807628,770255983,1249150122,1555081692,1996064986,2554220882,2821834349,2952996808,3210313671,3336571891,3584528711,113926993,338241895,666307205,773529912,1294757372,1396182291,1695183700,1986661051,2177026350,2456956037,2730485921,2820302411,3259730800,3345764771,3516065817,3600352804,4094571909,275423344,430227734,506948616,659060556,883997877,958139571,1322822218,1537002063,1747873779,1955562222,2024104815,2227730452,2361852424,2428436474,2756734187,3204031479,3329325298] : List Int).length=64) <|
  chk (([1116352408,1899447441,3049323471,3921009573,961987163,1508970993,2453635748,2870763221,3624381080,310598401,607225278,1426881987,1925078388,2162078206,2614888103,3248222580,3835390401,4022224774,264347078,604807628,770255983,1249150122,1555081692,1996064986,2554220882,2821834349,2952996808,3210313671,3336571891,3584528711,113926993,338241895,666307205,773529912,1294757372,1396182291,1695183700,1986661051,2177026350,2456956037,2730485921,2820302411,3259730800,3345764771,3516065817,3600352804,4094571909,275423344,430227734,506948616,659060556,883997877,958139571,1322822218,1537002063,1747873779,1955562222,2024104815,2227730452,2361852424,2428436474,2756734187,3204031479,3329325298] : List Int).length=64) <|
  some ([1116352408,1899447441,3049323471,3921009573,961987163,1508970993,2453635748,2870763221,3624381080,310598401,607225278,1426881987,1925078388,2162078206,2614888103,3248222580,3835390401,4022224774,264347078,604807628,770255983,1249150122,1555081692,1996064986,2554220882,2821834349,2952996808,3210313671,3336571891,3584528711,113926993,338241895,666307205,773529912,1294757372,1396182291,1695183700,1986661051,2177026350,2456956037,2730485921,2820302411,3259730800,3345764771,3516065817,3600352804,4094571909,275423344,430227734,506948616,659060556,883997877,958139571,1322822218,1537002063,1747873779,1955562222,2024104815,2227730452,2361852424,2428436474,2756734187,3204031479,3329325298] : List Int)
def AdU (k : Nat) (v0 v1 : Int) : Option Int :=
  chk ((0 : Int)≤Aah .and .u64 (IntKind.wrap .u64 v1) 31) <|
  chk ((0 : Int)≤IntKind.wrap .u64 (32-Aah .and .u64 (IntKind.wrap .u64 v1) 31)) <|
  some (Aah .or .u32 (IntKind.wrap .u32 (v0*2 ^ (min ((Aah .and .u64 (IntKind.wrap .u64 v1) 31).toNat) 32))) (Int.fdiv v0 (2 ^ (min ((IntKind.wrap .u64 (32-Aah .and .u64 (IntKind.wrap .u64 v1) 31)).toNat) 32))))
def Aav (k : Nat) (v0 v1 : Int) : Option Int :=
  AbK (AdU k v0 (IntKind.wrap .i64 (-v1))) fun v3 =>
  some v3
def Aal.L4 (k : Nat) (v21 : (List Int)) : Nat→Int→(List Int)→Option (List Int)
  | 0,_,_=>none
  | n+1,v38,v39 =>
    if v38<8 then
      chk ((0 : Int)≤v38∧v38<8∧(v38).toNat<v39.length) <|
      idx v39 v38 fun v40 =>
      chk ((0 : Int)≤v38∧v38<8∧(v38).toNat<v21.length) <|
      idx v21 v38 fun v41 =>
      chk ((0 : Int)≤v38∧v38<8∧(v38).toNat<v39.length) <|
      Aal.L4 k v21 n (IntKind.wrap .i64 (v38+1)) (v39.set (v38).toNat (IntKind.wrap .u32 (v40+v41)))
    else
      some v39
def Aal.L3 (k : Nat) (v0 v2 v11 : (List Int)) : Nat→Int→(List Int)→Option (List Int)
  | 0,_,_=>none
  | n+1,v20,v21 =>
    if v20<64 then
      chk ((0 : Int)≤0∧0<8∧(0 : Int).toNat<v21.length) <|
      idx v21 (0 : Int) fun v22 =>
      chk ((0 : Int)≤4∧4<8∧(4 : Int).toNat<v21.length) <|
      idx v21 (4 : Int) fun v23 =>
      chk ((0 : Int)≤7∧7<8∧(7 : Int).toNat<v21.length) <|
      idx v21 (7 : Int) fun v24 =>
      AbK (Aav k v23 6) fun v25 =>
      AbK (Aav k v23 11) fun v26 =>
      AbK (Aav k v23 25) fun v27 =>
      chk ((0 : Int)≤5∧5<8∧(5 : Int).toNat<v21.length) <|
      idx v21 (5 : Int) fun v28 =>
      chk ((0 : Int)≤6∧6<8∧(6 : Int).toNat<v21.length) <|
      idx v21 (6 : Int) fun v29 =>
      chk ((0 : Int)≤v20∧v20<64∧(v20).toNat<v2.length) <|
      idx v2 v20 fun v30 =>
      chk ((0 : Int)≤v20∧v20<64∧(v20).toNat<v11.length) <|
      idx v11 v20 fun v31 =>
      AbK (Aav k v22 2) fun v32 =>
      AbK (Aav k v22 13) fun v33 =>
      AbK (Aav k v22 22) fun v34 =>
      chk ((0 : Int)≤1∧1<8∧(1 : Int).toNat<v21.length) <|
      idx v21 (1 : Int) fun v35 =>
      chk ((0 : Int)≤2∧2<8∧(2 : Int).toNat<v21.length) <|
      idx v21 (2 : Int) fun v36 =>
      chk ((0 : Int)≤1∧1<8∧(1 : Int).toNat<v21.length) <|
      chk ((0 : Int)≤2∧2<8∧(2 : Int).toNat<v21.length) <|
      chk ((0 : Int)≤0∧0<8∧(0 : Int).toNat<v21.length) <|
      chk ((0 : Int)≤1∧1<8∧(1 : Int).toNat<v21.length) <|
      chk ((0 : Int)≤2∧2<8∧(2 : Int).toNat<v21.length) <|
      chk ((0 : Int)≤3∧3<8∧(3 : Int).toNat<v21.length) <|
      idx v21 (3 : Int) fun v37 =>
      chk ((0 : Int)≤4∧4<8∧(4 : Int).toNat<v21.length) <|
      chk ((0 : Int)≤5∧5<8∧(5 : Int).toNat<v21.length) <|
      chk ((0 : Int)≤6∧6<8∧(6 : Int).toNat<v21.length) <|
      chk (v21.length=8∧([IntKind.wrap .u32 (IntKind.wrap .u32 (IntKind.wrap .u32 (IntKind.wrap .u32 (IntKind.wrap .u32 (v24+Aah .xor .u32 (Aah .xor .u32 v25 v26) v27)+Aah .xor .u32 (Aah .and .u32 v23 v28) (Aah .and .u32 (Aah .xor .u32 (IntKind.max .u32) v23) v29))+v30)+v31)+IntKind.wrap .u32 (Aah .xor .u32 (Aah .xor .u32 v32 v33) v34+Aah .xor .u32 (Aah .xor .u32 (Aah .and .u32 v22 v35) (Aah .and .u32 v22 v36)) (Aah .and .u32 v35 v36))),v22,v35,v36,IntKind.wrap .u32 (v37+IntKind.wrap .u32 (IntKind.wrap .u32 (IntKind.wrap .u32 (IntKind.wrap .u32 (v24+Aah .xor .u32 (Aah .xor .u32 v25 v26) v27)+Aah .xor .u32 (Aah .and .u32 v23 v28) (Aah .and .u32 (Aah .xor .u32 (IntKind.max .u32) v23) v29))+v30)+v31)),v23,v28,v29] : List Int).length=8) <|
      Aal.L3 k v0 v2 v11 n (IntKind.wrap .i64 (v20+1)) ([IntKind.wrap .u32 (IntKind.wrap .u32 (IntKind.wrap .u32 (IntKind.wrap .u32 (IntKind.wrap .u32 (v24+Aah .xor .u32 (Aah .xor .u32 v25 v26) v27)+Aah .xor .u32 (Aah .and .u32 v23 v28) (Aah .and .u32 (Aah .xor .u32 (IntKind.max .u32) v23) v29))+v30)+v31)+IntKind.wrap .u32 (Aah .xor .u32 (Aah .xor .u32 v32 v33) v34+Aah .xor .u32 (Aah .xor .u32 (Aah .and .u32 v22 v35) (Aah .and .u32 v22 v36)) (Aah .and .u32 v35 v36))),v22,v35,v36,IntKind.wrap .u32 (v37+IntKind.wrap .u32 (IntKind.wrap .u32 (IntKind.wrap .u32 (IntKind.wrap .u32 (v24+Aah .xor .u32 (Aah .xor .u32 v25 v26) v27)+Aah .xor .u32 (Aah .and .u32 v23 v28) (Aah .and .u32 (Aah .xor .u32 (IntKind.max .u32) v23) v29))+v30)+v31)),v23,v28,v29] : List Int)
    else
      Aal.L4 k v21 k 0 v0
def Aal.L2 (k : Nat) (v0 v2 : (List Int)) : Nat→Int→(List Int)→Option (List Int)
  | 0,_,_=>none
  | n+1,v10,v11 =>
    if v10<64 then
      chk ((0 : Int)≤(IntKind.wrap .i64 (v10-15))∧(IntKind.wrap .i64 (v10-15))<64∧(IntKind.wrap .i64 (v10-15)).toNat<v11.length) <|
      idx v11 (IntKind.wrap .i64 (v10-15)) fun v12 =>
      chk ((0 : Int)≤(IntKind.wrap .i64 (v10-2))∧(IntKind.wrap .i64 (v10-2))<64∧(IntKind.wrap .i64 (v10-2)).toNat<v11.length) <|
      idx v11 (IntKind.wrap .i64 (v10-2)) fun v13 =>
      chk ((0 : Int)≤(IntKind.wrap .i64 (v10-16))∧(IntKind.wrap .i64 (v10-16))<64∧(IntKind.wrap .i64 (v10-16)).toNat<v11.length) <|
      idx v11 (IntKind.wrap .i64 (v10-16)) fun v14 =>
      AbK (Aav k v12 7) fun v15 =>
      AbK (Aav k v12 18) fun v16 =>
      chk ((0 : Int)≤(IntKind.wrap .i64 (v10-7))∧(IntKind.wrap .i64 (v10-7))<64∧(IntKind.wrap .i64 (v10-7)).toNat<v11.length) <|
      idx v11 (IntKind.wrap .i64 (v10-7)) fun v17 =>
      AbK (Aav k v13 17) fun v18 =>
      AbK (Aav k v13 19) fun v19 =>
      chk ((0 : Int)≤v10∧v10<64∧(v10).toNat<v11.length) <|
      Aal.L2 k v0 v2 n (IntKind.wrap .i64 (v10+1)) (v11.set (v10).toNat (IntKind.wrap .u32 (IntKind.wrap .u32 (IntKind.wrap .u32 (v14+Aah .xor .u32 (Aah .xor .u32 v15 v16) (Int.fdiv v12 (2 ^ (3))))+v17)+Aah .xor .u32 (Aah .xor .u32 v18 v19) (Int.fdiv v13 (2 ^ (10))))))
    else
      chk (v0.length=8) <|
      chk ((List.replicate 8 0).length=8∧v0.length=8) <|
      Aal.L3 k v0 v2 v11 k 0 v0
def Aal.L1 (k : Nat) (v0 v1 v2 : (List Int)) : Nat→Int→(List Int)→Option (List Int)
  | 0,_,_=>none
  | n+1,v4,v5 =>
    if v4<16 then
      idx v1 (IntKind.wrap .i64 (4*v4)) fun v6 =>
      idx v1 (IntKind.wrap .i64 (IntKind.wrap .i64 (4*v4)+1)) fun v7 =>
      idx v1 (IntKind.wrap .i64 (IntKind.wrap .i64 (4*v4)+2)) fun v8 =>
      idx v1 (IntKind.wrap .i64 (IntKind.wrap .i64 (4*v4)+3)) fun v9 =>
      chk ((0 : Int)≤v4∧v4<64∧(v4).toNat<v5.length) <|
      Aal.L1 k v0 v1 v2 n (IntKind.wrap .i64 (v4+1)) (v5.set (v4).toNat (Aah .or .u32 (Aah .or .u32 (Aah .or .u32 (IntKind.wrap .u32 ((IntKind.wrap .u32 v6)*2 ^ (24))) (IntKind.wrap .u32 ((IntKind.wrap .u32 v7)*2 ^ (16)))) (IntKind.wrap .u32 ((IntKind.wrap .u32 v8)*2 ^ (8)))) (IntKind.wrap .u32 v9)))
    else
      Aal.L2 k v0 v2 k 16 v5
def Aal (k : Nat) (v0 v1 v2 : (List Int)) : Option (List Int) :=
  Aal.L1 k v0 v1 v2 k 0 (List.replicate 64 0)
def AbY.L4 (k : Nat) (v7 : (List Int)) : Nat→Int→(List Int)→Option ByteArray
  | 0,_,_=>none
  | n+1,v9,v10 =>
    if v9<8 then
      chk (v9<8) <|
      idx v7 v9 fun v11 =>
      chk ((v10.length+([IntKind.wrap .u8 (Int.fdiv v11 (2 ^ (24))),IntKind.wrap .u8 (Int.fdiv v11 (2 ^ (16))),IntKind.wrap .u8 (Int.fdiv v11 (2 ^ (8))),IntKind.wrap .u8 v11] : List Int).length)*1≤140737488355328) <|
      AbY.L4 k v7 n (IntKind.wrap .i64 (v9+1)) (v10++([IntKind.wrap .u8 (Int.fdiv v11 (2 ^ (24))),IntKind.wrap .u8 (Int.fdiv v11 (2 ^ (16))),IntKind.wrap .u8 (Int.fdiv v11 (2 ^ (8))),IntKind.wrap .u8 v11] : List Int))
    else
      some (ofI v10)
def AbY.L3 (k : Nat) (v5 : (List Int)) : Nat→(List Int)→(List Int)→Option ByteArray
  | 0,_,_=>none
  | n+1,v6,v7 =>
    if 0<(v6.length : Int) then
      chk ((64 : Int)≤(v6.length : Int)) <|
      AbK (Aal k v7 (v6.take (64 : Int).toNat) v5) fun v8 =>
      chk ((64 : Int)≤(v6.length : Int)) <|
      AbY.L3 k v5 n (v6.drop (64 : Int).toNat) v8
    else
      chk (v7.length=8) <|
      AbY.L4 k v7 k 0 ([] : List Int)
def AbY.L2 (k : Nat) (v0 : (List Int)) : Nat→Int→(List Int)→Option ByteArray
  | 0,_,_=>none
  | n+1,v3,v4 =>
    if 0≤v3 then
      chk ((0 : Int)≤IntKind.wrap .u64 v3) <|
      chk ((v4.length+([IntKind.wrap .u8 (Int.fdiv (IntKind.wrap .u64 (IntKind.wrap .u64 (v0.length : Int)*8)) (2 ^ (min ((IntKind.wrap .u64 v3).toNat) 64)))] : List Int).length)*1≤140737488355328) <|
      AbY.L2 k v0 n (IntKind.wrap .i64 (v3-8)) (v4++([IntKind.wrap .u8 (Int.fdiv (IntKind.wrap .u64 (IntKind.wrap .u64 (v0.length : Int)*8)) (2 ^ (min ((IntKind.wrap .u64 v3).toNat) 64)))] : List Int))
    else
      AbK (AhB k) fun v5 =>
      chk ((List.replicate 8 0).length=8∧([1779033703,3144134277,1013904242,2773480762,1359893119,2600822924,528734635,1541459225] : List Int).length=8) <|
      chk ((List.replicate 64 0).length=64∧v5.length=64) <|
      AbY.L3 k v5 k v4 ([1779033703,3144134277,1013904242,2773480762,1359893119,2600822924,528734635,1541459225] : List Int)
def AbY.L1 (k : Nat) (v0 : (List Int)) : Nat→(List Int)→Option ByteArray
  | 0,_=>none
  | n+1,v2 =>
    if (Int.tmod (v2.length : Int) 64)≠56 then
      chk ((v2.length+([0] : List Int).length)*1≤140737488355328) <|
      AbY.L1 k v0 n (v2++([0] : List Int))
    else
      AbY.L2 k v0 k 56 v2
def AbY (k : Nat) (v0 : (List Int)) : Option ByteArray :=
  chk (v0.length*1≤140737488355328) <|
  chk ((v0.length+([128] : List Int).length)*1≤140737488355328) <|
  AbY.L1 k v0 k (v0++([128] : List Int))
def Af7 (k : Nat) (v0 : (List Int)) : Option Bool :=
  some (decide ((v0.length : Int)≤400))
def AiU (k : Nat) : Option Bool:=some true
def Ag8 (k : Nat) (v0 : (List Int)) : Option ((List Int)×Int) :=
  some (v0,0)
def Adg.J1 (k : Nat) (v3 : Int) : Option Int :=
  some v3
def Adg (k : Nat) (v0 v1 : Int) : Option Int :=
  if v1<1 then
    some 0
  else
    chk (v1≠(0 : Int)) <|
    if Int.tmod v0 v1<0 then
      Adg.J1 k (IntKind.wrap .i64 (Int.tmod v0 v1+v1))
    else
      Adg.J1 k (Int.tmod v0 v1)
def Aa5 (k : Nat) (v0 : (List Int)) (v1 v2 : Int) : Option (Int×Int) :=
  if (v0.length : Int)≤v1 then
    some (0,v1)
  else
    idx v0 (IntKind.wrap .i64 (IntKind.wrap .i64 (v1+1)-1)) fun v5 =>
    AbK (Adg k v5 v2) fun v6 =>
    some (v6,IntKind.wrap .i64 (v1+1))
def Acn (k : Nat) (v0 : (List Int)) (v1 v2 : Int) : Option (Bool×Int) :=
  Agk (Aa5 k v0 v1 v2) fun v5 v6 =>
  some ((v5==(IntKind.wrap .i64 (v2-1))),v6)
def Abt.J2 (k : Nat) (v3 : Int) (kb1 : Int→Option Bool) : Option Bool :=
  kb1 (IntKind.wrap .i64 (v3+1))
def Abt.L1 (k : Nat) (v0 : (List Int)) (v1 : Int) : Nat→Int→Option Bool
  | 0,_=>none
  | n+1,v3 =>
    if v3<(v0.length : Int) then
      idx v0 v3 fun v4 =>
      if v4<0 then
        some false
      else
        if v1≤v4 then
          some false
        else
          if 0<v3 then
            idx v0 (IntKind.wrap .i64 (v3-1)) fun v5 =>
            if v4≤v5 then
              some false
            else
              Abt.J2 k v3 (fun v3_=>Abt.L1 k v0 v1 n v3_)
          else
            Abt.J2 k v3 (fun v3_=>Abt.L1 k v0 v1 n v3_)
    else
      some true
def Abt (k : Nat) (v0 : (List Int)) (v1 : Int) : Option Bool :=
  Abt.L1 k v0 v1 k 0
def Abk.L1 (k : Nat) (v0 : (List Int)) (v1 : Int) : Nat→Int→Option Bool
  | 0,_=>none
  | n+1,v3 =>
    if v3<(v0.length : Int) then
      idx v0 v3 fun v4 =>
      if v4=v1 then
        some true
      else
        Abk.L1 k v0 v1 n (IntKind.wrap .i64 (v3+1))
    else
      some false
def Abk (k : Nat) (v0 : (List Int)) (v1 : Int) : Option Bool :=
  Abk.L1 k v0 v1 k 0
def Adl (k : Nat) (v0 v1 v2 v3 v4 v5 : Int) : Option Bool :=
  if v0<v3 then
    some true
  else
    if v0=v3 then
      some (decide (v1<v4))
    else
      some false
def Aax.J2 (k : Nat) (v5 : Int) (kb1 : Int→Option Int) (v7 : Bool) : Option Int :=
  if v7=true then
    some 14
  else
    kb1 (IntKind.wrap .i64 (v5+1))
def Aax.L1 (k : Nat) (v0 : Int) (v1 : (List AaB)) (v2 : (List Int)) : Nat→Int→Option Int
  | 0,_=>none
  | n+1,v5 =>
    if v5<(v1.length : Int) then
      idx v1 v5 fun v6 =>
      if v6.From<0 then
        some 14
      else
        if v0≤v6.From then
          some 14
        else
          if v6.To<0 then
            some 14
          else
            if v0≤v6.To then
              some 14
            else
              if v6.From=v6.To then
                some 14
              else
                if v6.Level<1 then
                  some 14
                else
                  if 3<v6.Level then
                    some 14
                  else
                    if 0<v5 then
                      idx v1 (IntKind.wrap .i64 (v5-1)) fun v8 =>
                      AbK (Adl k v8.From v8.To v8.Level v6.From v6.To v6.Level) fun v9 =>
                      if (!v9)=true then
                        Aax.J2 k v5 (fun v5_=>Aax.L1 k v0 v1 v2 n v5_) true
                      else
                        AbK (Abk k v2 v6.From) fun v10 =>
                        if v10=true then
                          Aax.J2 k v5 (fun v5_=>Aax.L1 k v0 v1 v2 n v5_) true
                        else
                          AbK (Abk k v2 v6.To) fun v11 =>
                          Aax.J2 k v5 (fun v5_=>Aax.L1 k v0 v1 v2 n v5_) v11
                    else
                      AbK (Abk k v2 v6.From) fun v12 =>
                      if v12=true then
                        Aax.J2 k v5 (fun v5_=>Aax.L1 k v0 v1 v2 n v5_) true
                      else
                        AbK (Abk k v2 v6.To) fun v13 =>
                        Aax.J2 k v5 (fun v5_=>Aax.L1 k v0 v1 v2 n v5_) v13
    else
      some 0
def Aax (k : Nat) (v0 : Int) (v1 : (List AaB)) (v2 : (List Int)) : Option Int :=
  if v0<0 then
    some 14
  else
    if 64<v0 then
      some 14
    else
      if 500<(v1.length : Int) then
        some 14
      else
        AbK (Abt k v2 v0) fun v4 =>
        if (!v4)=true then
          some 14
        else
          Aax.L1 k v0 v1 v2 k 0
def AbS.J1 (k : Nat) (v1 : (List AaB)) (v3 v4 v7 : Int) : Option (Int×Bool) :=
  if v7<(v1.length : Int) then
    idx v1 v7 fun v8 =>
    if v8.From=v3 then
      some (v7,(v8.To==v4))
    else
      some (v7,false)
  else
    some (v7,false)
def AbS.L2 (k : Nat) (v1 : (List AaB)) (v3 v4 : Int) : Nat→Int→Option (Int×Bool)
  | 0,_=>none
  | n+1,v9 =>
    if v9<(v1.length : Int) then
      idx v1 v9 fun v10 =>
      AbK (Adl k v10.From v10.To v10.Level v3 v4 0) fun v11 =>
      if v11=true then
        AbS.L2 k v1 v3 v4 n (IntKind.wrap .i64 (v9+1))
      else
        AbS.J1 k v1 v3 v4 v9
    else
      AbS.J1 k v1 v3 v4 v9
def AbS (k : Nat) (v0 : Int) (v1 : (List AaB)) (v2 : (List Int)) (v3 v4 : Int) : Option (Int×Bool) :=
  AbS.L2 k v1 v3 v4 k 0
def Adm (k : Nat) (v0 : Int) (v1 : (List AaB)) (v2 : (List Int)) : Option (Int×(List AaB)×(List Int)) :=
  chk (v1.length*24≤140737488355328) <|
  chk (v2.length*8≤140737488355328) <|
  some (v0,v1,v2)
def AeV (k : Nat) (v0 : Int) (v1 : (List AaB)) (v2 : (List Int)) (v3 v4 v5 : Int) : Option (Int×(List AaB)×(List Int)×Int) :=
  AbK (Aax k v0 v1 v2) fun v10 =>
  if v10≠0 then
    some (0,([] : List AaB),([] : List Int),14)
  else
    Agk (AbS k v0 v1 v2 v3 v4) fun v11 v12 =>
    if v3<0 then
      some (0,([] : List AaB),([] : List Int),4)
    else
      if v0≤v3 then
        some (0,([] : List AaB),([] : List Int),4)
      else
        if v4<0 then
          some (0,([] : List AaB),([] : List Int),4)
        else
          if v0≤v4 then
            some (0,([] : List AaB),([] : List Int),4)
          else
            if v3=v4 then
              some (0,([] : List AaB),([] : List Int),4)
            else
              AbK (Abk k v2 v3) fun v13 =>
              if v13=true then
                some (0,([] : List AaB),([] : List Int),4)
              else
                AbK (Abk k v2 v4) fun v14 =>
                if v14=true then
                  some (0,([] : List AaB),([] : List Int),4)
                else
                  if v5<1 then
                    some (0,([] : List AaB),([] : List Int),2)
                  else
                    if 3<v5 then
                      some (0,([] : List AaB),([] : List Int),2)
                    else
                      if v12=true then
                        some (0,([] : List AaB),([] : List Int),19)
                      else
                        if (v1.length : Int)=500 then
                          some (0,([] : List AaB),([] : List Int),3)
                        else
                          Ao4 (Adm k v0 v1 v2) fun v15 v16 v17 =>
                          chk ((0 : Int)≤v11∧(v11 : Int)≤(v1.length : Int)) <|
                          chk ((v1.take (v11).toNat).length*24≤140737488355328) <|
                          chk (((v1.take (v11).toNat).length+([(AaB.mk v3 v4 v5)] : List AaB).length)*24≤140737488355328) <|
                          chk ((0 : Int)≤v11∧(v11 : Int)≤(v1.length : Int)) <|
                          chk ((((v1.take (v11).toNat)++([(AaB.mk v3 v4 v5)] : List AaB)).length+(v1.drop (v11).toNat).length)*24≤140737488355328) <|
                          some (v15,((v1.take (v11).toNat)++([(AaB.mk v3 v4 v5)] : List AaB))++(v1.drop (v11).toNat),v17,0)
def AaV.J4 (k : Nat) (v13 : Int) (kb3 : Int→Int→Int→(List AaB)→(List Int)→Option (Int×(List AaB)×(List Int)×Int)) (v18 v19 : Int) (v20 : (List AaB)) (v21 : (List Int)) : Option (Int×(List AaB)×(List Int)×Int) :=
  kb3 (IntKind.wrap .i64 (v13-1)) v18 v19 v20 v21
def AaV.L3 (k : Nat) (v0 : (List Int)) : Nat→Int→Int→Int→(List AaB)→(List Int)→Option (Int×(List AaB)×(List Int)×Int)
  | 0,_,_,_,_,_=>none
  | n+1,v13,v14,v15,v16,v17 =>
    if 0<v13 then
      Agk (Aa5 k v0 v14 v15) fun v22 v23 =>
      Agk (Aa5 k v0 v23 v15) fun v24 v25 =>
      Agk (Aa5 k v0 v25 3) fun v26 v27 =>
      Auj (AeV k v15 v16 v17 v22 v24 (IntKind.wrap .i64 (1+v26))) fun v28 v29 v30 v31 =>
      if v31=0 then
        AaV.J4 k v13 (fun v13_ v14_ v15_ v16_ v17_=>AaV.L3 k v0 n v13_ v14_ v15_ v16_ v17_) v27 v28 v29 v30
      else
        AaV.J4 k v13 (fun v13_ v14_ v15_ v16_ v17_=>AaV.L3 k v0 n v13_ v14_ v15_ v16_ v17_) v27 v15 v16 v17
    else
      some (v15,v16,v17,v14)
def AaV.J2 (k : Nat) (v0 : (List Int)) (v8 v9 : Int) (v10 : (List Int)) : Option (Int×(List AaB)×(List Int)×Int) :=
  Agk (Aa5 k v0 v9 23) fun v11 v12 =>
  AaV.L3 k v0 k v11 v12 v8 ([] : List AaB) v10
def AaV.J1 (k : Nat) (v0 : (List Int)) (v7 v8 : Int) : Option (Int×(List AaB)×(List Int)×Int) :=
  Agk (Acn k v0 v7 8) fun v32 v33 =>
  if v32=true then
    Agk (Aa5 k v0 v33 v8) fun v34 v35 =>
    AaV.J2 k v0 v8 v35 ([v34] : List Int)
  else
    AaV.J2 k v0 v8 v33 ([] : List Int)
def AaV (k : Nat) (v0 : (List Int)) (v1 : Int) : Option (Int×(List AaB)×(List Int)×Int) :=
  Agk (Aa5 k v0 v1 8) fun v6 v7 =>
  if (v0.length : Int)=0 then
    AaV.J1 k v0 v7 4
  else
    AaV.J1 k v0 v7 (IntKind.wrap .i64 (2+v6))
def Ado (k : Nat) (v0 : (List Int)) (v1 : Int) (v2 : (List Int)) : Option (Int×Int) :=
  Agk (Aa5 k v0 v1 (v2.length : Int)) fun v5 v6 =>
  idx v2 v5 fun v7 =>
  some (v7,v6)
def AbT.J2 (k : Nat) (v0 : (List Int)) (v1 v3 : Int) : Option (List Int) :=
  chk ((0 : Int)≤v3∧(v3 : Int)≤(v0.length : Int)) <|
  chk ((v0.take (v3).toNat).length*8≤140737488355328) <|
  chk (((v0.take (v3).toNat).length+([v1] : List Int).length)*8≤140737488355328) <|
  chk ((0 : Int)≤v3∧(v3 : Int)≤(v0.length : Int)) <|
  chk ((((v0.take (v3).toNat)++([v1] : List Int)).length+(v0.drop (v3).toNat).length)*8≤140737488355328) <|
  some (((v0.take (v3).toNat)++([v1] : List Int))++(v0.drop (v3).toNat))
def AbT.J1 (k : Nat) (v0 : (List Int)) (v1 v3 : Int) : Option (List Int) :=
  if v3<(v0.length : Int) then
    idx v0 v3 fun v4 =>
    if v4=v1 then
      chk (v0.length*8≤140737488355328) <|
      some v0
    else
      AbT.J2 k v0 v1 v3
  else
    AbT.J2 k v0 v1 v3
def AbT.L3 (k : Nat) (v0 : (List Int)) (v1 : Int) : Nat→Int→Option (List Int)
  | 0,_=>none
  | n+1,v5 =>
    if v5<(v0.length : Int) then
      idx v0 v5 fun v6 =>
      if v6<v1 then
        AbT.L3 k v0 v1 n (IntKind.wrap .i64 (v5+1))
      else
        AbT.J1 k v0 v1 v5
    else
      AbT.J1 k v0 v1 v5
def AbT (k : Nat) (v0 : (List Int)) (v1 : Int) : Option (List Int) :=
  AbT.L3 k v0 v1 k 0
def Aar.L2 (k : Nat) (v0 : (List Int)) (v11 : Int) (v14 : (List Int)) : Nat→Int→Int→Int→(List Int)→Option ((List Int)×(List Int)×Int×Int)
  | 0,_,_,_,_=>none
  | n+1,v19,v20,v21,v22 =>
    if 0<v20 then
      chk ((v22.length+([v19] : List Int).length)*8≤140737488355328) <|
      Agk (Aa5 k v0 v21 3) fun v23 v24 =>
      Arl (if 1<(IntKind.wrap .i64 (v19-v23)) then IntKind.wrap .i64 (v19-v23) else 1) fun v25 =>
      Aar.L2 k v0 v11 v14 n v25 (IntKind.wrap .i64 (v20-1)) v24 (v22++([v19] : List Int))
    else
      some (v14,v22,v11,v21)
def Aar.J1 (k : Nat) (v0 : (List Int)) (v11 v13 : Int) (v14 : (List Int)) : Option ((List Int)×(List Int)×Int×Int) :=
  Agk (Ado k v0 v13 ([3,2,1,6,0] : List Int)) fun v15 v16 =>
  Agk (Aa5 k v0 v16 4) fun v17 v18 =>
  Aar.L2 k v0 v11 v14 k (IntKind.wrap .i64 (1+v15)) (IntKind.wrap .i64 (1+v17)) v18 ([] : List Int)
def Aar (k : Nat) (v0 : (List Int)) (v1 v2 : Int) (v3 : (List AaB)) (v4 : (List Int)) : Option ((List Int)×(List Int)×Int×Int) :=
  Agk (Aa5 k v0 v1 v2) fun v9 v10 =>
  Agk (Ado k v0 v10 ([1,1,2,3] : List Int)) fun v11 v12 =>
  Agk (Acn k v0 v12 3) fun v26 v27 =>
  if v26=true then
    Agk (Aa5 k v0 v27 v2) fun v28 v29 =>
    AbK (AbT k ([v9] : List Int) v28) fun v30 =>
    Aar.J1 k v0 v11 v29 v30
  else
    Aar.J1 k v0 v11 v27 ([v9] : List Int)
def Abf (k : Nat) (v0 v1 v2 : Int) : Option Bool :=
  if v1≤v0 then
    some (decide (v0≤v2))
  else
    some false
def Aa2.J2 (k : Nat) (v4 : Int) (kb1 : Int→Option Bool) : Option Bool :=
  kb1 (IntKind.wrap .i64 (v4+1))
def Aa2.L1 (k : Nat) (v0 : (List Int)) (v1 v2 : Int) : Nat→Int→Option Bool
  | 0,_=>none
  | n+1,v4 =>
    if v4<(v0.length : Int) then
      idx v0 v4 fun v5 =>
      if v5<v1 then
        some false
      else
        if v2<v5 then
          some false
        else
          if 0<v4 then
            idx v0 (IntKind.wrap .i64 (v4-1)) fun v6 =>
            if v5≤v6 then
              some false
            else
              Aa2.J2 k v4 (fun v4_=>Aa2.L1 k v0 v1 v2 n v4_)
          else
            Aa2.J2 k v4 (fun v4_=>Aa2.L1 k v0 v1 v2 n v4_)
    else
      some true
def Aa2 (k : Nat) (v0 : (List Int)) (v1 v2 : Int) : Option Bool :=
  Aa2.L1 k v0 v1 v2 k 0
def Aaz.L1 (k : Nat) (v0 : (List Int)) (v1 : Int) : Nat→Int→Option Int
  | 0,_=>none
  | n+1,v3 =>
    if v3<(v0.length : Int) then
      idx v0 v3 fun v4 =>
      if v1=v4 then
        some v3
      else
        Aaz.L1 k v0 v1 n (IntKind.wrap .i64 (v3+1))
    else
      some (-1)
def Aaz (k : Nat) (v0 : (List Int)) (v1 : Int) : Option Int :=
  Aaz.L1 k v0 v1 k 0
def AbG (k : Nat) (v0 : (List Int)) (v1 : Int) : Option Bool :=
  AbK (Aaz k v0 v1) fun v3 =>
  some (decide (0≤v3))
def Af9 (k : Nat) (v0 : Int) (v1 : (List AaB)) (v2 : (List Int)) (v3 v4 v5 : Int) : Option Bool :=
  AbK (Abf k v3 0 (IntKind.wrap .i64 (v0-1))) fun v7 =>
  if v7=true then
    AbK (Abf k v4 0 (IntKind.wrap .i64 (v0-1))) fun v8 =>
    if v8=true then
      if v3≠v4 then
        AbK (AbG k v2 v3) fun v9 =>
        if (!v9)=true then
          AbK (AbG k v2 v4) fun v10 =>
          some (!v10)
        else
          some false
      else
        some false
    else
      some false
  else
    some false
def AcL (k : Nat) (v0 : Int) : Option Bool :=
  some (v0 !=v0)
def AcU (k : Nat) (v0 v1 : Int) : Option Int :=
  AbK (AcL k v0) fun v3 =>
  AbK (AcL k v1) fun v4 =>
  if v3=true then
    if v4=true then
      some 0
    else
      some (-1)
  else
    if v4=true then
      some 1
    else
      if v0<v1 then
        some (-1)
      else
        if v1<v0 then
          some 1
        else
          some 0
def AcT.L1 (k : Nat) (v0 : (List Int)) : Nat→Int→Option Int
  | 0,_=>none
  | n+1,v2 =>
    if v2<(v0.length : Int) then
      idx v0 v2 fun v3 =>
      if v3≠0 then
        some v3
      else
        AcT.L1 k v0 n (IntKind.wrap .i64 (v2+1))
    else
      some 0
def AcT (k : Nat) (v0 : (List Int)) : Option Int :=
  AcT.L1 k v0 k 0
def Ad4 (k : Nat) (v0 v1 v2 v3 v4 v5 : Int) : Option Int :=
  AbK (AcU k v0 v3) fun v7 =>
  AbK (AcU k v1 v4) fun v8 =>
  AbK (AcT k ([v7,v8] : List Int)) fun v9 =>
  some v9
def AbO.J2 (k : Nat) (v6 : Int) (kb1 : Int→Option Int) : Option Int :=
  kb1 (IntKind.wrap .i64 (v6+1))
def AbO.L1 (k : Nat) (v0 : Int) (v1 : (List AaB)) (v2 : (List Int)) : Nat→Int→Option Int
  | 0,_=>none
  | n+1,v6 =>
    if v6<(v1.length : Int) then
      idx v1 v6 fun v7 =>
      AbK (Af9 k v0 v1 v2 v7.From v7.To v7.Level) fun v8 =>
      if (!v8)=true then
        some 14
      else
        AbK (Abf k v7.Level 1 3) fun v9 =>
        if (!v9)=true then
          some 14
        else
          if 0<v6 then
            idx v1 (IntKind.wrap .i64 (v6-1)) fun v10 =>
            AbK (Ad4 k v10.From v10.To v10.Level v7.From v7.To v7.Level) fun v11 =>
            if 0≤v11 then
              some 14
            else
              AbO.J2 k v6 (fun v6_=>AbO.L1 k v0 v1 v2 n v6_)
          else
            AbO.J2 k v6 (fun v6_=>AbO.L1 k v0 v1 v2 n v6_)
    else
      some 0
def AbO (k : Nat) (v0 : Int) (v1 : (List AaB)) (v2 : (List Int)) : Option Int :=
  AbK (Abf k v0 0 64) fun v4 =>
  if (!v4)=true then
    some 14
  else
    if 500<(v1.length : Int) then
      some 14
    else
      AbK (Aa2 k v2 0 (IntKind.wrap .i64 (v0-1))) fun v5 =>
      if (!v5)=true then
        some 14
      else
        AbO.L1 k v0 v1 v2 k 0
def Aas.J2 (k : Nat) (v11 : Int) (kb1 : Int→Option Int) : Option Int :=
  kb1 (IntKind.wrap .i64 (v11+1))
def Aas.L1 (k : Nat) (v4 : (List Int)) : Nat→Int→Option Int
  | 0,_=>none
  | n+1,v11 =>
    if v11<(v4.length : Int) then
      idx v4 v11 fun v12 =>
      AbK (Abf k v12 1 1000) fun v13 =>
      if (!v13)=true then
        some 15
      else
        if 0<v11 then
          idx v4 (IntKind.wrap .i64 (v11-1)) fun v14 =>
          if v14<v12 then
            some 15
          else
            Aas.J2 k v11 (fun v11_=>Aas.L1 k v4 n v11_)
        else
          Aas.J2 k v11 (fun v11_=>Aas.L1 k v4 n v11_)
    else
      some 0
def Aas (k : Nat) (v0 : Int) (v1 : (List AaB)) (v2 v3 v4 : (List Int)) (v5 : Int) : Option Int :=
  AbK (AbO k v0 v1 v2) fun v7 =>
  if v7≠0 then
    some v7
  else
    if (v3.length : Int)=0 then
      some 15
    else
      AbK (Aa2 k v3 0 (IntKind.wrap .i64 (v0-1))) fun v8 =>
      if (!v8)=true then
        some 15
      else
        AbK (Abf k (v4.length : Int) 1 8) fun v9 =>
        if (!v9)=true then
          some 15
        else
          AbK (Abf k v5 1 3) fun v10 =>
          if (!v10)=true then
            some 15
          else
            Aas.L1 k v4 k 0
def Abr (k : Nat) (v0 : (List AaB)) : Option (List AaB) :=
  chk (v0.length*24≤140737488355328) <| some v0
def AbZ (k : Nat) (v0 : (List Int)) : Option (List Int) :=
  chk (v0.length*8≤140737488355328) <| some v0
def Aep (k : Nat) (v0 : Int) (v1 : (List AaB)) (v2 : (List Int)) : Option (Int×(List AaB)×(List Int)) :=
  AbK (Abr k v1) fun v6 =>
  AbK (AbZ k v2) fun v7 =>
  some (v0,v6,v7)
def Acp (k : Nat) (v0 v1 v2 v3 : Int) : Option Bool :=
  some (decide (v2<v3))
def AaW.L1 (k : Nat) (v0 : (List AaB)) (v1 : Int) : Nat→Int→Option Int
  | 0,_=>none
  | n+1,v3 =>
    if v3<(v0.length : Int) then
      idx v0 v3 fun v4 =>
      AbK (Acp k v4.From v4.To v4.Level v1) fun v5 =>
      if v5=true then
        some v3
      else
        AaW.L1 k v0 v1 n (IntKind.wrap .i64 (v3+1))
    else
      some (-1)
def AaW (k : Nat) (v0 : (List AaB)) (v1 : Int) : Option Int :=
  AaW.L1 k v0 v1 k 0
def AaH.J2 (k : Nat) (v5 : Int) (kb1 : Int→Int→(List AaB)→Option (List AaB)) (v7 : (List AaB)) (v8 : Int) : Option (List AaB) :=
  kb1 v8 (IntKind.wrap .i64 (v5+1)) v7
def AaH.L1 (k : Nat) (v1 : Int) : Nat→Int→Int→(List AaB)→Option (List AaB)
  | 0,_,_,_=>none
  | n+1,v4,v5,v6 =>
    if v5<(v6.length : Int) then
      idx v6 v5 fun v9 =>
      AbK (Acp k v9.From v9.To v9.Level v1) fun v10 =>
      if (!v10)=true then
        idx v6 v4 fun v11 =>
        AaH.J2 k v5 (fun v4_ v5_ v6_=>AaH.L1 k v1 n v4_ v5_ v6_) (v6.set (v4).toNat v9) (IntKind.wrap .i64 (v4+1))
      else
        AaH.J2 k v5 (fun v4_ v5_ v6_=>AaH.L1 k v1 n v4_ v5_ v6_) v6 v4
    else
      chk ((0 : Int)≤v4∧(v4 : Int)≤((v6.length : Nat) : Int)) <|
      chk (0<v6.length∧(v4).toNat≤v6.length) <|
      Arl (v6.take ((v4).toNat)++List.replicate (v6.length-((v4).toNat)) (AaB.mk 0 0 0)) fun v12 =>
      chk ((0 : Int)≤v4∧(v4 : Int)≤((v12.length : Nat) : Int)) <|
      some (v12.take ((v4).toNat))
def AaH (k : Nat) (v0 : (List AaB)) (v1 : Int) : Option (List AaB) :=
  AbK (AaW k v0 v1) fun v3 =>
  if v3=(-1) then
    some v0
  else
    AaH.L1 k v1 k v3 (IntKind.wrap .i64 (v3+1)) v0
def Aca (k : Nat) (v0 : Int) (v1 : (List AaB)) (v2 : (List Int)) (v3 : Int) : Option (Int×(List AaB)×(List Int)) :=
  Ao4 (Aep k v0 v1 v2) fun v7 v8 v9 =>
  AbK (AaH k v8 v3) fun v10 =>
  some (v7,v10,v9)
def AeK (k : Nat) (v0 v1 : Int) : Option (Int×Int) :=
  some (IntKind.wrap .u64 (IntKind.wrap .u64 (IntKind.wrap .u64 (Int.fdiv v0 (2 ^ (32))*Int.fdiv v1 (2 ^ (32)))+Int.fdiv (IntKind.wrap .u64 (IntKind.wrap .u64 (Int.fdiv v0 (2 ^ (32))*Aah .and .u64 v1 4294967295)+Int.fdiv (IntKind.wrap .u64 (Aah .and .u64 v0 4294967295*Aah .and .u64 v1 4294967295)) (2 ^ (32)))) (2 ^ (32)))+Int.fdiv (IntKind.wrap .u64 (Aah .and .u64 (IntKind.wrap .u64 (IntKind.wrap .u64 (Int.fdiv v0 (2 ^ (32))*Aah .and .u64 v1 4294967295)+Int.fdiv (IntKind.wrap .u64 (Aah .and .u64 v0 4294967295*Aah .and .u64 v1 4294967295)) (2 ^ (32)))) 4294967295+IntKind.wrap .u64 (Aah .and .u64 v0 4294967295*Int.fdiv v1 (2 ^ (32))))) (2 ^ (32))),IntKind.wrap .u64 (v0*v1))
def Ag7 (k : Nat) (v0 v1 : Int) : Option (Int×Int) :=
  Agk (AeK k v0 v1) fun v4 v5 =>
  some (v4,v5)
def AbF.L1 (k : Nat) : Nat→Int→(List Int)→Option (List Int)
  | 0,_,_=>none
  | n+1,v6,v7 =>
    if v6<(v7.length : Int) then
      chk ((0 : Int)≤v6∧(v6 : Int)≤((v7.length : Nat) : Int)) <|
      chk ((0 : Int)≤v6∧(v6 : Int)≤((v7.length : Nat) : Int)) <|
      chk (0<v7.length∧(v6).toNat+(v7.length-((v6).toNat))≤v7.length∧0+min ((v6).toNat) (v7.length-((v6).toNat))≤v7.length∧((v7.drop 0).take (min ((v6).toNat) (v7.length-((v6).toNat)))).length≤(v7.length-((v6).toNat))) <|
      Arl ((v7.take ((v6).toNat)++((v7.drop 0).take (min ((v6).toNat) (v7.length-((v6).toNat)))))++v7.drop ((v6).toNat+((v7.drop 0).take (min ((v6).toNat) (v7.length-((v6).toNat)))).length)) fun v8 =>
      AbF.L1 k n (IntKind.wrap .i64 (v6+(((v7.drop 0).take (min ((v6).toNat) (v7.length-((v6).toNat)))).length : Int))) v8
    else
      some v7
def AbF (k : Nat) (v0 : (List Int)) (v1 : Int) : Option (List Int) :=
  if v1<0 then
    none
  else
    Agk (Ag7 k (IntKind.wrap .u64 (v0.length : Int)) (IntKind.wrap .u64 v1)) fun v3 v4 =>
    if 0<v3 then
      none
    else
      if 9223372036854775807<v4 then
        none
      else
        chk ((0 : Int)≤(IntKind.wrap .i64 v4)∧16*(IntKind.wrap .i64 v4)≤281474976710656) <|
        chk (0<(List.replicate (IntKind.wrap .i64 v4).toNat (0 : Int)).length∧0+(List.replicate (IntKind.wrap .i64 v4).toNat (0 : Int)).length≤(List.replicate (IntKind.wrap .i64 v4).toNat (0 : Int)).length∧v0.length≤(List.replicate (IntKind.wrap .i64 v4).toNat (0 : Int)).length) <|
        Arl (((List.replicate (IntKind.wrap .i64 v4).toNat (0 : Int)).take 0++v0)++(List.replicate (IntKind.wrap .i64 v4).toNat (0 : Int)).drop (0+v0.length)) fun v5 =>
        AbF.L1 k k (v0.length : Int) v5
def Aer (k : Nat) (v0 : Int) (v1 : (List AaB)) (v2 v3 : (List Int)) (v4 : Int) : Option Bool :=
  AbK (AbG k v3 v4) fun v6 =>
  if v6=true then
    AbK (AbG k v2 v4) fun v7 =>
    some (!v7)
  else
    some false
def Adj (k : Nat) (v0 v1 : Int) (v2 : (List AaB)) (v3 v4 : (List Int)) : Option Bool :=
  AbK (Aer k v1 v2 v3 v4 v0) fun v6 =>
  some v6
def Aaq.J2 (k : Nat) (v6 : Int) (kb1 : Int→(List Int)→Option (List Int)) (v8 : (List Int)) : Option (List Int) :=
  kb1 (IntKind.wrap .i64 (v6+1)) v8
def Aaq.L1 (k : Nat) (v0 v1 : Int) (v2 : (List AaB)) (v3 v4 : (List Int)) : Nat→Int→(List Int)→Option (List Int)
  | 0,_,_=>none
  | n+1,v6,v7 =>
    if v6<v0 then
      AbK (Adj k v6 v1 v2 v3 v4) fun v9 =>
      if v9=true then
        chk ((v7.length+([v6] : List Int).length)*8≤140737488355328) <|
        Aaq.J2 k v6 (fun v6_ v7_=>Aaq.L1 k v0 v1 v2 v3 v4 n v6_ v7_) (v7++([v6] : List Int))
      else
        Aaq.J2 k v6 (fun v6_ v7_=>Aaq.L1 k v0 v1 v2 v3 v4 n v6_ v7_) v7
    else
      some v7
def Aaq (k : Nat) (v0 v1 : Int) (v2 : (List AaB)) (v3 v4 : (List Int)) : Option (List Int) :=
  Aaq.L1 k v0 v1 v2 v3 v4 k 0 ([] : List Int)
def Aa1.J3 (k : Nat) (v6 v7 : Int) : Option Int :=
  idx (bI (ByteArray.mk #[0,1,2,2,3,3,3,3,4,4,4,4,4,4,4,4,5,5,5,5,5,5,5,5,5,5,5,5,5,5,5,5,6,6,6,6,6,6,6,6,6,6,6,6,6,6,6,6,6,6,6,6,6,6,6,6,6,6,6,6,6,6,6,6,7,7,7,7,7,7,7,7,7,7,7,7,7,7,7,7,7,7,7,7,7,7,7,7,7,7,7,7,7,7,7,7,7,7,7,7,7,7,7,7,7,7,7,7,7,7,7,7,7,7,7,7,7,7,7,7,7,7,7,7,7,7,7,7,8,8,8,8,8,8,8,8,8,8,8,8,8,8,8,8,8,8,8,8,8,8,8,8,8,8,8,8,8,8,8,8,8,8,8,8,8,8,8,8,8,8,8,8,8,8,8,8,8,8,8,8,8,8,8,8,8,8,8,8,8,8,8,8,8,8,8,8,8,8,8,8,8,8,8,8,8,8,8,8,8,8,8,8,8,8,8,8,8,8,8,8,8,8,8,8,8,8,8,8,8,8,8,8,8,8,8,8,8,8,8,8,8,8,8,8,8,8,8,8,8,8,8,8,8,8,8,8])) (IntKind.wrap .u8 v6) fun v8 =>
  some (IntKind.wrap .i64 (v7+IntKind.wrap .i64 v8))
def Aa1.J2 (k : Nat) (v4 v5 : Int) : Option Int :=
  if 256≤v4 then
    Aa1.J3 k (Int.fdiv v4 (2 ^ (8))) (IntKind.wrap .i64 (v5+8))
  else
    Aa1.J3 k v4 v5
def Aa1.J1 (k : Nat) (v2 v3 : Int) : Option Int :=
  if 65536≤v2 then
    Aa1.J2 k (Int.fdiv v2 (2 ^ (16))) (IntKind.wrap .i64 (v3+16))
  else
    Aa1.J2 k v2 v3
def Aa1 (k : Nat) (v0 : Int) : Option Int :=
  if 4294967296≤v0 then
    Aa1.J1 k (Int.fdiv v0 (2 ^ (32))) 32
  else
    Aa1.J1 k v0 0
def AdG (k : Nat) (v0 : Int) : Option Int :=
  AbK (Aa1 k v0) fun v2 =>
  some v2
def Aef (k : Nat) (v0 v1 : Int) : Option Bool :=
  AbK (AcL k v0) fun v3 =>
  if v3=true then
    AbK (AcL k v1) fun v4 =>
    if (!v4)=true then
      some true
    else
      some (decide (v0<v1))
  else
    some (decide (v0<v1))
def AaL.J2 (k : Nat) (v4 : Int) (kb1 : Int→(List Int)→Option (List Int)) (v6 : (List Int)) : Option (List Int) :=
  kb1 (IntKind.wrap .i64 (v4+1)) v6
def AaL.L3 (k : Nat) (v1 v4 : Int) (kb1 : Int→(List Int)→Option (List Int)) : Nat→Int→(List Int)→Option (List Int)
  | 0,_,_=>none
  | n+1,v7,v8 =>
    if v1<v7 then
      chk ((0 : Int)≤v7∧(v7).toNat<v8.length) <|
      idx v8 v7 fun v9 =>
      chk ((0 : Int)≤(IntKind.wrap .i64 (v7-1))∧(IntKind.wrap .i64 (v7-1)).toNat<v8.length) <|
      idx v8 (IntKind.wrap .i64 (v7-1)) fun v10 =>
      AbK (Aef k v9 v10) fun v11 =>
      if v11=true then
        chk ((0 : Int)≤(IntKind.wrap .i64 (v7-1))∧(IntKind.wrap .i64 (v7-1)).toNat<v8.length) <|
        chk ((0 : Int)≤v7∧(v7).toNat<v8.length) <|
        chk ((0 : Int)≤v7∧(v7).toNat<v8.length) <|
        chk ((0 : Int)≤(IntKind.wrap .i64 (v7-1))∧(IntKind.wrap .i64 (v7-1)).toNat<(v8.set (v7).toNat v10).length) <|
        AaL.L3 k v1 v4 kb1 n (IntKind.wrap .i64 (v7-1)) ((v8.set (v7).toNat v10).set (IntKind.wrap .i64 (v7-1)).toNat v9)
      else
        AaL.J2 k v4 kb1 v8
    else
      AaL.J2 k v4 kb1 v8
def AaL.L1 (k : Nat) (v1 v2 : Int) : Nat→Int→(List Int)→Option (List Int)
  | 0,_,_=>none
  | n+1,v4,v5 =>
    if v4<v2 then
      AaL.L3 k v1 v4 (fun v4_ v5_=>AaL.L1 k v1 v2 n v4_ v5_) k v4 v5
    else
      some v5
def AaL (k : Nat) (v0 : (List Int)) (v1 v2 : Int) : Option (List Int) :=
  AaL.L1 k v1 v2 k (IntKind.wrap .i64 (v1+1)) v0
def Aa4.L1 (k : Nat) (v0 : (List Int)) (v1 v2 v3 : Int) : Nat→Option (List Int)
  | 0=>none
  | n+1 =>
    if IntKind.wrap .i64 (v2-v1)≤12 then
      AbK (AaL k v0 v1 v2) fun v5 =>
      chk (v5.length=v0.length) <|
      some v5
    else
      if v3=0 then
        none
      else
        none
def Aa4 (k : Nat) (v0 : (List Int)) (v1 v2 v3 : Int) : Option (List Int) :=
  Aa4.L1 k v0 v1 v2 v3 k
def AcY (k : Nat) (v0 : (List Int)) : Option (List Int) :=
  AbK (AdG k (IntKind.wrap .u64 (v0.length : Int))) fun v2 =>
  AbK (Aa4 k v0 0 (v0.length : Int) v2) fun v3 =>
  chk (v3.length=v0.length) <|
  some v3
def Abv.J2 (k : Nat) (v5 : Int) (kb1 : Int→(List Int)→Option (List Int)) (v7 : (List Int)) : Option (List Int) :=
  kb1 (IntKind.wrap .i64 (v5+1)) v7
def Abv.L1 (k : Nat) (v1 : (List AaB)) (v3 : Int) : Nat→Int→(List Int)→Option (List Int)
  | 0,_,_=>none
  | n+1,v5,v6 =>
    if v5<(v1.length : Int) then
      idx v1 v5 fun v8 =>
      if v8.From=v3 then
        chk ((v6.length+([v8.To] : List Int).length)*8≤140737488355328) <|
        Abv.J2 k v5 (fun v5_ v6_=>Abv.L1 k v1 v3 n v5_ v6_) (v6++([v8.To] : List Int))
      else
        Abv.J2 k v5 (fun v5_ v6_=>Abv.L1 k v1 v3 n v5_ v6_) v6
    else
      AbK (AcY k v6) fun v9 =>
      chk (v9.length=v6.length) <|
      some v9
def Abv (k : Nat) (v0 : Int) (v1 : (List AaB)) (v2 : (List Int)) (v3 : Int) : Option (List Int) :=
  Abv.L1 k v1 v3 k 0 ([] : List Int)
def Ac0 (k : Nat) (v0 : Int) (v1 : (List Int)) : Option Bool :=
  AbK (Abf k v0 0 (IntKind.wrap .i64 ((v1.length : Int)-1))) fun v3 =>
  if (!v3)=true then
    some true
  else
    chk ((0 : Int)≤v0∧(v0).toNat<v1.length) <|
    idx v1 v0 fun v4 =>
    some (decide (0≤v4))
def Aai.L1 (k : Nat) (v0 v1 : (List Int)) : Nat→Int→Option Int
  | 0,_=>none
  | n+1,v3 =>
    if v3<(v0.length : Int) then
      idx v0 v3 fun v4 =>
      AbK (Ac0 k v4 v1) fun v5 =>
      if v5=true then
        some v3
      else
        Aai.L1 k v0 v1 n (IntKind.wrap .i64 (v3+1))
    else
      some (-1)
def Aai (k : Nat) (v0 v1 : (List Int)) : Option Int :=
  Aai.L1 k v0 v1 k 0
def AaQ.J2 (k : Nat) (v5 : Int) (kb1 : Int→Int→(List Int)→Option (List Int)) (v7 : (List Int)) (v8 : Int) : Option (List Int) :=
  kb1 v8 (IntKind.wrap .i64 (v5+1)) v7
def AaQ.L1 (k : Nat) (v1 : (List Int)) : Nat→Int→Int→(List Int)→Option (List Int)
  | 0,_,_,_=>none
  | n+1,v4,v5,v6 =>
    if v5<(v6.length : Int) then
      chk ((0 : Int)≤v5∧(v5).toNat<v6.length) <|
      idx v6 v5 fun v9 =>
      AbK (Ac0 k v9 v1) fun v10 =>
      if (!v10)=true then
        chk ((0 : Int)≤v4∧(v4).toNat<v6.length) <|
        AaQ.J2 k v5 (fun v4_ v5_ v6_=>AaQ.L1 k v1 n v4_ v5_ v6_) (v6.set (v4).toNat v9) (IntKind.wrap .i64 (v4+1))
      else
        AaQ.J2 k v5 (fun v4_ v5_ v6_=>AaQ.L1 k v1 n v4_ v5_ v6_) v6 v4
    else
      chk ((0 : Int)≤v4∧(v4 : Int)≤((v6.length : Nat) : Int)) <|
      chk (0<v6.length∧(v4).toNat≤v6.length) <|
      Arl (v6.take ((v4).toNat)++List.replicate (v6.length-((v4).toNat)) 0) fun v11 =>
      chk ((0 : Int)≤v4∧(v4 : Int)≤((v11.length : Nat) : Int)) <|
      some (v11.take ((v4).toNat))
def AaQ (k : Nat) (v0 v1 : (List Int)) : Option (List Int) :=
  AbK (Aai k v0 v1) fun v3 =>
  if v3=(-1) then
    some v0
  else
    AaQ.L1 k v1 k v3 (IntKind.wrap .i64 (v3+1)) v0
def Aan.J3 (k : Nat) (v11 : Int) (kb2 : Int→(List Int)→(List Int)→Option (List Int)) (v14 v15 : (List Int)) : Option (List Int) :=
  kb2 (IntKind.wrap .i64 (v11+1)) v14 v15
def Aan.L2 (k : Nat) (v0 : Int) (v1 : (List AaB)) (v2 v8 : (List Int)) (v9 : Int) (kb1 : (List Int)→Int→(List Int)→Option (List Int)) : Nat→Int→(List Int)→(List Int)→Option (List Int)
  | 0,_,_,_=>none
  | n+1,v11,v12,v13 =>
    if v11<(v8.length : Int) then
      idx v8 v11 fun v16 =>
      chk ((0 : Int)≤v16∧(v16).toNat<v12.length) <|
      idx v12 v16 fun v17 =>
      if 0≤v17 then
        Aan.J3 k v11 (fun v11_ v12_ v13_=>Aan.L2 k v0 v1 v2 v8 v9 kb1 n v11_ v12_ v13_) v12 v13
      else
        chk ((0 : Int)≤v16∧(v16).toNat<v12.length) <|
        AbK (Abv k v0 v1 v2 v16) fun v18 =>
        chk ((v13.length+v18.length)*8≤140737488355328) <|
        Aan.J3 k v11 (fun v11_ v12_ v13_=>Aan.L2 k v0 v1 v2 v8 v9 kb1 n v11_ v12_ v13_) (v12.set (v16).toNat v9) (v13++v18)
    else
      AbK (AaQ k v13 v12) fun v19 =>
      kb1 v19 (IntKind.wrap .i64 (v9+1)) v12
def Aan.L1 (k : Nat) (v0 : Int) (v1 : (List AaB)) (v2 : (List Int)) : Nat→(List Int)→Int→(List Int)→Option (List Int)
  | 0,_,_,_=>none
  | n+1,v8,v9,v10 =>
    if 0<(v8.length : Int) then
      Aan.L2 k v0 v1 v2 v8 v9 (fun v8_ v9_ v10_=>Aan.L1 k v0 v1 v2 n v8_ v9_ v10_) k 0 v10 ([] : List Int)
    else
      some v10
def Aan (k : Nat) (v0 : Int) (v1 : (List AaB)) (v2 v3 : (List Int)) : Option (List Int) :=
  Arl (if 0<v0 then v0 else 0) fun v5 =>
  AbK (AbF k ([-1] : List Int) v5) fun v6 =>
  AbK (Aaq k v0 v0 v1 v2 v3) fun v7 =>
  Aan.L1 k v0 v1 v2 k v7 0 v6
def Adz (k : Nat) (v0 : Int) (v1 : (List Int)) : Option Bool :=
  idx v1 v0 fun v3 =>
  some (decide (0≤v3))
def Aak.J2 (k : Nat) (v3 : Int) (kb1 : Int→(List Int)→Option (List Int)) (v5 : (List Int)) : Option (List Int) :=
  kb1 (IntKind.wrap .i64 (v3+1)) v5
def Aak.L1 (k : Nat) (v0 : Int) (v1 : (List Int)) : Nat→Int→(List Int)→Option (List Int)
  | 0,_,_=>none
  | n+1,v3,v4 =>
    if v3<v0 then
      AbK (Adz k v3 v1) fun v6 =>
      if v6=true then
        chk ((v4.length+([v3] : List Int).length)*8≤140737488355328) <|
        Aak.J2 k v3 (fun v3_ v4_=>Aak.L1 k v0 v1 n v3_ v4_) (v4++([v3] : List Int))
      else
        Aak.J2 k v3 (fun v3_ v4_=>Aak.L1 k v0 v1 n v3_ v4_) v4
    else
      some v4
def Aak (k : Nat) (v0 : Int) (v1 : (List Int)) : Option (List Int) :=
  Aak.L1 k v0 v1 k 0 ([] : List Int)
def Ady (k : Nat) (v0 v1 : Int) (v2 : (List Int)) : Option Int :=
  idx v2 v0 fun v4 =>
  idx v2 v1 fun v5 =>
  AbK (AcU k v4 v5) fun v6 =>
  some v6
def AaE.J2 (k : Nat) (v5 : Int) (kb1 : Int→(List Int)→Option (List Int)) (v7 : (List Int)) : Option (List Int) :=
  kb1 (IntKind.wrap .i64 (v5+1)) v7
def AaE.L3 (k : Nat) (v1 : Int) (v3 : (List Int)) (v5 : Int) (kb1 : Int→(List Int)→Option (List Int)) : Nat→Int→(List Int)→Option (List Int)
  | 0,_,_=>none
  | n+1,v8,v9 =>
    if v1<v8 then
      chk ((0 : Int)≤v8∧(v8).toNat<v9.length) <|
      idx v9 v8 fun v10 =>
      chk ((0 : Int)≤(IntKind.wrap .i64 (v8-1))∧(IntKind.wrap .i64 (v8-1)).toNat<v9.length) <|
      idx v9 (IntKind.wrap .i64 (v8-1)) fun v11 =>
      AbK (Ady k v10 v11 v3) fun v12 =>
      if v12<0 then
        chk ((0 : Int)≤(IntKind.wrap .i64 (v8-1))∧(IntKind.wrap .i64 (v8-1)).toNat<v9.length) <|
        chk ((0 : Int)≤v8∧(v8).toNat<v9.length) <|
        chk ((0 : Int)≤v8∧(v8).toNat<v9.length) <|
        chk ((0 : Int)≤(IntKind.wrap .i64 (v8-1))∧(IntKind.wrap .i64 (v8-1)).toNat<(v9.set (v8).toNat v11).length) <|
        AaE.L3 k v1 v3 v5 kb1 n (IntKind.wrap .i64 (v8-1)) ((v9.set (v8).toNat v11).set (IntKind.wrap .i64 (v8-1)).toNat v10)
      else
        AaE.J2 k v5 kb1 v9
    else
      AaE.J2 k v5 kb1 v9
def AaE.L1 (k : Nat) (v1 v2 : Int) (v3 : (List Int)) : Nat→Int→(List Int)→Option (List Int)
  | 0,_,_=>none
  | n+1,v5,v6 =>
    if v5<v2 then
      AaE.L3 k v1 v3 v5 (fun v5_ v6_=>AaE.L1 k v1 v2 v3 n v5_ v6_) k v5 v6
    else
      some v6
def AaE (k : Nat) (v0 : (List Int)) (v1 v2 : Int) (v3 : (List Int)) : Option (List Int) :=
  AaE.L1 k v1 v2 v3 k (IntKind.wrap .i64 (v1+1)) v0
def AaS.L3 (k : Nat) (v1 v9 : Int) (kb2 : Int→Option (List Int)) : Nat→Option (List Int)
  | 0=>none
  | n+1 =>
    if IntKind.wrap .i64 (2*v9)≤v1 then
      none
    else
      if IntKind.wrap .i64 (0+v9)<v1 then
        none
      else
        kb2 (IntKind.wrap .i64 (v9*2))
def AaS.L2 (k : Nat) (v1 : Int) (v8 : (List Int)) : Nat→Int→Option (List Int)
  | 0,_=>none
  | n+1,v9 =>
    if v9<v1 then
      AaS.L3 k v1 v9 (fun v9_=>AaS.L2 k v1 v8 n v9_) k
    else
      some v8
def AaS.L1 (k : Nat) (v1 : Int) (v2 : (List Int)) : Nat→Int→Int→(List Int)→Option (List Int)
  | 0,_,_,_=>none
  | n+1,v4,v5,v6 =>
    if v5≤v1 then
      AbK (AaE k v6 v4 v5 v2) fun v7 =>
      chk (v7.length=v6.length) <|
      AaS.L1 k v1 v2 n v5 (IntKind.wrap .i64 (v5+20)) v7
    else
      AbK (AaE k v6 v4 v1 v2) fun v8 =>
      chk (v8.length=v6.length) <|
      AaS.L2 k v1 v8 k 20
def AaS (k : Nat) (v0 : (List Int)) (v1 : Int) (v2 : (List Int)) : Option (List Int) :=
  AaS.L1 k v1 v2 k 0 20 v0
def AbA (k : Nat) (v0 v1 : (List Int)) : Option (List Int) :=
  AbK (AaS k v0 (v0.length : Int) v1) fun v3 =>
  chk (v3.length=v0.length) <|
  some v3
def Aes (k : Nat) (v0 : Int) (v1 : (List AaB)) (v2 v3 : (List Int)) : Option (List Int) :=
  AbK (Aan k v0 v1 v2 v3) fun v5 =>
  AbK (Aak k (v5.length : Int) v5) fun v6 =>
  AbK (AbA k v6 v5) fun v7 =>
  chk (v7.length=v6.length) <|
  some v7
def Aeh (k : Nat) (v0 : Int) (v1 : (List AaB)) (v2 v3 v4 : (List Int)) (v5 : Int) : Option (List Int) :=
  Ao4 (Aca k v0 v1 v2 v5) fun v7 v8 v9 =>
  AbK (Aes k v7 v8 v9 v3) fun v10 =>
  some v10
def AfK (k : Nat) (v0 : (List Int)) (v1 : Int) : Option (List Int) :=
  chk ((0 : Int)≤(v0.length : Int)∧((v0.length : Int) : Int)≤(v0.length : Int)) <|
  chk (((v0.take ((v0.length : Int)).toNat).length+([v1] : List Int).length)*8≤140737488355328) <|
  some ((v0.take ((v0.length : Int)).toNat)++([v1] : List Int))
def AeX (k : Nat) (v0 : (List Int)) : Option (List Int):=if v0.length*8≤140737488351232 then some (v0.mergeSort fun x y=>decide (x≤y)) else none
def AcO (k : Nat) (v0 : Int) : Option Int :=
  some (IntKind.wrap .i64 (2+IntKind.wrap .i64 (2*v0)))
def AfI (k : Nat) (v0 v1 : (List Int)) (v2 v3 : Int) : Option Int :=
  if v3<0 then
    some 0
  else
    if v3<(v1.length : Int) then
      idx v1 v3 fun v5 =>
      some v5
    else
      some 1
def Abh.L1 (k : Nat) (v3 v4 : (List Int)) (v5 : Int) (v10 : (List Int)) : Nat→Int→(List Int)→Option (List Int)
  | 0,_,_=>none
  | n+1,v11,v12 =>
    if v11<(v10.length : Int) then
      chk ((0 : Int)≤v11∧(v11).toNat<v12.length) <|
      idx v12 v11 fun v13 =>
      AbK (AfI k v3 v4 v5 v13) fun v14 =>
      chk ((0 : Int)≤v11∧(v11).toNat<v12.length) <|
      Abh.L1 k v3 v4 v5 v10 n (IntKind.wrap .i64 (v11+1)) (v12.set (v11).toNat v14)
    else
      some v12
def Abh (k : Nat) (v0 : Int) (v1 : (List AaB)) (v2 v3 v4 : (List Int)) (v5 : Int) : Option (List Int) :=
  Ao4 (Aca k v0 v1 v2 v5) fun v7 v8 v9 =>
  AbK (Aan k v7 v8 v9 v3) fun v10 =>
  Abh.L1 k v3 v4 v5 v10 k 0 v10
def Ab9 (k : Nat) (v0 v1 v2 v3 : Int) (v4 : (List AaC)) : Option (List AaC) :=
  chk ((v4.length+([(AaC.mk v0 v1 v2)] : List AaC).length)*24≤140737488355328) <|
  some (v4++([(AaC.mk v0 v1 v2)] : List AaC))
def Aez (k : Nat) (v0 : Int) : Option Int :=
  AbK (AcO k v0) fun v2 =>
  some (IntKind.wrap .i64 (v2+1))
def AaO.J2 (k : Nat) (v14 : Int) (kb1 : Int→(List AaC)→Option (Int×(List AaC)×Int)) (v16 : (List AaC)) : Option (Int×(List AaC)×Int) :=
  kb1 (IntKind.wrap .i64 (v14+1)) v16
def AaO.J4 (k : Nat) (v21 : Int) (kb3 : Int→(List AaC)→Option (Int×(List AaC)×Int)) (v23 : (List AaC)) : Option (Int×(List AaC)×Int) :=
  kb3 (IntKind.wrap .i64 (v21+1)) v23
def AaO.J6 (k : Nat) (v28 : Int) (kb5 : Int→(List AaC)→Option (Int×(List AaC)×Int)) (v30 : (List AaC)) : Option (Int×(List AaC)×Int) :=
  kb5 (IntKind.wrap .i64 (v28+1)) v30
def AaO.J8 (k : Nat) (v38 : Int) (kb7 : Int→(List AaC)→Option (Int×(List AaC)×Int)) (v40 : (List AaC)) : Option (Int×(List AaC)×Int) :=
  kb7 (IntKind.wrap .i64 (v38+1)) v40
def AaO.L7 (k : Nat) (v12 : Int) (v13 : (List Int)) (v36 : (List AaB)) : Nat→Int→(List AaC)→Option (Int×(List AaC)×Int)
  | 0,_,_=>none
  | n+1,v38,v39 =>
    if v38<(v36.length : Int) then
      idx v36 v38 fun v41 =>
      idx v13 v41.From fun v42 =>
      if 0<v42 then
        AbK (Aez k v41.From) fun v43 =>
        AbK (AcO k v41.To) fun v44 =>
        AbK (Ab9 k v43 v44 64 v12 v39) fun v45 =>
        AaO.J8 k v38 (fun v38_ v39_=>AaO.L7 k v12 v13 v36 n v38_ v39_) v45
      else
        AaO.J8 k v38 (fun v38_ v39_=>AaO.L7 k v12 v13 v36 n v38_ v39_) v39
    else
      some (v12,v39,0)
def AaO.L5 (k : Nat) (v0 : Int) (v1 : (List AaB)) (v2 : (List Int)) (v5 : Int) (v6 : (List Int)) (v12 : Int) (v13 : (List Int)) : Nat→Int→(List AaC)→Option (Int×(List AaC)×Int)
  | 0,_,_=>none
  | n+1,v28,v29 =>
    if v28<(v6.length : Int) then
      idx v6 v28 fun v31 =>
      idx v13 v31 fun v32 =>
      if 0<v32 then
        AbK (AcO k v31) fun v33 =>
        AbK (Ab9 k v33 1 1 v12 v29) fun v34 =>
        AaO.J6 k v28 (fun v28_ v29_=>AaO.L5 k v0 v1 v2 v5 v6 v12 v13 n v28_ v29_) v34
      else
        AaO.J6 k v28 (fun v28_ v29_=>AaO.L5 k v0 v1 v2 v5 v6 v12 v13 n v28_ v29_) v29
    else
      Ao4 (Aca k v0 v1 v2 v5) fun v35 v36 v37 =>
      AaO.L7 k v12 v13 v36 k 0 v29
def AaO.L3 (k : Nat) (v0 : Int) (v1 : (List AaB)) (v2 : (List Int)) (v5 : Int) (v6 : (List Int)) (v12 : Int) (v13 : (List Int)) : Nat→Int→(List AaC)→Option (Int×(List AaC)×Int)
  | 0,_,_=>none
  | n+1,v21,v22 =>
    if v21<(v13.length : Int) then
      idx v13 v21 fun v24 =>
      if 0<v24 then
        AbK (AcO k v21) fun v25 =>
        AbK (Aez k v21) fun v26 =>
        AbK (Ab9 k v25 v26 (IntKind.wrap .i64 (v24-1)) v12 v22) fun v27 =>
        AaO.J4 k v21 (fun v21_ v22_=>AaO.L3 k v0 v1 v2 v5 v6 v12 v13 n v21_ v22_) v27
      else
        AaO.J4 k v21 (fun v21_ v22_=>AaO.L3 k v0 v1 v2 v5 v6 v12 v13 n v21_ v22_) v22
    else
      AaO.L5 k v0 v1 v2 v5 v6 v12 v13 k 0 v22
def AaO.L1 (k : Nat) (v0 : Int) (v1 : (List AaB)) (v2 v3 : (List Int)) (v5 : Int) (v6 : (List Int)) (v12 : Int) (v13 : (List Int)) : Nat→Int→(List AaC)→Option (Int×(List AaC)×Int)
  | 0,_,_=>none
  | n+1,v14,v15 =>
    if v14<(v3.length : Int) then
      idx v3 v14 fun v17 =>
      idx v13 v17 fun v18 =>
      if 0<v18 then
        AbK (AcO k v17) fun v19 =>
        AbK (Ab9 k 0 v19 v18 v12 v15) fun v20 =>
        AaO.J2 k v14 (fun v14_ v15_=>AaO.L1 k v0 v1 v2 v3 v5 v6 v12 v13 n v14_ v15_) v20
      else
        AaO.J2 k v14 (fun v14_ v15_=>AaO.L1 k v0 v1 v2 v3 v5 v6 v12 v13 n v14_ v15_) v15
    else
      AaO.L3 k v0 v1 v2 v5 v6 v12 v13 k 0 v15
def AaO (k : Nat) (v0 : Int) (v1 : (List AaB)) (v2 v3 v4 : (List Int)) (v5 : Int) (v6 : (List Int)) : Option (Int×(List AaC)×Int) :=
  AbK (Aas k v0 v1 v2 v3 v4 v5) fun v10 =>
  if v10≠0 then
    some (0,([] : List AaC),v10)
  else
    AbK (Aa2 k v6 0 (IntKind.wrap .i64 (v0-1))) fun v11 =>
    if (!v11)=true then
      some (0,([] : List AaC),4)
    else
      AbK (AcO k v0) fun v12 =>
      AbK (Abh k v0 v1 v2 v3 v4 v5) fun v13 =>
      AaO.L1 k v0 v1 v2 v3 v5 v6 v12 v13 k 0 ([] : List AaC)
def Ac1 (k : Nat) (v0 : Int) (v1 : (List AaB)) (v2 v3 v4 : (List Int)) (v5 : Int) (v6 : (List Int)) : Option (Int×(List AaC)) :=
  AbK (AeX k v6) fun v9 =>
  Ao4 (AaO k v0 v1 v2 v3 v4 v5 v9) fun v10 v11 v12 =>
  some (v10,v11)
def Aec (k : Nat) (v0 v1 v2 v3 : Int) (v4 : (List AaC)) : Option Bool :=
  AbK (Abf k v0 0 (IntKind.wrap .i64 (v3-1))) fun v6 =>
  if (!v6)=true then
    some true
  else
    AbK (Abf k v1 0 (IntKind.wrap .i64 (v3-1))) fun v7 =>
    if (!v7)=true then
      some true
    else
      if v0=v1 then
        some true
      else
        if v1=0 then
          some true
        else
          if v0=1 then
            some true
          else
            AbK (Abf k v2 0 1048576) fun v8 =>
            some (!v8)
def AaU.L1 (k : Nat) (v0 : (List AaC)) (v1 : Int) (v2 : (List AaC)) : Nat→Int→Option Int
  | 0,_=>none
  | n+1,v4 =>
    if v4<(v0.length : Int) then
      idx v0 v4 fun v5 =>
      AbK (Aec k v5.From v5.To v5.Cap v1 v2) fun v6 =>
      if v6=true then
        some v4
      else
        AaU.L1 k v0 v1 v2 n (IntKind.wrap .i64 (v4+1))
    else
      some (-1)
def AaU (k : Nat) (v0 : (List AaC)) (v1 : Int) (v2 : (List AaC)) : Option Int :=
  AaU.L1 k v0 v1 v2 k 0
def AbH (k : Nat) (v0 : (List AaC)) (v1 : Int) (v2 : (List AaC)) : Option Bool :=
  AbK (AaU k v0 v1 v2) fun v4 =>
  some (decide (0≤v4))
def AeC (k : Nat) (v0 : Int) (v1 : (List AaC)) : Option Int :=
  AbK (Abf k v0 2 130) fun v3 =>
  if (!v3)=true then
    some 16
  else
    if 1200<(v1.length : Int) then
      some 16
    else
      AbK (AbH k v1 v0 v1) fun v4 =>
      if v4=true then
        some 16
      else
        some 0
def AbC.S (v4 : (List (List AaA))) (x : Int) (e : AaA) (F : (List (List AaA))→Option (List (List AaA))) : Option (List (List AaA)) :=
  chk ((0 : Int)≤x∧x.toNat<v4.length) <|
  idx v4 x fun l =>
  chk ((l.length+([e] : List AaA).length)*16≤140737488355328) <|
  F (v4.set x.toNat (l++[e]))
def AbC.L1 (k : Nat) (v1 : (List AaC)) : Nat→Int→(List (List AaA))→Option (List (List AaA))
  | 0,_,_=>none
  | n+1,v3,v4 =>
    if v3<(v1.length : Int) then
      idx v1 v3 fun v5 =>
      AbC.S v4 v5.From ⟨v3,false⟩ fun v6 =>
      AbC.S v6 v5.To ⟨v3,true⟩ fun v7 =>
      AbC.L1 k v1 n (IntKind.wrap .i64 (v3+1)) v7
    else
      some v4
def AbC (k : Nat) (v0 : Int) (v1 : (List AaC)) (v2 : (List Int)) : Option (List (List AaA)) :=
  chk ((0 : Int)≤v0∧24*v0≤281474976710656) <|
  AbC.L1 k v1 k 0 (List.replicate v0.toNat ([] : List AaA))
def AcJ (k : Nat) (v0 : Int) (v1 : (List AaC)) (v2 : (List Int)) (v3 : (List (List AaA))) (v4 : Int) (v5 : Bool) : Option (Int×Int) :=
  idx v1 v4 fun v8 =>
  if v5=true then
    idx v2 v4 fun v9 =>
    some (v9,v8.From)
  else
    idx v2 v4 fun v10 =>
    some (IntKind.wrap .i64 (v8.Cap-v10),v8.To)
def AaK.J3 (k : Nat) (v11 : Int) (kb2 : Nat→Int→(List (Int×AaA))→(List Int)→Option (List (Int×AaA))) (v14 : (List (Int×AaA))) (v15 : (List Int)) (v16 : Nat) : Option (List (Int×AaA)) :=
  kb2 v16 (IntKind.wrap .i64 (v11+1)) v14 v15
def AaK.J4 (k v10 : Nat) (v11 : Int) (v12 : (List (Int×AaA))) (v13 : (List Int)) (v17 : AaA) (v18 v19 : Int) (kb2 : Nat→Int→(List (Int×AaA))→(List Int)→Option (List (Int×AaA))) (v20 : Bool) : Option (List (Int×AaA)) :=
  if 0<v18 then
    if (!v20)=true then
      chk (((v13.drop v10).length+([v19] : List Int).length)*8≤140737488355328∧v10≤v13.length) <|
      AaK.J3 k v11 kb2 (Agm v12 v19 v17) ((v13.drop v10)++([v19] : List Int)) 0
    else
      AaK.J3 k v11 kb2 v12 v13 v10
  else
    AaK.J3 k v11 kb2 v12 v13 v10
def AaK.L2 (k : Nat) (v0 : Int) (v1 : (List AaC)) (v2 : (List Int)) (v3 : (List (List AaA))) (v9 : (List AaA)) (kb1 : Nat→(List (Int×AaA))→(List Int)→Option (List (Int×AaA))) : Nat→Nat→Int→(List (Int×AaA))→(List Int)→Option (List (Int×AaA))
  | 0,_,_,_,_=>none
  | n+1,v10,v11,v12,v13 =>
    if v11<(v9.length : Int) then
      idx v9 v11 fun v17 =>
      Agk (AcJ k v0 v1 v2 v3 v17.arc v17.back) fun v18 v19 =>
      Aps (AjY v12 v19) (fun v21 =>
        AaK.J4 k v10 v11 v12 v13 v17 v18 v19 (fun v10_ v11_ v12_ v13_=>AaK.L2 k v0 v1 v2 v3 v9 kb1 n v10_ v11_ v12_ v13_) true
      ) <|
      AaK.J4 k v10 v11 v12 v13 v17 v18 v19 (fun v10_ v11_ v12_ v13_=>AaK.L2 k v0 v1 v2 v3 v9 kb1 n v10_ v11_ v12_ v13_) false
    else
      chk (0<v13.length∧(1 : Int)≤(((v13.length-v10) : Nat) : Int)) <|
      kb1 (v10+(1 : Int).toNat) v12 v13
def AaK.L1 (k : Nat) (v0 : Int) (v1 : (List AaC)) (v2 : (List Int)) (v3 : (List (List AaA))) : Nat→Nat→(List (Int×AaA))→(List Int)→Option (List (Int×AaA))
  | 0,_,_,_=>none
  | n+1,v5,v6,v7 =>
    if 0<(((v7.length-v5) : Nat) : Int) then
      chk ((0 : Int)≤0∧(0 : Int).toNat<(v7.length-v5)∧v5+(0 : Int).toNat<v7.length) <|
      idx v7 ((v5+(0 : Int).toNat : Nat) : Int) fun v8 =>
      idx v3 v8 fun v9 =>
      AaK.L2 k v0 v1 v2 v3 v9 (fun v5_ v6_ v7_=>AaK.L1 k v0 v1 v2 v3 n v5_ v6_ v7_) k v5 0 v6 v7
    else
      some v6
def AaK (k : Nat) (v0 : Int) (v1 : (List AaC)) (v2 : (List Int)) (v3 : (List (List AaA))) : Option (List (Int×AaA)) :=
  AaK.L1 k v0 v1 v2 v3 k 0 (Agm ([] : (List (Int×AaA))) 0 (AaA.mk (-1) false)) ([0] : List Int)
def AaM.J3 (k : Nat) (v0 : Int) (v1 : (List AaC)) (v2 : (List Int)) (v3 : (List (List AaA))) (v8 : Int) (v10 : (List AaA)) (kb2 : Int→Int→(List AaA)→Option (Bool×(List Int))) (v11 : Int) (v12 : Bool) : Option (Bool×(List Int)) :=
  Agk (AcJ k v0 v1 v2 v3 v11 v12) fun v13 v14 =>
  chk ((v10.length+([(AaA.mk v11 v12)] : List AaA).length)*16≤140737488355328) <|
  Arl (if v13<v8 then v13 else v8) fun v15 =>
  idx v1 v11 fun v16 =>
  if v12=true then
    kb2 v15 v16.To (v10++([(AaA.mk v11 v12)] : List AaA))
  else
    kb2 v15 v16.From (v10++([(AaA.mk v11 v12)] : List AaA))
def AaM.J5 (k : Nat) (v18 : Int) (kb4 : Int→(List Int)→Option (Bool×(List Int))) (v20 : (List Int)) : Option (Bool×(List Int)) :=
  kb4 (IntKind.wrap .i64 (v18+1)) v20
def AaM.L4 (k : Nat) (v8 : Int) (v10 : (List AaA)) : Nat→Int→(List Int)→Option (Bool×(List Int))
  | 0,_,_=>none
  | n+1,v18,v19 =>
    if v18<(v10.length : Int) then
      idx v10 v18 fun v21 =>
      if v21.back=true then
        chk ((0 : Int)≤v21.arc∧(v21.arc).toNat<v19.length) <|
        idx v19 v21.arc fun v22 =>
        chk ((0 : Int)≤v21.arc∧(v21.arc).toNat<v19.length) <|
        AaM.J5 k v18 (fun v18_ v19_=>AaM.L4 k v8 v10 n v18_ v19_) (v19.set (v21.arc).toNat (IntKind.wrap .i64 (v22-v8)))
      else
        chk ((0 : Int)≤v21.arc∧(v21.arc).toNat<v19.length) <|
        idx v19 v21.arc fun v23 =>
        chk ((0 : Int)≤v21.arc∧(v21.arc).toNat<v19.length) <|
        AaM.J5 k v18 (fun v18_ v19_=>AaM.L4 k v8 v10 n v18_ v19_) (v19.set (v21.arc).toNat (IntKind.wrap .i64 (v23+v8)))
    else
      some (true,v19)
def AaM.L2 (k : Nat) (v0 : Int) (v1 : (List AaC)) (v2 : (List Int)) (v3 : (List (List AaA))) (v6 : (List (Int×AaA))) : Nat→Int→Int→(List AaA)→Option (Bool×(List Int))
  | 0,_,_,_=>none
  | n+1,v8,v9,v10 =>
    if v9≠0 then
      Aps (AjY v6 v9) (fun v17 =>
        AaM.J3 k v0 v1 v2 v3 v8 v10 (fun v8_ v9_ v10_=>AaM.L2 k v0 v1 v2 v3 v6 n v8_ v9_ v10_) v17.arc v17.back
      ) <|
      AaM.J3 k v0 v1 v2 v3 v8 v10 (fun v8_ v9_ v10_=>AaM.L2 k v0 v1 v2 v3 v6 n v8_ v9_ v10_) 0 false
    else
      AaM.L4 k v8 v10 k 0 v2
def AaM.J1 (k : Nat) (v0 : Int) (v1 : (List AaC)) (v2 : (List Int)) (v3 : (List (List AaA))) (v6 : (List (Int×AaA))) (v7 : Bool) : Option (Bool×(List Int)) :=
  if (!v7)=true then
    some (false,v2)
  else
    AaM.L2 k v0 v1 v2 v3 v6 k 1048576 1 ([] : List AaA)
def AaM (k : Nat) (v0 : Int) (v1 : (List AaC)) (v2 : (List Int)) (v3 : (List (List AaA))) : Option (Bool×(List Int)) :=
  AbK (AaK k v0 v1 v2 v3) fun v6 =>
  Aps (AjY v6 1) (fun v24 =>
    AaM.J1 k v0 v1 v2 v3 v6 true
  ) <|
  AaM.J1 k v0 v1 v2 v3 v6 false
def Acy.L1 (k : Nat) (v0 : Int) (v1 : (List AaC)) (v5 : (List (List AaA))) : Nat→(List Int)→Option (List Int)
  | 0,_=>none
  | n+1,v6 =>
    Agk (AaM k v0 v1 v6 v5) fun v7 v8 =>
    chk (v8.length=v6.length) <|
    if v7=true then
      Acy.L1 k v0 v1 v5 n v8
    else
      some v8
def Acy (k : Nat) (v0 : Int) (v1 : (List AaC)) (v2 : (List Int)) : Option (List Int) :=
  AbK (AbZ k v2) fun v4 =>
  AbK (AbC k v0 v1 v4) fun v5 =>
  Acy.L1 k v0 v1 v5 k v4
def AgA (k : Nat) (v0 : Int) (v1 : (List AaC)) : Option ((List Int)×Int) :=
  AbK (AeC k v0 v1) fun v4 =>
  if v4≠0 then
    some (([] : List Int),v4)
  else
    chk ((0 : Int)≤(v1.length : Int)∧16*(v1.length : Int)≤281474976710656) <|
    AbK (Acy k v0 v1 (List.replicate ((v1.length : Int)).toNat (0 : Int))) fun v5 =>
    some (v5,0)
def Abg.L1 (k : Nat) (v1 : (List AaC)) (v2 : (List Int)) : Nat→Int→(List Int)→Option (List Int)
  | 0,_,_=>none
  | n+1,v4,v5 =>
    if v4<(v1.length : Int) then
      idx v1 v4 fun v6 =>
      chk ((0 : Int)≤v6.From∧(v6.From).toNat<v5.length) <|
      idx v5 v6.From fun v7 =>
      idx v2 v4 fun v8 =>
      chk ((0 : Int)≤v6.From∧(v6.From).toNat<v5.length) <|
      chk ((0 : Int)≤v6.To∧(v6.To).toNat<(v5.set (v6.From).toNat (IntKind.wrap .i64 (v7+v8))).length) <|
      idx (v5.set (v6.From).toNat (IntKind.wrap .i64 (v7+v8))) v6.To fun v9 =>
      chk ((0 : Int)≤v6.To∧(v6.To).toNat<(v5.set (v6.From).toNat (IntKind.wrap .i64 (v7+v8))).length) <|
      Abg.L1 k v1 v2 n (IntKind.wrap .i64 (v4+1)) ((v5.set (v6.From).toNat (IntKind.wrap .i64 (v7+v8))).set (v6.To).toNat (IntKind.wrap .i64 (v9-v8)))
    else
      some v5
def Abg (k : Nat) (v0 : Int) (v1 : (List AaC)) (v2 : (List Int)) : Option (List Int) :=
  chk ((0 : Int)≤v0∧16*v0≤281474976710656) <|
  Abg.L1 k v1 v2 k 0 (List.replicate (v0).toNat (0 : Int))
def Aea (k : Nat) (v0 : Int) : Option Bool :=
  some (v0 !=0)
def Aaa.L1 (k : Nat) (v0 : (List Int)) : Nat→Int→Option Int
  | 0,_=>none
  | n+1,v2 =>
    if v2<(v0.length : Int) then
      idx v0 v2 fun v3 =>
      AbK (Aea k v3) fun v4 =>
      if v4=true then
        some v2
      else
        Aaa.L1 k v0 n (IntKind.wrap .i64 (v2+1))
    else
      some (-1)
def Aaa (k : Nat) (v0 : (List Int)) : Option Int :=
  Aaa.L1 k v0 k 0
def Abc (k : Nat) (v0 : (List Int)) : Option Bool :=
  AbK (Aaa k v0) fun v2 =>
  some (decide (0≤v2))
def Abn.L1 (k : Nat) (v0 : Int) (v1 : (List AaC)) (v2 : (List Int)) : Nat→Int→Option Bool
  | 0,_=>none
  | n+1,v5 =>
    if v5<(v1.length : Int) then
      idx v1 v5 fun v6 =>
      idx v2 v5 fun v7 =>
      AbK (Abf k v7 0 v6.Cap) fun v8 =>
      if (!v8)=true then
        some false
      else
        Abn.L1 k v0 v1 v2 n (IntKind.wrap .i64 (v5+1))
    else
      AbK (Abg k v0 v1 v2) fun v9 =>
      chk ((2 : Int)≤((v9.length : Nat) : Int)) <|
      AbK (Abc k (v9.drop ((2 : Int).toNat))) fun v10 =>
      some (!v10)
def Abn (k : Nat) (v0 : Int) (v1 : (List AaC)) (v2 : (List Int)) : Option Bool :=
  AbK (AeC k v0 v1) fun v4 =>
  if v4≠0 then
    some false
  else
    if (v2.length : Int)≠(v1.length : Int) then
      some false
    else
      Abn.L1 k v0 v1 v2 k 0
def AeB (k : Nat) (v0 : Int) (v1 : (List AaC)) (v2 : (List Int)) : Option Int :=
  AbK (Abn k v0 v1 v2) fun v4 =>
  if (!v4)=true then
    some 0
  else
    AbK (Abg k v0 v1 v2) fun v5 =>
    chk ((0 : Int)≤0∧(0 : Int).toNat<v5.length) <|
    idx v5 (0 : Int) fun v6 =>
    some v6
def Adu (k : Nat) (v0 : Int) (v1 : (List AaC)) (v2 : Int) : Option ((List Int)×Bool) :=
  Agk (AgA k v0 v1) fun v5 v6 =>
  AbK (AeB k v0 v1 v5) fun v7 =>
  some (v5,(v7==v2))
def AeZ (k : Nat) (v0 : Int) (v1 : (List AaC)) (v2 : (List Int)) : Option (List (List AaA)):=AbC k v0 v1 v2
def Adi (k : Nat) (v0 : Int) (v1 : (List (Int×AaA))) : Option Bool :=
  Aps (AjY v1 v0) (fun v3 =>
    some true
  ) <|
  some false
def Aad.J2 (k : Nat) (v3 : Int) (kb1 : Int→(List Int)→Option (List Int)) (v5 : (List Int)) : Option (List Int) :=
  kb1 (IntKind.wrap .i64 (v3+1)) v5
def Aad.L1 (k : Nat) (v0 : Int) (v1 : (List (Int×AaA))) : Nat→Int→(List Int)→Option (List Int)
  | 0,_,_=>none
  | n+1,v3,v4 =>
    if v3<v0 then
      AbK (Adi k v3 v1) fun v6 =>
      if v6=true then
        chk ((v4.length+([v3] : List Int).length)*8≤140737488355328) <|
        Aad.J2 k v3 (fun v3_ v4_=>Aad.L1 k v0 v1 n v3_ v4_) (v4++([v3] : List Int))
      else
        Aad.J2 k v3 (fun v3_ v4_=>Aad.L1 k v0 v1 n v3_ v4_) v4
    else
      some v4
def Aad (k : Nat) (v0 : Int) (v1 : (List (Int×AaA))) : Option (List Int) :=
  Aad.L1 k v0 v1 k 0 ([] : List Int)
def Aeb (k : Nat) (v0 : Int) (v1 : (List AaC)) (v2 : (List Int)) : Option (List Int) :=
  AbK (AeZ k v0 v1 v2) fun v4 =>
  AbK (AaK k v0 v1 v2 v4) fun v5 =>
  AbK (Aad k v0 v5) fun v6 =>
  some v6
def Aba.J2 (k : Nat) (v12 : Int) (kb1 : Int→(List Int)→(List AaP)→Option ((List Int)×(List Int)×(List AaP)×Int)) (v15 : (List Int)) (v16 : (List AaP)) : Option ((List Int)×(List Int)×(List AaP)×Int) :=
  kb1 (IntKind.wrap .i64 (v12+1)) v15 v16
def Aba.L1 (k : Nat) (v0 : Int) (v1 : (List AaB)) (v2 v3 v4 : (List Int)) (v5 : Int) (v11 : (List Int)) : Nat→Int→(List Int)→(List AaP)→Option ((List Int)×(List Int)×(List AaP)×Int)
  | 0,_,_,_=>none
  | n+1,v12,v13,v14 =>
    if v12<(v11.length : Int) then
      idx v11 v12 fun v17 =>
      AbK (AfK k v13 v17) fun v18 =>
      Agk (Ac1 k v0 v1 v2 v3 v4 v5 v18) fun v19 v20 =>
      Agk (Adu k v19 v20 (v18.length : Int)) fun v21 v22 =>
      if v22=true then
        Aba.J2 k v12 (fun v12_ v13_ v14_=>Aba.L1 k v0 v1 v2 v3 v4 v5 v11 n v12_ v13_ v14_) v18 v14
      else
        AbK (Aeb k v19 v20 v21) fun v23 =>
        chk ((v14.length+([(AaP.mk v17 v23)] : List AaP).length)*32≤140737488355328) <|
        Aba.J2 k v12 (fun v12_ v13_ v14_=>Aba.L1 k v0 v1 v2 v3 v4 v5 v11 n v12_ v13_ v14_) v13 (v14++([(AaP.mk v17 v23)] : List AaP))
    else
      Agk (Ac1 k v0 v1 v2 v3 v4 v5 v13) fun v24 v25 =>
      Agk (Adu k v24 v25 (v13.length : Int)) fun v26 v27 =>
      some (v13,v26,v14,0)
def Aba (k : Nat) (v0 : Int) (v1 : (List AaB)) (v2 v3 v4 : (List Int)) (v5 : Int) : Option ((List Int)×(List Int)×(List AaP)×Int) :=
  AbK (Aas k v0 v1 v2 v3 v4 v5) fun v10 =>
  if v10≠0 then
    some (([] : List Int),([] : List Int),([] : List AaP),v10)
  else
    AbK (Aeh k v0 v1 v2 v3 v4 v5) fun v11 =>
    Aba.L1 k v0 v1 v2 v3 v4 v5 v11 k 0 ([] : List Int) ([] : List AaP)
def Adq (k : Nat) (v0 v1 v2 v3 : Int) : Option Bool :=
  some (v0==v3)
def AaX.L1 (k : Nat) (v0 : (List AaC)) (v1 : Int) : Nat→Int→Option Int
  | 0,_=>none
  | n+1,v3 =>
    if v3<(v0.length : Int) then
      idx v0 v3 fun v4 =>
      AbK (Adq k v4.From v4.To v4.Cap v1) fun v5 =>
      if v5=true then
        some v3
      else
        AaX.L1 k v0 v1 n (IntKind.wrap .i64 (v3+1))
    else
      some (-1)
def AaX (k : Nat) (v0 : (List AaC)) (v1 : Int) : Option Int :=
  AaX.L1 k v0 v1 k 0
def AcG (k : Nat) (v0 : (List Int)) : Option (List Int) :=
  chk (v0.length*8≤140737488355328) <| some v0
def AaR.J4 (k : Nat) (v12 : (List Int)) (v17 v18 : Int) (v19 : AaC) (kb2 : (List Int)→(List Int)→(List (Int×Int))→Int→Option ((List (List Int))×Int)) (v20 : (List Int)) (v21 : (List (Int×Int))) : Option ((List (List Int))×Int) :=
  kb2 (v12.set (v17).toNat (IntKind.wrap .i64 (v18-1))) v20 (Agm v21 v19.To (v20.length : Int)) v19.To
def AaR.L6 (k : Nat) (v1 : (List AaC)) (v12 v13 : (List Int)) (v17 v18 : Int) (v19 : AaC) (v22 : Int) (kb2 : (List Int)→(List Int)→(List (Int×Int))→Int→Option ((List (List Int))×Int)) : Nat→Int→(List (Int×Int))→Option ((List (List Int))×Int)
  | 0,_,_=>none
  | n+1,v24,v25 =>
    if v24<((((v13++([v17] : List Int)).length-((v22).toNat)) : Nat) : Int) then
      chk ((0 : Int)≤v24∧(v24).toNat<((v13++([v17] : List Int)).length-((v22).toNat))∧(v22).toNat+(v24).toNat<(v13++([v17] : List Int)).length) <|
      idx (v13++([v17] : List Int)) (((v22).toNat+(v24).toNat : Nat) : Int) fun v26 =>
      idx v1 v26 fun v27 =>
      AaR.L6 k v1 v12 v13 v17 v18 v19 v22 kb2 n (IntKind.wrap .i64 (v24+1)) (AnD v25 v27.To)
    else
      chk (0<(v13++([v17] : List Int)).length∧(0 : Int)<v22∧(0 : Int)≤v22∧(v22 : Int)≤(((v13++([v17] : List Int)).length : Nat) : Int)) <|
      AaR.J4 k v12 v17 v18 v19 kb2 ((v13++([v17] : List Int)).take ((v22).toNat)) v25
def AaR.J5 (k : Nat) (v1 : (List AaC)) (v12 v13 : (List Int)) (v14 : (List (Int×Int))) (v17 v18 : Int) (v19 : AaC) (kb2 : (List Int)→(List Int)→(List (Int×Int))→Int→Option ((List (List Int))×Int)) (v22 : Int) (v23 : Bool) : Option ((List (List Int))×Int) :=
  if v23=true then
    chk (0<(v13++([v17] : List Int)).length∧(0 : Int)≤v22∧(v22 : Int)≤(((v13++([v17] : List Int)).length : Nat) : Int)) <|
    AaR.L6 k v1 v12 v13 v17 v18 v19 v22 kb2 k 0 v14
  else
    AaR.J4 k v12 v17 v18 v19 kb2 (v13++([v17] : List Int)) v14
def AaR.J3 (k : Nat) (v1 : (List AaC)) (v12 v13 : (List Int)) (v14 : (List (Int×Int))) (kb2 : (List Int)→(List Int)→(List (Int×Int))→Int→Option ((List (List Int))×Int)) (v17 : Int) : Option ((List (List Int))×Int) :=
  chk ((0 : Int)≤v17∧(v17).toNat<v12.length) <|
  idx v12 v17 fun v18 =>
  chk ((0 : Int)≤v17∧(v17).toNat<v12.length) <|
  chk ((v13.length+([v17] : List Int).length)*8≤140737488355328) <|
  idx v1 v17 fun v19 =>
  Aps (AjY v14 v19.To) (fun v28 =>
    AaR.J5 k v1 v12 v13 v14 v17 v18 v19 kb2 v28 true
  ) <|
  AaR.J5 k v1 v12 v13 v14 v17 v18 v19 kb2 0 false
def AaR.J8 (k : Nat) (v29 : Int) (kb7 : Int→Option ((List (List Int))×Int)) : Option ((List (List Int))×Int) :=
  kb7 (IntKind.wrap .i64 (v29+1))
def AaR.L7 (k : Nat) (v1 : (List AaC)) (v12 v13 : (List Int)) (v14 : (List (Int×Int))) (v15 : Int) (kb2 : (List Int)→(List Int)→(List (Int×Int))→Int→Option ((List (List Int))×Int)) : Nat→Int→Option ((List (List Int))×Int)
  | 0,_=>none
  | n+1,v29 =>
    if v29<(v1.length : Int) then
      idx v1 v29 fun v30 =>
      if v30.From≠v15 then
        AaR.J8 k v29 (fun v29_=>AaR.L7 k v1 v12 v13 v14 v15 kb2 n v29_)
      else
        chk ((0 : Int)≤v29∧(v29).toNat<v12.length) <|
        idx v12 v29 fun v31 =>
        if v31=0 then
          AaR.J8 k v29 (fun v29_=>AaR.L7 k v1 v12 v13 v14 v15 kb2 n v29_)
        else
          AaR.J3 k v1 v12 v13 v14 kb2 v29
    else
      AaR.J3 k v1 v12 v13 v14 kb2 v29
def AaR.L2 (k : Nat) (v1 : (List AaC)) (v9 : Int) (v11 : (List (List Int))) (kb1 : Int→(List Int)→(List (List Int))→Option ((List (List Int))×Int)) : Nat→(List Int)→(List Int)→(List (Int×Int))→Int→Option ((List (List Int))×Int)
  | 0,_,_,_,_=>none
  | n+1,v12,v13,v14,v15 =>
    if v15≠1 then
      AbK (AaX k v1 v15) fun v16 =>
      AaR.L7 k v1 v12 v13 v14 v15 (fun v12_ v13_ v14_ v15_=>AaR.L2 k v1 v9 v11 kb1 n v12_ v13_ v14_ v15_) k v16
    else
      AbK (AcG k v13) fun v32 =>
      chk ((v11.length+([v32] : List (List Int)).length)*24≤140737488355328) <|
      kb1 (IntKind.wrap .i64 (v9+1)) v12 (v11++([v32] : List (List Int)))
def AaR.L1 (k : Nat) (v1 : (List AaC)) (v8 : Int) : Nat→Int→(List Int)→(List (List Int))→Option ((List (List Int))×Int)
  | 0,_,_,_=>none
  | n+1,v9,v10,v11 =>
    if v9<v8 then
      AaR.L2 k v1 v9 v11 (fun v9_ v10_ v11_=>AaR.L1 k v1 v8 n v9_ v10_ v11_) k v10 ([] : List Int) (Agm ([] : (List (Int×Int))) 0 0) 0
    else
      some (v11,0)
def AaR (k : Nat) (v0 : Int) (v1 : (List AaC)) (v2 : (List Int)) : Option ((List (List Int))×Int) :=
  AbK (AeC k v0 v1) fun v5 =>
  if v5≠0 then
    some (([] : List (List Int)),v5)
  else
    AbK (Abn k v0 v1 v2) fun v6 =>
    if (!v6)=true then
      some (([] : List (List Int)),17)
    else
      AbK (AbZ k v2) fun v7 =>
      AbK (AeB k v0 v1 v2) fun v8 =>
      AaR.L1 k v1 v8 k 0 v7 ([] : List (List Int))
def AcA.L1 (k : Nat) (v0 : Int) (v1 : (List AaC)) : Nat→Int→Option Int
  | 0,_=>none
  | n+1,v3 =>
    if v3<(v1.length : Int) then
      idx v1 v3 fun v4 =>
      if v4.From<0 then
        some 16
      else
        if v0≤v4.From then
          some 16
        else
          if v4.To<0 then
            some 16
          else
            if v0≤v4.To then
              some 16
            else
              if v4.From=v4.To then
                some 16
              else
                if v4.To=0 then
                  some 16
                else
                  if v4.From=1 then
                    some 16
                  else
                    if v4.Cap<0 then
                      some 16
                    else
                      if 1048576<v4.Cap then
                        some 16
                      else
                        AcA.L1 k v0 v1 n (IntKind.wrap .i64 (v3+1))
    else
      some 0
def AcA (k : Nat) (v0 : Int) (v1 : (List AaC)) : Option Int :=
  if v0<2 then
    some 16
  else
    if 130<v0 then
      some 16
    else
      if 1200<(v1.length : Int) then
        some 16
      else
        AcA.L1 k v0 v1 k 0
def AbM.L2 (k : Nat) (v0 : Int) (v6 : (List Int)) : Nat→Int→Option Bool
  | 0,_=>none
  | n+1,v11 =>
    if v11<v0 then
      idx v6 v11 fun v12 =>
      if v12≠0 then
        some false
      else
        AbM.L2 k v0 v6 n (IntKind.wrap .i64 (v11+1))
    else
      some true
def AbM.L1 (k : Nat) (v0 : Int) (v1 : (List AaC)) (v2 : (List Int)) : Nat→Int→(List Int)→Option Bool
  | 0,_,_=>none
  | n+1,v5,v6 =>
    if v5<(v2.length : Int) then
      idx v2 v5 fun v7 =>
      if v7<0 then
        some false
      else
        idx v1 v5 fun v8 =>
        if v8.Cap<v7 then
          some false
        else
          chk ((0 : Int)≤v8.From∧(v8.From).toNat<v6.length) <|
          idx v6 v8.From fun v9 =>
          chk ((0 : Int)≤v8.From∧(v8.From).toNat<v6.length) <|
          chk ((0 : Int)≤v8.To∧(v8.To).toNat<(v6.set (v8.From).toNat (IntKind.wrap .i64 (v9-v7))).length) <|
          idx (v6.set (v8.From).toNat (IntKind.wrap .i64 (v9-v7))) v8.To fun v10 =>
          chk ((0 : Int)≤v8.To∧(v8.To).toNat<(v6.set (v8.From).toNat (IntKind.wrap .i64 (v9-v7))).length) <|
          AbM.L1 k v0 v1 v2 n (IntKind.wrap .i64 (v5+1)) ((v6.set (v8.From).toNat (IntKind.wrap .i64 (v9-v7))).set (v8.To).toNat (IntKind.wrap .i64 (v10+v7)))
    else
      AbM.L2 k v0 v6 k 2
def AbM (k : Nat) (v0 : Int) (v1 : (List AaC)) (v2 : (List Int)) : Option Bool :=
  AbK (AcA k v0 v1) fun v4 =>
  if v4≠0 then
    some false
  else
    if (v2.length : Int)≠(v1.length : Int) then
      some false
    else
      chk ((0 : Int)≤v0∧16*v0≤281474976710656) <|
      AbM.L1 k v0 v1 v2 k 0 (List.replicate (v0).toNat (0 : Int))
def AbL.J2 (k : Nat) (v6 : Int) (kb1 : Int→Int→Option Int) (v7 : Int) : Option Int :=
  kb1 v7 (IntKind.wrap .i64 (v6+1))
def AbL.L1 (k : Nat) (v1 : (List AaC)) (v2 : (List Int)) : Nat→Int→Int→Option Int
  | 0,_,_=>none
  | n+1,v5,v6 =>
    if v6<(v2.length : Int) then
      idx v1 v6 fun v8 =>
      if v8.From=0 then
        idx v2 v6 fun v9 =>
        AbL.J2 k v6 (fun v5_ v6_=>AbL.L1 k v1 v2 n v5_ v6_) (IntKind.wrap .i64 (v5+v9))
      else
        AbL.J2 k v6 (fun v5_ v6_=>AbL.L1 k v1 v2 n v5_ v6_) v5
    else
      some v5
def AbL (k : Nat) (v0 : Int) (v1 : (List AaC)) (v2 : (List Int)) : Option Int :=
  AbK (AbM k v0 v1 v2) fun v4 =>
  if (!v4)=true then
    some 0
  else
    AbL.L1 k v1 v2 k 0 0
def Aaf.L3 (k : Nat) (v2 : (List Int)) (v9 : Int) (v10 v11 : (List Int)) (v13 : Int) (v14 : AaC) (kb2 : Int→Int→(List Int)→(List Int)→Option Bool) : Nat→Int→Option Bool
  | 0,_=>none
  | n+1,v15 =>
    if v15<(v11.length : Int) then
      chk ((0 : Int)≤v15∧(v15).toNat<v11.length) <|
      idx v11 v15 fun v16 =>
      if v16=v14.To then
        some false
      else
        Aaf.L3 k v2 v9 v10 v11 v13 v14 kb2 n (IntKind.wrap .i64 (v15+1))
    else
      chk ((v11.length+([v14.To] : List Int).length)*8≤140737488355328) <|
      chk ((0 : Int)≤v13∧(v13).toNat<v10.length) <|
      idx v10 v13 fun v17 =>
      chk ((0 : Int)≤v13∧(v13).toNat<v10.length) <|
      chk ((0 : Int)≤v13∧(v13).toNat<(v10.set (v13).toNat (IntKind.wrap .i64 (v17+1))).length) <|
      idx (v10.set (v13).toNat (IntKind.wrap .i64 (v17+1))) v13 fun v18 =>
      idx v2 v13 fun v19 =>
      if v19<v18 then
        some false
      else
        kb2 v14.To (IntKind.wrap .i64 (v9+1)) (v10.set (v13).toNat (IntKind.wrap .i64 (v17+1))) (v11++([v14.To] : List Int))
def Aaf.L2 (k : Nat) (v1 : (List AaC)) (v2 : (List Int)) (v3 : (List (List Int))) (v6 : Int) (kb1 : Int→(List Int)→Option Bool) : Nat→Int→Int→(List Int)→(List Int)→Option Bool
  | 0,_,_,_,_=>none
  | n+1,v8,v9,v10,v11 =>
    idx v3 v6 fun v12 =>
    if v9<(v12.length : Int) then
      idx v12 v9 fun v13 =>
      if v13<0 then
        some false
      else
        if (v1.length : Int)≤v13 then
          some false
        else
          idx v1 v13 fun v14 =>
          if v14.From≠v8 then
            some false
          else
            Aaf.L3 k v2 v9 v10 v11 v13 v14 (fun v8_ v9_ v10_ v11_=>Aaf.L2 k v1 v2 v3 v6 kb1 n v8_ v9_ v10_ v11_) k 0
    else
      if v8≠1 then
        some false
      else
        kb1 (IntKind.wrap .i64 (v6+1)) v10
def Aaf.L1 (k : Nat) (v1 : (List AaC)) (v2 : (List Int)) (v3 : (List (List Int))) : Nat→Int→(List Int)→Option Bool
  | 0,_,_=>none
  | n+1,v6,v7 =>
    if v6<(v3.length : Int) then
      Aaf.L2 k v1 v2 v3 v6 (fun v6_ v7_=>Aaf.L1 k v1 v2 v3 n v6_ v7_) k 0 0 v7 ([0] : List Int)
    else
      some true
def Aaf (k : Nat) (v0 : Int) (v1 : (List AaC)) (v2 : (List Int)) (v3 : (List (List Int))) : Option Bool :=
  chk ((0 : Int)≤(v1.length : Int)∧16*(v1.length : Int)≤281474976710656) <|
  AbK (AbL k v0 v1 v2) fun v5 =>
  if (v3.length : Int)≠v5 then
    some false
  else
    Aaf.L1 k v1 v2 v3 k 0 (List.replicate ((v1.length : Int)).toNat (0 : Int))
def AbN.J2 (k : Nat) (v10 : Int) (kb1 : Int→(List AaB)→Option (Int×(List AaB)×(List Int))) (v12 : (List AaB)) : Option (Int×(List AaB)×(List Int)) :=
  kb1 (IntKind.wrap .i64 (v10+1)) v12
def AbN.L1 (k : Nat) (v1 : (List AaB)) (v3 v7 : Int) (v9 : (List Int)) : Nat→Int→(List AaB)→Option (Int×(List AaB)×(List Int))
  | 0,_,_=>none
  | n+1,v10,v11 =>
    if v10<(v1.length : Int) then
      idx v1 v10 fun v13 =>
      if v3≤v13.Level then
        chk ((v11.length+([v13] : List AaB).length)*24≤140737488355328) <|
        AbN.J2 k v10 (fun v10_ v11_=>AbN.L1 k v1 v3 v7 v9 n v10_ v11_) (v11++([v13] : List AaB))
      else
        AbN.J2 k v10 (fun v10_ v11_=>AbN.L1 k v1 v3 v7 v9 n v10_ v11_) v11
    else
      some (v7,v11,v9)
def AbN (k : Nat) (v0 : Int) (v1 : (List AaB)) (v2 : (List Int)) (v3 : Int) : Option (Int×(List AaB)×(List Int)) :=
  Ao4 (Adm k v0 v1 v2) fun v7 v8 v9 =>
  AbN.L1 k v1 v3 v7 v9 k 0 ([] : List AaB)
def Abu.J2 (k : Nat) (v5 : Int) (kb1 : Int→(List Int)→Option (List Int)) (v7 : (List Int)) : Option (List Int) :=
  kb1 (IntKind.wrap .i64 (v5+1)) v7
def Abu.L1 (k : Nat) (v1 : (List AaB)) (v3 : Int) : Nat→Int→(List Int)→Option (List Int)
  | 0,_,_=>none
  | n+1,v5,v6 =>
    if v5<(v1.length : Int) then
      idx v1 v5 fun v8 =>
      if v8.From=v3 then
        chk ((v6.length+([v8.To] : List Int).length)*8≤140737488355328) <|
        Abu.J2 k v5 (fun v5_ v6_=>Abu.L1 k v1 v3 n v5_ v6_) (v6++([v8.To] : List Int))
      else
        Abu.J2 k v5 (fun v5_ v6_=>Abu.L1 k v1 v3 n v5_ v6_) v6
    else
      some v6
def Abu (k : Nat) (v0 : Int) (v1 : (List AaB)) (v2 : (List Int)) (v3 : Int) : Option (List Int) :=
  Abu.L1 k v1 v3 k 0 ([] : List Int)
def AaG.J4 (k : Nat) (v33 : Int) (kb3 : Int→Int→(List Int)→(List Int)→Option Bool) (v37 v38 : (List Int)) (v39 : Int) : Option Bool :=
  kb3 v39 (IntKind.wrap .i64 (v33+1)) v37 v38
def AaG.J5 (k : Nat) (v33 : Int) (v34 v35 : (List Int)) (v41 : AaC) (kb3 : Int→Int→(List Int)→(List Int)→Option Bool) : Option Bool :=
  chk ((0 : Int)≤(IntKind.wrap .i64 (Int.tdiv (IntKind.wrap .i64 (v41.To-2)) 2))∧(IntKind.wrap .i64 (Int.tdiv (IntKind.wrap .i64 (v41.To-2)) 2)).toNat<v34.length) <|
  idx v34 (IntKind.wrap .i64 (Int.tdiv (IntKind.wrap .i64 (v41.To-2)) 2)) fun v43 =>
  chk ((0 : Int)≤(IntKind.wrap .i64 (Int.tdiv (IntKind.wrap .i64 (v41.To-2)) 2))∧(IntKind.wrap .i64 (Int.tdiv (IntKind.wrap .i64 (v41.To-2)) 2)).toNat<v34.length) <|
  AaG.J4 k v33 kb3 (v34.set (IntKind.wrap .i64 (Int.tdiv (IntKind.wrap .i64 (v41.To-2)) 2)).toNat (IntKind.wrap .i64 (v43+1))) v35 (IntKind.wrap .i64 (Int.tdiv (IntKind.wrap .i64 (v41.To-2)) 2))
def AaG.L3 (k : Nat) (v6 : Int) (v7 : (List AaB)) (v8 v10 : (List Int)) (v12 : Int) (v23 : (List AaC)) (v25 : (List (List Int))) (v29 : Int) (kb2 : Int→(List Int)→(List Int)→Option Bool) : Nat→Int→Int→(List Int)→(List Int)→Option Bool
  | 0,_,_,_,_=>none
  | n+1,v32,v33,v34,v35 =>
    idx v25 v29 fun v36 =>
    if v33<(v36.length : Int) then
      idx v36 v33 fun v40 =>
      idx v23 v40 fun v41 =>
      if v41.To=1 then
        chk ((0 : Int)≤v32∧(v32).toNat<v35.length) <|
        idx v35 v32 fun v42 =>
        chk ((0 : Int)≤v32∧(v32).toNat<v35.length) <|
        AaG.J4 k v33 (fun v32_ v33_ v34_ v35_=>AaG.L3 k v6 v7 v8 v10 v12 v23 v25 v29 kb2 n v32_ v33_ v34_ v35_) v34 (v35.set (v32).toNat (IntKind.wrap .i64 (v42+1))) v32
      else
        if (Int.tmod (IntKind.wrap .i64 (v41.To-2)) 2)=1 then
          AaG.J4 k v33 (fun v32_ v33_ v34_ v35_=>AaG.L3 k v6 v7 v8 v10 v12 v23 v25 v29 kb2 n v32_ v33_ v34_ v35_) v34 v35 v32
        else
          if v32<0 then
            AbK (Abk k v10 (IntKind.wrap .i64 (Int.tdiv (IntKind.wrap .i64 (v41.To-2)) 2))) fun v44 =>
            if (!v44)=true then
              some false
            else
              if 0≤v32 then
                none
              else
                AaG.J5 k v33 v34 v35 v41 (fun v32_ v33_ v34_ v35_=>AaG.L3 k v6 v7 v8 v10 v12 v23 v25 v29 kb2 n v32_ v33_ v34_ v35_)
          else
            if 0≤v32 then
              Ao4 (AbN k v6 v7 v8 v12) fun v45 v46 v47 =>
              AbK (Abu k v45 v46 v47 v32) fun v48 =>
              AbK (Abk k v48 (IntKind.wrap .i64 (Int.tdiv (IntKind.wrap .i64 (v41.To-2)) 2))) fun v49 =>
              if (!v49)=true then
                some false
              else
                AaG.J5 k v33 v34 v35 v41 (fun v32_ v33_ v34_ v35_=>AaG.L3 k v6 v7 v8 v10 v12 v23 v25 v29 kb2 n v32_ v33_ v34_ v35_)
            else
              none
    else
      kb2 (IntKind.wrap .i64 (v29+1)) v34 v35
def AaG.J7 (k : Nat) (v6 : Int) (v28 v30 v31 : (List Int)) (v50 : Int) (kb6 : Int→Option Bool) (v51 : Int) : Option Bool :=
  idx v31 v50 fun v52 =>
  if v52≠v51 then
    some false
  else
    if (v28.length : Int)≠v6 then
      some false
    else
      idx v30 v50 fun v53 =>
      idx v28 v50 fun v54 =>
      if v54<v53 then
        some false
      else
        kb6 (IntKind.wrap .i64 (v50+1))
def AaG.L6 (k : Nat) (v6 : Int) (v18 v28 v30 v31 : (List Int)) : Nat→Int→Option Bool
  | 0,_=>none
  | n+1,v50 =>
    if v50<v6 then
      AbK (Abk k v18 v50) fun v55 =>
      if v55=true then
        AaG.J7 k v6 v28 v30 v31 v50 (fun v50_=>AaG.L6 k v6 v18 v28 v30 v31 n v50_) 1
      else
        AaG.J7 k v6 v28 v30 v31 v50 (fun v50_=>AaG.L6 k v6 v18 v28 v30 v31 n v50_) 0
    else
      AbK (AiU k) fun v56 =>
      some v56
def AaG.L2 (k : Nat) (v6 : Int) (v7 : (List AaB)) (v8 v10 : (List Int)) (v12 : Int) (v18 : (List Int)) (v23 : (List AaC)) (v25 : (List (List Int))) (v28 : (List Int)) : Nat→Int→(List Int)→(List Int)→Option Bool
  | 0,_,_,_=>none
  | n+1,v29,v30,v31 =>
    if v29<(v25.length : Int) then
      AaG.L3 k v6 v7 v8 v10 v12 v23 v25 v29 (fun v29_ v30_ v31_=>AaG.L2 k v6 v7 v8 v10 v12 v18 v23 v25 v28 n v29_ v30_ v31_) k (-1) 0 v30 v31
    else
      AaG.L6 k v6 v18 v28 v30 v31 k 0
def AaG.L1 (k : Nat) (v6 : Int) (v7 : (List AaB)) (v8 v10 v11 : (List Int)) (v12 : Int) (v14 v15 : (List Int)) (v17 : Int) : Nat→(List Int)→Int→Option Bool
  | 0,_,_=>none
  | n+1,v18,v19 =>
    if v19<(v14.length : Int) then
      idx v14 v19 fun v20 =>
      AbK (AbT k v18 v20) fun v21 =>
      AaG.L1 k v6 v7 v8 v10 v11 v12 v14 v15 v17 n v21 (IntKind.wrap .i64 (v19+1))
    else
      Ao4 (AaO k v6 v7 v8 v10 v11 v12 v18) fun v22 v23 v24 =>
      Agk (AaR k v22 v23 v15) fun v25 v26 =>
      if v17≠0 then
        some false
      else
        if v24≠0 then
          some false
        else
          if v26≠0 then
            some false
          else
            if (v25.length : Int)≠(v18.length : Int) then
              some false
            else
              AbK (Aaf k v22 v23 v15 v25) fun v27 =>
              if (!v27)=true then
                some false
              else
                AbK (Abh k v6 v7 v8 v10 v11 v12) fun v28 =>
                chk ((0 : Int)≤v6∧16*v6≤281474976710656) <|
                chk ((0 : Int)≤v6∧16*v6≤281474976710656) <|
                AaG.L2 k v6 v7 v8 v10 v12 v18 v23 v25 v28 k 0 (List.replicate (v6).toNat (0 : Int)) (List.replicate (v6).toNat (0 : Int))
def AaG (k : Nat) (v0 : (List Int)) : Option Bool :=
  AbK (Af7 k v0) fun v2 =>
  if (!v2)=true then
    AbK (AiU k) fun v3 =>
    some v3
  else
    Agk (Ag8 k v0) fun v4 v5 =>
    Auj (AaV k v4 v5) fun v6 v7 v8 v9 =>
    Auj (Aar k v4 v9 v6 v7 v8) fun v10 v11 v12 v13 =>
    Auj (Aba k v6 v7 v8 v10 v11 v12) fun v14 v15 v16 v17 =>
    AaG.L1 k v6 v7 v8 v10 v11 v12 v14 v15 v17 k ([] : List Int) 0
theorem GK {P : List (List Nat×List Nat)→Prop} {c : List (List Nat×List Nat)→Bool} {l : List (List Nat×List Nat)} (g : ∀ l,c l=true→P l) (h : c l=true:=by kernel_rfl) : P l:=g l h
abbrev Q0 (l : List AaB) : AV := .lst false false (List.map AaB.av l)
abbrev Q1 (l : List AaP) : AV := .lst false false (List.map AaP.av l)
abbrev Q2 (l : List AaC) : AV := .lst false false (List.map AaC.av l)
abbrev Q3 (l : List AaA) : AV := .lst false false (List.map AaA.av l)
abbrev E0 : AV := .lst true true (List.map AaB.av ([] : List AaB))
abbrev E1 : AV := .lst true true (List.map AaP.av ([] : List AaP))
abbrev E2 : AV := .lst true true (List.map AaC.av ([] : List AaC))
abbrev E3 : AV := .lst true true (List.map AaA.av ([] : List AaA))
abbrev Ez : AV := .lst true true (List.map (AV.int .i64) ([] : List Int))
abbrev Gi (l : List Int) : AaZ := .grow (List.map (AV.int .i64) l)
abbrev Ci (l : List Int) : AaZ := .cells (List.map (AV.int .i64) l)
theorem A2 {p0 p1 : Prop} (a0 : p0) (a1 : p1) : p0∧p1:=⟨a0,a1⟩
theorem A3 {p0 p1 p2 : Prop} (a0 : p0) (a1 : p1) (a2 : p2) : p0∧p1∧p2:=⟨a0,a1,a2⟩
theorem A4 {p0 p1 p2 p3 : Prop} (a0 : p0) (a1 : p1) (a2 : p2) (a3 : p3) : p0∧p1∧p2∧p3:=⟨a0,a1,a2,a3⟩
theorem A5 {p0 p1 p2 p3 p4 : Prop} (a0 : p0) (a1 : p1) (a2 : p2) (a3 : p3) (a4 : p4) : p0∧p1∧p2∧p3∧p4:=⟨a0,a1,a2,a3,a4⟩
theorem A6 {p0 p1 p2 p3 p4 p5 : Prop} (a0 : p0) (a1 : p1) (a2 : p2) (a3 : p3) (a4 : p4) (a5 : p5) : p0∧p1∧p2∧p3∧p4∧p5:=⟨a0,a1,a2,a3,a4,a5⟩
theorem A7 {p0 p1 p2 p3 p4 p5 p6 : Prop} (a0 : p0) (a1 : p1) (a2 : p2) (a3 : p3) (a4 : p4) (a5 : p5) (a6 : p6) : p0∧p1∧p2∧p3∧p4∧p5∧p6:=⟨a0,a1,a2,a3,a4,a5,a6⟩
theorem A8 {p0 p1 p2 p3 p4 p5 p6 p7 : Prop} (a0 : p0) (a1 : p1) (a2 : p2) (a3 : p3) (a4 : p4) (a5 : p5) (a6 : p6) (a7 : p7) : p0∧p1∧p2∧p3∧p4∧p5∧p6∧p7:=⟨a0,a1,a2,a3,a4,a5,a6,a7⟩
theorem A9 {p0 p1 p2 p3 p4 p5 p6 p7 p8 : Prop} (a0 : p0) (a1 : p1) (a2 : p2) (a3 : p3) (a4 : p4) (a5 : p5) (a6 : p6) (a7 : p7) (a8 : p8) : p0∧p1∧p2∧p3∧p4∧p5∧p6∧p7∧p8:=⟨a0,a1,a2,a3,a4,a5,a6,a7,a8⟩
end Go.TF
