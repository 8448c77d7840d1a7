/- The Go functions as Lean functions (printed by a program of our own). -/
import Derived.Test.YtjmcidiplbkmpaaAbsW
set_option linter.unusedVariables false
set_option maxRecDepth 100000
namespace Go.TF
open Go Go.Abs
abbrev Iz (n : Int) : AV := .int .i64 n
abbrev Lz (l : List Int) : AV := .lst false false (l.map (.int .i64))
abbrev Lb (l : List Int) : AV := .lst false false (l.map (.int .u8))
abbrev Lw (l : List Int) : AV := .lst false false (l.map (.int .u32))
structure api_Arc where
  From : Int
  To : Int
  Cap : Int
@[simp] def api_Arc.av (x : api_Arc) : AV := AV.agg [AV.int .i64 x.From, AV.int .i64 x.To, AV.int .i64 x.Cap]
@[simp] theorem api_Arc.okEls (l : List api_Arc) : okEls 3 (l.map api_Arc.av) ↔ True := iff_true_intro (okEls_iff.2 fun x hx => by
  simp only [List.mem_map] at hx
  obtain ⟨b, _, rfl⟩ := hx
  simp)
@[simp] theorem api_Arc.gdF (S : Nat → Prop) (l : List api_Arc) : gdL S (flatA (l.map api_Arc.av)) ↔ True := iff_true_intro (gdL_flat (by simp) l)
@[simp] theorem api_Arc.frF (l : List api_Arc) : freshL (flatA (l.map api_Arc.av)) = true := freshL_flat (by simp) l
@[simp] theorem api_Arc.renF (σ : Nat → Nat) (l : List api_Arc) : renL σ (flatA (l.map api_Arc.av)) = flatA (l.map api_Arc.av) := renL_flat (by simp) l
@[simp] theorem api_Arc.lenF (l : List api_Arc) : (flatA (l.map api_Arc.av)).length = l.length * 3 := flat_len (F := api_Arc.av) (fun _ => rfl) l
@[simp↓] theorem api_Arc.oneF (l : List api_Arc) : (flatA (l.map api_Arc.av)).all AV.one = true := one_flat (by simp) l
@[simp] theorem api_Arc.ids (S : Nat → Prop) (l : List api_Arc) : idsInL S (l.map api_Arc.av) ↔ True := iff_true_intro (ids_map_of (by simp) l)
structure flow_step where
  arc : Int
  back : Bool
@[simp] def flow_step.av (x : flow_step) : AV := AV.agg [AV.int .i64 x.arc, AV.bool x.back]
@[simp] theorem flow_step.okEls (l : List flow_step) : okEls 2 (l.map flow_step.av) ↔ True := iff_true_intro (okEls_iff.2 fun x hx => by
  simp only [List.mem_map] at hx
  obtain ⟨b, _, rfl⟩ := hx
  simp)
@[simp] theorem flow_step.gdF (S : Nat → Prop) (l : List flow_step) : gdL S (flatA (l.map flow_step.av)) ↔ True := iff_true_intro (gdL_flat (by simp) l)
@[simp] theorem flow_step.frF (l : List flow_step) : freshL (flatA (l.map flow_step.av)) = true := freshL_flat (by simp) l
@[simp] theorem flow_step.renF (σ : Nat → Nat) (l : List flow_step) : renL σ (flatA (l.map flow_step.av)) = flatA (l.map flow_step.av) := renL_flat (by simp) l
@[simp] theorem flow_step.lenF (l : List flow_step) : (flatA (l.map flow_step.av)).length = l.length * 2 := flat_len (F := flow_step.av) (fun _ => rfl) l
@[simp↓] theorem flow_step.oneF (l : List flow_step) : (flatA (l.map flow_step.av)).all AV.one = true := one_flat (by simp) l
@[simp] theorem flow_step.mpR (σ : Nat → Nat) (k : IntKind) (l : List (Int × flow_step)) : renO σ (.mp (mpA (AV.int k) flow_step.av l)) = .mp (mpA (AV.int k) flow_step.av l) := renO_mpA σ _ _ l (by simp) (by simp)
@[simp] theorem flow_step.mpG (S : Nat → Prop) (k : IntKind) (l : List (Int × flow_step)) : gdO S (.mp (mpA (AV.int k) flow_step.av l)) ↔ True := gdO_mpA S _ _ l (by simp) (by simp)
@[simp] theorem flow_step.mpF (k : IntKind) (l : List (Int × flow_step)) : freshO (.mp (mpA (AV.int k) flow_step.av l)) = true := freshO_mpA _ _ l (by simp) (by simp)
@[simp] theorem flow_step.mpPR (σ : Nat → Nat) (k : IntKind) (l : List (Int × flow_step)) (i : Int) (f0 : Int) (f1 : Bool) : renO σ (.mp (mpPut (mpA (AV.int k) flow_step.av l) (AV.int k i) (AV.agg [AV.int .i64 f0, AV.bool f1]))) = .mp (mpPut (mpA (AV.int k) flow_step.av l) (AV.int k i) (AV.agg [AV.int .i64 f0, AV.bool f1])) := by
  have h := flow_step.mpR σ k (mput l i (flow_step.mk f0 f1))
  rw [mpA_put] at h; exact h
@[simp] theorem flow_step.mpPG (S : Nat → Prop) (k : IntKind) (l : List (Int × flow_step)) (i : Int) (f0 : Int) (f1 : Bool) : gdO S (.mp (mpPut (mpA (AV.int k) flow_step.av l) (AV.int k i) (AV.agg [AV.int .i64 f0, AV.bool f1]))) ↔ True := by
  have h := flow_step.mpG S k (mput l i (flow_step.mk f0 f1))
  rw [mpA_put] at h; exact h
@[simp] theorem flow_step.mpPF  (k : IntKind) (l : List (Int × flow_step)) (i : Int) (f0 : Int) (f1 : Bool) : freshO (.mp (mpPut (mpA (AV.int k) flow_step.av l) (AV.int k i) (AV.agg [AV.int .i64 f0, AV.bool f1]))) = true := by
  have h := flow_step.mpF k (mput l i (flow_step.mk f0 f1))
  rw [mpA_put] at h; exact h
@[simp] theorem flow_step.ids (S : Nat → Prop) (l : List flow_step) : idsInL S (l.map flow_step.av) ↔ True := iff_true_intro (ids_map_of (by simp) l)
def lists_In (k : Nat) (v0 : Int) (v1 : Int) (v2 : Int) : Option Bool :=
  if v1 ≤ v0 then
    some (decide (v0 ≤ v2))
  else
    some false
def flow_Check_1 (k : Nat) (v0 : Int) (v1 : Int) (v2 : Int) (v3 : Int) (v4 : (List api_Arc)) : Option Bool :=
  bnd1 (lists_In k v0 0 (IntKind.wrap .i64 (v3 - 1))) fun v6 =>
  if (!v6) = true then
    some true
  else
    bnd1 (lists_In k v1 0 (IntKind.wrap .i64 (v3 - 1))) fun v7 =>
    if (!v7) = true then
      some true
    else
      if v0 = v1 then
        some true
      else
        if v1 = 0 then
          some true
        else
          if v0 = 1 then
            some true
          else
            bnd1 (lists_In k v2 0 1048576) fun v8 =>
            some (!v8)
def slices_IndexFunc_api_Arc_api_Arc_Check_1.L1 (k : Nat) (v0 : (List api_Arc)) (v1 : Int) (v2 : (List api_Arc)) : Nat → Int → Option Int
  | 0, _ => none
  | n + 1, v4 =>
    if v4 < (v0.length : Int) then
      idx v0 v4 fun v5 =>
      bnd1 (flow_Check_1 k v5.From v5.To v5.Cap v1 v2) fun v6 =>
      if v6 = true then
        some v4
      else
        slices_IndexFunc_api_Arc_api_Arc_Check_1.L1 k v0 v1 v2 n (IntKind.wrap .i64 (v4 + 1))
    else
      some (-1)
def slices_IndexFunc_api_Arc_api_Arc_Check_1 (k : Nat) (v0 : (List api_Arc)) (v1 : Int) (v2 : (List api_Arc)) : Option Int :=
  slices_IndexFunc_api_Arc_api_Arc_Check_1.L1 k v0 v1 v2 k 0
def slices_ContainsFunc_api_Arc_api_Arc_Check_1 (k : Nat) (v0 : (List api_Arc)) (v1 : Int) (v2 : (List api_Arc)) : Option Bool :=
  bnd1 (slices_IndexFunc_api_Arc_api_Arc_Check_1 k v0 v1 v2) fun v4 =>
  some (decide (0 ≤ v4))
def flow_Check (k : Nat) (v0 : Int) (v1 : (List api_Arc)) : Option Int :=
  bnd1 (lists_In k v0 2 130) fun v3 =>
  if (!v3) = true then
    some 16
  else
    if 1200 < (v1.length : Int) then
      some 16
    else
      bnd1 (slices_ContainsFunc_api_Arc_api_Arc_Check_1 k v1 v0 v1) fun v4 =>
      if v4 = true then
        some 16
      else
        some 0
def slices_Clone_int_int (k : Nat) (v0 : (List Int)) : Option (List Int) :=
  chk (v0.length * 8 ≤ 140737488355328) <| some v0
def flow_open.S (v4 : (List (List flow_step))) (x : Int) (e : flow_step) (F : (List (List flow_step)) → Option (List (List flow_step))) : Option (List (List flow_step)) :=
  chk ((0 : Int) ≤ x ∧ x.toNat < v4.length) <|
  idx v4 x fun l =>
  chk ((l.length + ([e] : List flow_step).length) * 16 ≤ 140737488355328) <|
  F (v4.set x.toNat (l ++ [e]))
def flow_open.L1 (k : Nat) (v1 : (List api_Arc)) : Nat → Int → (List (List flow_step)) → Option (List (List flow_step))
  | 0, _, _ => none
  | n + 1, v3, v4 =>
    if v3 < (v1.length : Int) then
      idx v1 v3 fun v5 =>
      flow_open.S v4 v5.From ⟨v3, false⟩ fun v6 =>
      flow_open.S v6 v5.To ⟨v3, true⟩ fun v7 =>
      flow_open.L1 k v1 n (IntKind.wrap .i64 (v3 + 1)) v7
    else
      some v4
def flow_open (k : Nat) (v0 : Int) (v1 : (List api_Arc)) (v2 : (List Int)) : Option (List (List flow_step)) :=
  chk ((0 : Int) ≤ v0 ∧ 24 * v0 ≤ 281474976710656) <|
  flow_open.L1 k v1 k 0 (List.replicate v0.toNat ([] : List flow_step))
def flow_residual_room (k : Nat) (v0 : Int) (v1 : (List api_Arc)) (v2 : (List Int)) (v3 : (List (List flow_step))) (v4 : Int) (v5 : Bool) : Option (Int × Int) :=
  idx v1 v4 fun v8 =>
  if v5 = true then
    idx v2 v4 fun v9 =>
    some (v9, v8.From)
  else
    idx v2 v4 fun v10 =>
    some (IntKind.wrap .i64 (v8.Cap - v10), v8.To)
def flow_residual_search.J3 (k : Nat) (v11 : Int) (kb2 : Nat → Int → (List (Int × flow_step)) → (List Int) → Option (List (Int × flow_step))) (v14 : (List (Int × flow_step))) (v15 : (List Int)) (v16 : Nat) : Option (List (Int × flow_step)) :=
  kb2 v16 (IntKind.wrap .i64 (v11 + 1)) v14 v15
def flow_residual_search.J4 (k : Nat) (v10 : Nat) (v11 : Int) (v12 : (List (Int × flow_step))) (v13 : (List Int)) (v17 : flow_step) (v18 : Int) (v19 : Int) (kb2 : Nat → Int → (List (Int × flow_step)) → (List Int) → Option (List (Int × flow_step))) (v20 : Bool) : Option (List (Int × flow_step)) :=
  if 0 < v18 then
    if (!v20) = true then
      chk (((v13.drop v10).length + ([v19] : List Int).length) * 8 ≤ 140737488355328 ∧ v10 ≤ v13.length) <|
      flow_residual_search.J3 k v11 kb2 (mput v12 v19 v17) ((v13.drop v10) ++ ([v19] : List Int)) 0
    else
      flow_residual_search.J3 k v11 kb2 v12 v13 v10
  else
    flow_residual_search.J3 k v11 kb2 v12 v13 v10
def flow_residual_search.L2 (k : Nat) (v0 : Int) (v1 : (List api_Arc)) (v2 : (List Int)) (v3 : (List (List flow_step))) (v9 : (List flow_step)) (kb1 : Nat → (List (Int × flow_step)) → (List Int) → Option (List (Int × flow_step))) : Nat → Nat → Int → (List (Int × flow_step)) → (List Int) → Option (List (Int × flow_step))
  | 0, _, _, _, _ => none
  | n + 1, v10, v11, v12, v13 =>
    if v11 < (v9.length : Int) then
      idx v9 v11 fun v17 =>
      bnd2 (flow_residual_room k v0 v1 v2 v3 v17.arc v17.back) fun v18 v19 =>
      opt2 (mget v12 v19) (fun v21 =>
        flow_residual_search.J4 k v10 v11 v12 v13 v17 v18 v19 (fun v10_ v11_ v12_ v13_ => flow_residual_search.L2 k v0 v1 v2 v3 v9 kb1 n v10_ v11_ v12_ v13_) true
      ) <|
      flow_residual_search.J4 k v10 v11 v12 v13 v17 v18 v19 (fun v10_ v11_ v12_ v13_ => flow_residual_search.L2 k v0 v1 v2 v3 v9 kb1 n v10_ v11_ v12_ v13_) false
    else
      chk (0 < v13.length ∧ (1 : Int) ≤ (((v13.length - v10) : Nat) : Int)) <|
      kb1 (v10 + (1 : Int).toNat) v12 v13
def flow_residual_search.L1 (k : Nat) (v0 : Int) (v1 : (List api_Arc)) (v2 : (List Int)) (v3 : (List (List flow_step))) : Nat → Nat → (List (Int × flow_step)) → (List Int) → Option (List (Int × flow_step))
  | 0, _, _, _ => none
  | n + 1, v5, v6, v7 =>
    if 0 < (((v7.length - v5) : Nat) : Int) then
      chk ((0 : Int) ≤ 0 ∧ (0 : Int).toNat < (v7.length - v5) ∧ v5 + (0 : Int).toNat < v7.length) <|
      idx v7 ((v5 + (0 : Int).toNat : Nat) : Int) fun v8 =>
      idx v3 v8 fun v9 =>
      flow_residual_search.L2 k v0 v1 v2 v3 v9 (fun v5_ v6_ v7_ => flow_residual_search.L1 k v0 v1 v2 v3 n v5_ v6_ v7_) k v5 0 v6 v7
    else
      some v6
def flow_residual_search (k : Nat) (v0 : Int) (v1 : (List api_Arc)) (v2 : (List Int)) (v3 : (List (List flow_step))) : Option (List (Int × flow_step)) :=
  flow_residual_search.L1 k v0 v1 v2 v3 k 0 (mput ([] : (List (Int × flow_step))) 0 (flow_step.mk (-1) false)) ([0] : List Int)
def flow_residual_push.J3 (k : Nat) (v0 : Int) (v1 : (List api_Arc)) (v2 : (List Int)) (v3 : (List (List flow_step))) (v8 : Int) (v10 : (List flow_step)) (kb2 : Int → Int → (List flow_step) → Option (Bool × (List Int))) (v11 : Int) (v12 : Bool) : Option (Bool × (List Int)) :=
  bnd2 (flow_residual_room k v0 v1 v2 v3 v11 v12) fun v13 v14 =>
  chk ((v10.length + ([(flow_step.mk v11 v12)] : List flow_step).length) * 16 ≤ 140737488355328) <|
  let1 (if v13 < v8 then v13 else v8) fun v15 =>
  idx v1 v11 fun v16 =>
  if v12 = true then
    kb2 v15 v16.To (v10 ++ ([(flow_step.mk v11 v12)] : List flow_step))
  else
    kb2 v15 v16.From (v10 ++ ([(flow_step.mk v11 v12)] : List flow_step))
def flow_residual_push.J5 (k : Nat) (v18 : Int) (kb4 : Int → (List Int) → Option (Bool × (List Int))) (v20 : (List Int)) : Option (Bool × (List Int)) :=
  kb4 (IntKind.wrap .i64 (v18 + 1)) v20
def flow_residual_push.L4 (k : Nat) (v8 : Int) (v10 : (List flow_step)) : Nat → Int → (List Int) → Option (Bool × (List Int))
  | 0, _, _ => none
  | n + 1, v18, v19 =>
    if v18 < (v10.length : Int) then
      idx v10 v18 fun v21 =>
      if v21.back = true then
        chk ((0 : Int) ≤ v21.arc ∧ (v21.arc).toNat < v19.length) <|
        idx v19 v21.arc fun v22 =>
        chk ((0 : Int) ≤ v21.arc ∧ (v21.arc).toNat < v19.length) <|
        flow_residual_push.J5 k v18 (fun v18_ v19_ => flow_residual_push.L4 k v8 v10 n v18_ v19_) (v19.set (v21.arc).toNat (IntKind.wrap .i64 (v22 - v8)))
      else
        chk ((0 : Int) ≤ v21.arc ∧ (v21.arc).toNat < v19.length) <|
        idx v19 v21.arc fun v23 =>
        chk ((0 : Int) ≤ v21.arc ∧ (v21.arc).toNat < v19.length) <|
        flow_residual_push.J5 k v18 (fun v18_ v19_ => flow_residual_push.L4 k v8 v10 n v18_ v19_) (v19.set (v21.arc).toNat (IntKind.wrap .i64 (v23 + v8)))
    else
      some (true, v19)
def flow_residual_push.L2 (k : Nat) (v0 : Int) (v1 : (List api_Arc)) (v2 : (List Int)) (v3 : (List (List flow_step))) (v6 : (List (Int × flow_step))) : Nat → Int → Int → (List flow_step) → Option (Bool × (List Int))
  | 0, _, _, _ => none
  | n + 1, v8, v9, v10 =>
    if v9 ≠ 0 then
      opt2 (mget v6 v9) (fun v17 =>
        flow_residual_push.J3 k v0 v1 v2 v3 v8 v10 (fun v8_ v9_ v10_ => flow_residual_push.L2 k v0 v1 v2 v3 v6 n v8_ v9_ v10_) v17.arc v17.back
      ) <|
      flow_residual_push.J3 k v0 v1 v2 v3 v8 v10 (fun v8_ v9_ v10_ => flow_residual_push.L2 k v0 v1 v2 v3 v6 n v8_ v9_ v10_) 0 false
    else
      flow_residual_push.L4 k v8 v10 k 0 v2
def flow_residual_push.J1 (k : Nat) (v0 : Int) (v1 : (List api_Arc)) (v2 : (List Int)) (v3 : (List (List flow_step))) (v6 : (List (Int × flow_step))) (v7 : Bool) : Option (Bool × (List Int)) :=
  if (!v7) = true then
    some (false, v2)
  else
    flow_residual_push.L2 k v0 v1 v2 v3 v6 k 1048576 1 ([] : List flow_step)
def flow_residual_push (k : Nat) (v0 : Int) (v1 : (List api_Arc)) (v2 : (List Int)) (v3 : (List (List flow_step))) : Option (Bool × (List Int)) :=
  bnd1 (flow_residual_search k v0 v1 v2 v3) fun v6 =>
  opt2 (mget v6 1) (fun v24 =>
    flow_residual_push.J1 k v0 v1 v2 v3 v6 true
  ) <|
  flow_residual_push.J1 k v0 v1 v2 v3 v6 false
def flow_Grow.L1 (k : Nat) (v0 : Int) (v1 : (List api_Arc)) (v5 : (List (List flow_step))) : Nat → (List Int) → Option (List Int)
  | 0, _ => none
  | n + 1, v6 =>
    bnd2 (flow_residual_push k v0 v1 v6 v5) fun v7 v8 =>
    chk (v8.length = v6.length) <|
    if v7 = true then
      flow_Grow.L1 k v0 v1 v5 n v8
    else
      some v8
def flow_Grow (k : Nat) (v0 : Int) (v1 : (List api_Arc)) (v2 : (List Int)) : Option (List Int) :=
  bnd1 (slices_Clone_int_int k v2) fun v4 =>
  bnd1 (flow_open k v0 v1 v4) fun v5 =>
  flow_Grow.L1 k v0 v1 v5 k v4
def flow_Max (k : Nat) (v0 : Int) (v1 : (List api_Arc)) : Option ((List Int) × Int) :=
  bnd1 (flow_Check k v0 v1) fun v4 =>
  if v4 ≠ 0 then
    some (([] : List Int), v4)
  else
    chk ((0 : Int) ≤ (v1.length : Int) ∧ 16 * (v1.length : Int) ≤ 281474976710656) <|
    bnd1 (flow_Grow k v0 v1 (List.replicate ((v1.length : Int)).toNat (0 : Int))) fun v5 =>
    some (v5, 0)
def flow_surplus.L1 (k : Nat) (v1 : (List api_Arc)) (v2 : (List Int)) : Nat → Int → (List Int) → Option (List Int)
  | 0, _, _ => none
  | n + 1, v4, v5 =>
    if v4 < (v1.length : Int) then
      idx v1 v4 fun v6 =>
      chk ((0 : Int) ≤ v6.From ∧ (v6.From).toNat < v5.length) <|
      idx v5 v6.From fun v7 =>
      idx v2 v4 fun v8 =>
      chk ((0 : Int) ≤ v6.From ∧ (v6.From).toNat < v5.length) <|
      chk ((0 : Int) ≤ v6.To ∧ (v6.To).toNat < (v5.set (v6.From).toNat (IntKind.wrap .i64 (v7 + v8))).length) <|
      idx (v5.set (v6.From).toNat (IntKind.wrap .i64 (v7 + v8))) v6.To fun v9 =>
      chk ((0 : Int) ≤ v6.To ∧ (v6.To).toNat < (v5.set (v6.From).toNat (IntKind.wrap .i64 (v7 + v8))).length) <|
      flow_surplus.L1 k v1 v2 n (IntKind.wrap .i64 (v4 + 1)) ((v5.set (v6.From).toNat (IntKind.wrap .i64 (v7 + v8))).set (v6.To).toNat (IntKind.wrap .i64 (v9 - v8)))
    else
      some v5
def flow_surplus (k : Nat) (v0 : Int) (v1 : (List api_Arc)) (v2 : (List Int)) : Option (List Int) :=
  chk ((0 : Int) ≤ v0 ∧ 16 * v0 ≤ 281474976710656) <|
  flow_surplus.L1 k v1 v2 k 0 (List.replicate (v0).toNat (0 : Int))
def flow_Valid_1 (k : Nat) (v0 : Int) : Option Bool :=
  some (v0 != 0)
def slices_IndexFunc_int_int_Valid_1.L1 (k : Nat) (v0 : (List Int)) : Nat → Int → Option Int
  | 0, _ => none
  | n + 1, v2 =>
    if v2 < (v0.length : Int) then
      idx v0 v2 fun v3 =>
      bnd1 (flow_Valid_1 k v3) fun v4 =>
      if v4 = true then
        some v2
      else
        slices_IndexFunc_int_int_Valid_1.L1 k v0 n (IntKind.wrap .i64 (v2 + 1))
    else
      some (-1)
def slices_IndexFunc_int_int_Valid_1 (k : Nat) (v0 : (List Int)) : Option Int :=
  slices_IndexFunc_int_int_Valid_1.L1 k v0 k 0
def slices_ContainsFunc_int_int_Valid_1 (k : Nat) (v0 : (List Int)) : Option Bool :=
  bnd1 (slices_IndexFunc_int_int_Valid_1 k v0) fun v2 =>
  some (decide (0 ≤ v2))
def flow_Valid.L1 (k : Nat) (v0 : Int) (v1 : (List api_Arc)) (v2 : (List Int)) : Nat → Int → Option Bool
  | 0, _ => none
  | n + 1, v5 =>
    if v5 < (v1.length : Int) then
      idx v1 v5 fun v6 =>
      idx v2 v5 fun v7 =>
      bnd1 (lists_In k v7 0 v6.Cap) fun v8 =>
      if (!v8) = true then
        some false
      else
        flow_Valid.L1 k v0 v1 v2 n (IntKind.wrap .i64 (v5 + 1))
    else
      bnd1 (flow_surplus k v0 v1 v2) fun v9 =>
      chk ((2 : Int) ≤ ((v9.length : Nat) : Int)) <|
      bnd1 (slices_ContainsFunc_int_int_Valid_1 k (v9.drop ((2 : Int).toNat))) fun v10 =>
      some (!v10)
def flow_Valid (k : Nat) (v0 : Int) (v1 : (List api_Arc)) (v2 : (List Int)) : Option Bool :=
  bnd1 (flow_Check k v0 v1) fun v4 =>
  if v4 ≠ 0 then
    some false
  else
    if (v2.length : Int) ≠ (v1.length : Int) then
      some false
    else
      flow_Valid.L1 k v0 v1 v2 k 0
def flow_Value (k : Nat) (v0 : Int) (v1 : (List api_Arc)) (v2 : (List Int)) : Option Int :=
  bnd1 (flow_Valid k v0 v1 v2) fun v4 =>
  if (!v4) = true then
    some 0
  else
    bnd1 (flow_surplus k v0 v1 v2) fun v5 =>
    chk ((0 : Int) ≤ 0 ∧ (0 : Int).toNat < v5.length) <|
    idx v5 (0 : Int) fun v6 =>
    some v6
def flow_Paths_1 (k : Nat) (v0 : Int) (v1 : Int) (v2 : Int) (v3 : Int) : Option Bool :=
  some (v0 == v3)
def slices_IndexFunc_api_Arc_api_Arc_Paths_1.L1 (k : Nat) (v0 : (List api_Arc)) (v1 : Int) : Nat → Int → Option Int
  | 0, _ => none
  | n + 1, v3 =>
    if v3 < (v0.length : Int) then
      idx v0 v3 fun v4 =>
      bnd1 (flow_Paths_1 k v4.From v4.To v4.Cap v1) fun v5 =>
      if v5 = true then
        some v3
      else
        slices_IndexFunc_api_Arc_api_Arc_Paths_1.L1 k v0 v1 n (IntKind.wrap .i64 (v3 + 1))
    else
      some (-1)
def slices_IndexFunc_api_Arc_api_Arc_Paths_1 (k : Nat) (v0 : (List api_Arc)) (v1 : Int) : Option Int :=
  slices_IndexFunc_api_Arc_api_Arc_Paths_1.L1 k v0 v1 k 0
def slices_Clone_int_int_f (k : Nat) (v0 : (List Int)) : Option (List Int) :=
  chk (v0.length * 8 ≤ 140737488355328) <| some v0
def flow_Paths.J4 (k : Nat) (v12 : (List Int)) (v17 : Int) (v18 : Int) (v19 : api_Arc) (kb2 : (List Int) → (List Int) → (List (Int × Int)) → Int → Option ((List (List Int)) × Int)) (v20 : (List Int)) (v21 : (List (Int × Int))) : Option ((List (List Int)) × Int) :=
  kb2 (v12.set (v17).toNat (IntKind.wrap .i64 (v18 - 1))) v20 (mput v21 v19.To (v20.length : Int)) v19.To
def flow_Paths.L6 (k : Nat) (v1 : (List api_Arc)) (v12 : (List Int)) (v13 : (List Int)) (v17 : Int) (v18 : Int) (v19 : api_Arc) (v22 : Int) (kb2 : (List Int) → (List Int) → (List (Int × Int)) → Int → Option ((List (List Int)) × Int)) : Nat → Int → (List (Int × Int)) → Option ((List (List Int)) × Int)
  | 0, _, _ => none
  | n + 1, v24, v25 =>
    if v24 < ((((v13 ++ ([v17] : List Int)).length - ((v22).toNat)) : Nat) : Int) then
      chk ((0 : Int) ≤ v24 ∧ (v24).toNat < ((v13 ++ ([v17] : List Int)).length - ((v22).toNat)) ∧ (v22).toNat + (v24).toNat < (v13 ++ ([v17] : List Int)).length) <|
      idx (v13 ++ ([v17] : List Int)) (((v22).toNat + (v24).toNat : Nat) : Int) fun v26 =>
      idx v1 v26 fun v27 =>
      flow_Paths.L6 k v1 v12 v13 v17 v18 v19 v22 kb2 n (IntKind.wrap .i64 (v24 + 1)) (mdel v25 v27.To)
    else
      chk (0 < (v13 ++ ([v17] : List Int)).length ∧ (0 : Int) < v22 ∧ (0 : Int) ≤ v22 ∧ (v22 : Int) ≤ (((v13 ++ ([v17] : List Int)).length : Nat) : Int)) <|
      flow_Paths.J4 k v12 v17 v18 v19 kb2 ((v13 ++ ([v17] : List Int)).take ((v22).toNat)) v25
def flow_Paths.J5 (k : Nat) (v1 : (List api_Arc)) (v12 : (List Int)) (v13 : (List Int)) (v14 : (List (Int × Int))) (v17 : Int) (v18 : Int) (v19 : api_Arc) (kb2 : (List Int) → (List Int) → (List (Int × Int)) → Int → Option ((List (List Int)) × Int)) (v22 : Int) (v23 : Bool) : Option ((List (List Int)) × Int) :=
  if v23 = true then
    chk (0 < (v13 ++ ([v17] : List Int)).length ∧ (0 : Int) ≤ v22 ∧ (v22 : Int) ≤ (((v13 ++ ([v17] : List Int)).length : Nat) : Int)) <|
    flow_Paths.L6 k v1 v12 v13 v17 v18 v19 v22 kb2 k 0 v14
  else
    flow_Paths.J4 k v12 v17 v18 v19 kb2 (v13 ++ ([v17] : List Int)) v14
def flow_Paths.J3 (k : Nat) (v1 : (List api_Arc)) (v12 : (List Int)) (v13 : (List Int)) (v14 : (List (Int × Int))) (kb2 : (List Int) → (List Int) → (List (Int × Int)) → Int → Option ((List (List Int)) × Int)) (v17 : Int) : Option ((List (List Int)) × Int) :=
  chk ((0 : Int) ≤ v17 ∧ (v17).toNat < v12.length) <|
  idx v12 v17 fun v18 =>
  chk ((0 : Int) ≤ v17 ∧ (v17).toNat < v12.length) <|
  chk ((v13.length + ([v17] : List Int).length) * 8 ≤ 140737488355328) <|
  idx v1 v17 fun v19 =>
  opt2 (mget v14 v19.To) (fun v28 =>
    flow_Paths.J5 k v1 v12 v13 v14 v17 v18 v19 kb2 v28 true
  ) <|
  flow_Paths.J5 k v1 v12 v13 v14 v17 v18 v19 kb2 0 false
def flow_Paths.J8 (k : Nat) (v29 : Int) (kb7 : Int → Option ((List (List Int)) × Int)) : Option ((List (List Int)) × Int) :=
  kb7 (IntKind.wrap .i64 (v29 + 1))
def flow_Paths.L7 (k : Nat) (v1 : (List api_Arc)) (v12 : (List Int)) (v13 : (List Int)) (v14 : (List (Int × Int))) (v15 : Int) (kb2 : (List Int) → (List Int) → (List (Int × Int)) → Int → Option ((List (List Int)) × Int)) : Nat → Int → Option ((List (List Int)) × Int)
  | 0, _ => none
  | n + 1, v29 =>
    if v29 < (v1.length : Int) then
      idx v1 v29 fun v30 =>
      if v30.From ≠ v15 then
        flow_Paths.J8 k v29 (fun v29_ => flow_Paths.L7 k v1 v12 v13 v14 v15 kb2 n v29_)
      else
        chk ((0 : Int) ≤ v29 ∧ (v29).toNat < v12.length) <|
        idx v12 v29 fun v31 =>
        if v31 = 0 then
          flow_Paths.J8 k v29 (fun v29_ => flow_Paths.L7 k v1 v12 v13 v14 v15 kb2 n v29_)
        else
          flow_Paths.J3 k v1 v12 v13 v14 kb2 v29
    else
      flow_Paths.J3 k v1 v12 v13 v14 kb2 v29
def flow_Paths.L2 (k : Nat) (v1 : (List api_Arc)) (v9 : Int) (v11 : (List (List Int))) (kb1 : Int → (List Int) → (List (List Int)) → Option ((List (List Int)) × Int)) : Nat → (List Int) → (List Int) → (List (Int × Int)) → Int → Option ((List (List Int)) × Int)
  | 0, _, _, _, _ => none
  | n + 1, v12, v13, v14, v15 =>
    if v15 ≠ 1 then
      bnd1 (slices_IndexFunc_api_Arc_api_Arc_Paths_1 k v1 v15) fun v16 =>
      flow_Paths.L7 k v1 v12 v13 v14 v15 (fun v12_ v13_ v14_ v15_ => flow_Paths.L2 k v1 v9 v11 kb1 n v12_ v13_ v14_ v15_) k v16
    else
      bnd1 (slices_Clone_int_int_f k v13) fun v32 =>
      chk ((v11.length + ([v32] : List (List Int)).length) * 24 ≤ 140737488355328) <|
      kb1 (IntKind.wrap .i64 (v9 + 1)) v12 (v11 ++ ([v32] : List (List Int)))
def flow_Paths.L1 (k : Nat) (v1 : (List api_Arc)) (v8 : Int) : Nat → Int → (List Int) → (List (List Int)) → Option ((List (List Int)) × Int)
  | 0, _, _, _ => none
  | n + 1, v9, v10, v11 =>
    if v9 < v8 then
      flow_Paths.L2 k v1 v9 v11 (fun v9_ v10_ v11_ => flow_Paths.L1 k v1 v8 n v9_ v10_ v11_) k v10 ([] : List Int) (mput ([] : (List (Int × Int))) 0 0) 0
    else
      some (v11, 0)
def flow_Paths (k : Nat) (v0 : Int) (v1 : (List api_Arc)) (v2 : (List Int)) : Option ((List (List Int)) × Int) :=
  bnd1 (flow_Check k v0 v1) fun v5 =>
  if v5 ≠ 0 then
    some (([] : List (List Int)), v5)
  else
    bnd1 (flow_Valid k v0 v1 v2) fun v6 =>
    if (!v6) = true then
      some (([] : List (List Int)), 17)
    else
      bnd1 (slices_Clone_int_int k v2) fun v7 =>
      bnd1 (flow_Value k v0 v1 v2) fun v8 =>
      flow_Paths.L1 k v1 v8 k 0 v7 ([] : List (List Int))
def law15_awake (k : Nat) : Option Bool :=
  bnd2 (flow_Max k 3 ([(api_Arc.mk 0 2 3), (api_Arc.mk 2 1 2)] : List api_Arc)) fun v1 v2 =>
  bnd2 (flow_Paths k 3 ([(api_Arc.mk 0 2 3), (api_Arc.mk 2 1 2)] : List api_Arc) v1) fun v3 v4 =>
  if v2 = 0 then
    if v4 = 0 then
      if (v1.length : Int) = 2 then
        idx v1 0 fun v5 =>
        if v5 = 2 then
          idx v1 1 fun v6 =>
          if v6 = 2 then
            bnd1 (flow_Valid k 3 ([(api_Arc.mk 0 2 3), (api_Arc.mk 2 1 2)] : List api_Arc) v1) fun v7 =>
            if v7 = true then
              bnd1 (flow_Value k 3 ([(api_Arc.mk 0 2 3), (api_Arc.mk 2 1 2)] : List api_Arc) v1) fun v8 =>
              if v8 = 2 then
                if (v3.length : Int) = 2 then
                  bnd1 (flow_Valid k 3 ([(api_Arc.mk 0 2 3), (api_Arc.mk 2 1 2)] : List api_Arc) ([1, 2] : List Int)) fun v9 =>
                  some (!v9)
                else
                  some false
              else
                some false
            else
              some false
          else
            some false
        else
          some false
      else
        some false
    else
      some false
  else
    some false
def ref15_Check.L1 (k : Nat) (v0 : Int) (v1 : (List api_Arc)) : Nat → Int → Option Int
  | 0, _ => none
  | n + 1, v3 =>
    if v3 < (v1.length : Int) then
      idx v1 v3 fun v4 =>
      if v4.From < 0 then
        some 16
      else
        if v0 ≤ v4.From then
          some 16
        else
          if v4.To < 0 then
            some 16
          else
            if v0 ≤ v4.To then
              some 16
            else
              if v4.From = v4.To then
                some 16
              else
                if v4.To = 0 then
                  some 16
                else
                  if v4.From = 1 then
                    some 16
                  else
                    if v4.Cap < 0 then
                      some 16
                    else
                      if 1048576 < v4.Cap then
                        some 16
                      else
                        ref15_Check.L1 k v0 v1 n (IntKind.wrap .i64 (v3 + 1))
    else
      some 0
def ref15_Check (k : Nat) (v0 : Int) (v1 : (List api_Arc)) : Option Int :=
  if v0 < 2 then
    some 16
  else
    if 130 < v0 then
      some 16
    else
      if 1200 < (v1.length : Int) then
        some 16
      else
        ref15_Check.L1 k v0 v1 k 0
def ref15_Residual.J3 (k : Nat) (v12 : Int) (kb2 : Nat → Int → (List Int) → (List Bool) → (List Int) → Option (List Int)) (v16 : (List Int)) (v17 : (List Bool)) (v18 : (List Int)) (v19 : Nat) : Option (List Int) :=
  kb2 v19 (IntKind.wrap .i64 (v12 + 1)) v16 v17 v18
def ref15_Residual.J4 (k : Nat) (v2 : (List Int)) (v10 : Int) (v12 : Int) (v20 : api_Arc) (kb2 : Nat → Int → (List Int) → (List Bool) → (List Int) → Option (List Int)) (v21 : (List Int)) (v22 : (List Bool)) (v23 : (List Int)) (v24 : Nat) : Option (List Int) :=
  if v20.To = v10 then
    idx v2 v12 fun v25 =>
    if 0 < v25 then
      chk ((0 : Int) ≤ v20.From ∧ (v20.From).toNat < v22.length) <|
      idx v22 v20.From fun v26 =>
      if (!v26) = true then
        chk ((0 : Int) ≤ v20.From ∧ (v20.From).toNat < v22.length) <|
        chk ((0 : Int) ≤ v20.From ∧ (v20.From).toNat < v21.length) <|
        chk (((v23.drop v24).length + ([v20.From] : List Int).length) * 8 ≤ 140737488355328 ∧ v24 ≤ v23.length) <|
        ref15_Residual.J3 k v12 kb2 (v21.set (v20.From).toNat (IntKind.wrap .i64 (-(IntKind.wrap .i64 (v12 + 1))))) (v22.set (v20.From).toNat true) ((v23.drop v24) ++ ([v20.From] : List Int)) 0
      else
        ref15_Residual.J3 k v12 kb2 v21 v22 v23 v24
    else
      ref15_Residual.J3 k v12 kb2 v21 v22 v23 v24
  else
    ref15_Residual.J3 k v12 kb2 v21 v22 v23 v24
def ref15_Residual.L2 (k : Nat) (v1 : (List api_Arc)) (v2 : (List Int)) (v10 : Int) (kb1 : Nat → (List Int) → (List Bool) → (List Int) → Option (List Int)) : Nat → Nat → Int → (List Int) → (List Bool) → (List Int) → Option (List Int)
  | 0, _, _, _, _, _ => none
  | n + 1, v11, v12, v13, v14, v15 =>
    if v12 < (v1.length : Int) then
      idx v1 v12 fun v20 =>
      if v20.From = v10 then
        idx v2 v12 fun v27 =>
        if v27 < v20.Cap then
          chk ((0 : Int) ≤ v20.To ∧ (v20.To).toNat < v14.length) <|
          idx v14 v20.To fun v28 =>
          if (!v28) = true then
            chk ((0 : Int) ≤ v20.To ∧ (v20.To).toNat < v14.length) <|
            chk ((0 : Int) ≤ v20.To ∧ (v20.To).toNat < v13.length) <|
            chk (((v15.drop v11).length + ([v20.To] : List Int).length) * 8 ≤ 140737488355328 ∧ v11 ≤ v15.length) <|
            ref15_Residual.J4 k v2 v10 v12 v20 (fun v11_ v12_ v13_ v14_ v15_ => ref15_Residual.L2 k v1 v2 v10 kb1 n v11_ v12_ v13_ v14_ v15_) (v13.set (v20.To).toNat (IntKind.wrap .i64 (v12 + 1))) (v14.set (v20.To).toNat true) ((v15.drop v11) ++ ([v20.To] : List Int)) 0
          else
            ref15_Residual.J4 k v2 v10 v12 v20 (fun v11_ v12_ v13_ v14_ v15_ => ref15_Residual.L2 k v1 v2 v10 kb1 n v11_ v12_ v13_ v14_ v15_) v13 v14 v15 v11
        else
          ref15_Residual.J4 k v2 v10 v12 v20 (fun v11_ v12_ v13_ v14_ v15_ => ref15_Residual.L2 k v1 v2 v10 kb1 n v11_ v12_ v13_ v14_ v15_) v13 v14 v15 v11
      else
        ref15_Residual.J4 k v2 v10 v12 v20 (fun v11_ v12_ v13_ v14_ v15_ => ref15_Residual.L2 k v1 v2 v10 kb1 n v11_ v12_ v13_ v14_ v15_) v13 v14 v15 v11
    else
      kb1 v11 v13 v14 v15
def ref15_Residual.L1 (k : Nat) (v1 : (List api_Arc)) (v2 : (List Int)) : Nat → Nat → (List Int) → (List Bool) → (List Int) → Option (List Int)
  | 0, _, _, _, _ => none
  | n + 1, v6, v7, v8, v9 =>
    if 0 < (((v9.length - v6) : Nat) : Int) then
      chk ((0 : Int) ≤ 0 ∧ (0 : Int).toNat < (v9.length - v6) ∧ v6 + (0 : Int).toNat < v9.length) <|
      idx v9 ((v6 + (0 : Int).toNat : Nat) : Int) fun v10 =>
      chk (0 < v9.length ∧ (1 : Int) ≤ (((v9.length - v6) : Nat) : Int)) <|
      ref15_Residual.L2 k v1 v2 v10 (fun v6_ v7_ v8_ v9_ => ref15_Residual.L1 k v1 v2 n v6_ v7_ v8_ v9_) k (v6 + (1 : Int).toNat) 0 v7 v8 v9
    else
      some v7
def ref15_Residual (k : Nat) (v0 : Int) (v1 : (List api_Arc)) (v2 : (List Int)) : Option (List Int) :=
  chk ((0 : Int) ≤ v0 ∧ 16 * v0 ≤ 281474976710656) <|
  let1 (List.replicate (v0).toNat 0) fun v4 =>
  chk ((0 : Int) ≤ v0 ∧ 16 * v0 ≤ 281474976710656) <|
  let1 (List.replicate (v0).toNat false) fun v5 =>
  chk ((0 : Int) ≤ 0 ∧ (0 : Int).toNat < v5.length) <|
  ref15_Residual.L1 k v1 v2 k 0 v4 (v5.set (0 : Int).toNat true) ([0] : List Int)
def ref15_Max.L3 (k : Nat) (v1 : (List api_Arc)) (v6 : (List Int)) (v8 : Int) (kb1 : (List Int) → Option ((List Int) × Int)) : Nat → Int → (List Int) → Option ((List Int) × Int)
  | 0, _, _ => none
  | n + 1, v17, v18 =>
    if v17 ≠ 0 then
      idx v6 v17 fun v19 =>
      if 0 < v19 then
        chk ((0 : Int) ≤ (IntKind.wrap .i64 (v19 - 1)) ∧ (IntKind.wrap .i64 (v19 - 1)).toNat < v18.length) <|
        idx v18 (IntKind.wrap .i64 (v19 - 1)) fun v20 =>
        chk ((0 : Int) ≤ (IntKind.wrap .i64 (v19 - 1)) ∧ (IntKind.wrap .i64 (v19 - 1)).toNat < v18.length) <|
        idx v1 (IntKind.wrap .i64 (v19 - 1)) fun v21 =>
        ref15_Max.L3 k v1 v6 v8 kb1 n v21.From (v18.set (IntKind.wrap .i64 (v19 - 1)).toNat (IntKind.wrap .i64 (v20 + v8)))
      else
        chk ((0 : Int) ≤ (IntKind.wrap .i64 (IntKind.wrap .i64 (-v19) - 1)) ∧ (IntKind.wrap .i64 (IntKind.wrap .i64 (-v19) - 1)).toNat < v18.length) <|
        idx v18 (IntKind.wrap .i64 (IntKind.wrap .i64 (-v19) - 1)) fun v22 =>
        chk ((0 : Int) ≤ (IntKind.wrap .i64 (IntKind.wrap .i64 (-v19) - 1)) ∧ (IntKind.wrap .i64 (IntKind.wrap .i64 (-v19) - 1)).toNat < v18.length) <|
        idx v1 (IntKind.wrap .i64 (IntKind.wrap .i64 (-v19) - 1)) fun v23 =>
        ref15_Max.L3 k v1 v6 v8 kb1 n v23.To (v18.set (IntKind.wrap .i64 (IntKind.wrap .i64 (-v19) - 1)).toNat (IntKind.wrap .i64 (v22 - v8)))
    else
      kb1 v18
def ref15_Max.L2 (k : Nat) (v1 : (List api_Arc)) (v5 : (List Int)) (v6 : (List Int)) (kb1 : (List Int) → Option ((List Int) × Int)) : Nat → Int → Int → Option ((List Int) × Int)
  | 0, _, _ => none
  | n + 1, v8, v9 =>
    if v9 ≠ 0 then
      idx v6 v9 fun v10 =>
      if 0 < v10 then
        idx v1 (IntKind.wrap .i64 (v10 - 1)) fun v11 =>
        chk ((0 : Int) ≤ (IntKind.wrap .i64 (v10 - 1)) ∧ (IntKind.wrap .i64 (v10 - 1)).toNat < v5.length) <|
        idx v5 (IntKind.wrap .i64 (v10 - 1)) fun v12 =>
        let1 (if (IntKind.wrap .i64 (v11.Cap - v12)) < v8 then IntKind.wrap .i64 (v11.Cap - v12) else v8) fun v13 =>
        ref15_Max.L2 k v1 v5 v6 kb1 n v13 v11.From
      else
        chk ((0 : Int) ≤ (IntKind.wrap .i64 (IntKind.wrap .i64 (-v10) - 1)) ∧ (IntKind.wrap .i64 (IntKind.wrap .i64 (-v10) - 1)).toNat < v5.length) <|
        idx v5 (IntKind.wrap .i64 (IntKind.wrap .i64 (-v10) - 1)) fun v14 =>
        let1 (if v14 < v8 then v14 else v8) fun v15 =>
        idx v1 (IntKind.wrap .i64 (IntKind.wrap .i64 (-v10) - 1)) fun v16 =>
        ref15_Max.L2 k v1 v5 v6 kb1 n v15 v16.To
    else
      ref15_Max.L3 k v1 v6 v8 kb1 k 1 v5
def ref15_Max.L1 (k : Nat) (v0 : Int) (v1 : (List api_Arc)) : Nat → (List Int) → Option ((List Int) × Int)
  | 0, _ => none
  | n + 1, v5 =>
    bnd1 (ref15_Residual k v0 v1 v5) fun v6 =>
    idx v6 1 fun v7 =>
    if v7 = 0 then
      some (v5, 0)
    else
      ref15_Max.L2 k v1 v5 v6 (fun v5_ => ref15_Max.L1 k v0 v1 n v5_) k 1048576 1
def ref15_Max (k : Nat) (v0 : Int) (v1 : (List api_Arc)) : Option ((List Int) × Int) :=
  bnd1 (ref15_Check k v0 v1) fun v4 =>
  if v4 ≠ 0 then
    some (([] : List Int), 16)
  else
    chk ((0 : Int) ≤ (v1.length : Int) ∧ 16 * (v1.length : Int) ≤ 281474976710656) <|
    ref15_Max.L1 k v0 v1 k (List.replicate ((v1.length : Int)).toNat (0 : Int))
def ref15_Valid.L2 (k : Nat) (v0 : Int) (v6 : (List Int)) : Nat → Int → Option Bool
  | 0, _ => none
  | n + 1, v11 =>
    if v11 < v0 then
      idx v6 v11 fun v12 =>
      if v12 ≠ 0 then
        some false
      else
        ref15_Valid.L2 k v0 v6 n (IntKind.wrap .i64 (v11 + 1))
    else
      some true
def ref15_Valid.L1 (k : Nat) (v0 : Int) (v1 : (List api_Arc)) (v2 : (List Int)) : Nat → Int → (List Int) → Option Bool
  | 0, _, _ => none
  | n + 1, v5, v6 =>
    if v5 < (v2.length : Int) then
      idx v2 v5 fun v7 =>
      if v7 < 0 then
        some false
      else
        idx v1 v5 fun v8 =>
        if v8.Cap < v7 then
          some false
        else
          chk ((0 : Int) ≤ v8.From ∧ (v8.From).toNat < v6.length) <|
          idx v6 v8.From fun v9 =>
          chk ((0 : Int) ≤ v8.From ∧ (v8.From).toNat < v6.length) <|
          chk ((0 : Int) ≤ v8.To ∧ (v8.To).toNat < (v6.set (v8.From).toNat (IntKind.wrap .i64 (v9 - v7))).length) <|
          idx (v6.set (v8.From).toNat (IntKind.wrap .i64 (v9 - v7))) v8.To fun v10 =>
          chk ((0 : Int) ≤ v8.To ∧ (v8.To).toNat < (v6.set (v8.From).toNat (IntKind.wrap .i64 (v9 - v7))).length) <|
          ref15_Valid.L1 k v0 v1 v2 n (IntKind.wrap .i64 (v5 + 1)) ((v6.set (v8.From).toNat (IntKind.wrap .i64 (v9 - v7))).set (v8.To).toNat (IntKind.wrap .i64 (v10 + v7)))
    else
      ref15_Valid.L2 k v0 v6 k 2
def ref15_Valid (k : Nat) (v0 : Int) (v1 : (List api_Arc)) (v2 : (List Int)) : Option Bool :=
  bnd1 (ref15_Check k v0 v1) fun v4 =>
  if v4 ≠ 0 then
    some false
  else
    if (v2.length : Int) ≠ (v1.length : Int) then
      some false
    else
      chk ((0 : Int) ≤ v0 ∧ 16 * v0 ≤ 281474976710656) <|
      ref15_Valid.L1 k v0 v1 v2 k 0 (List.replicate (v0).toNat (0 : Int))
def ref15_Value.J2 (k : Nat) (v6 : Int) (kb1 : Int → Int → Option Int) (v7 : Int) : Option Int :=
  kb1 v7 (IntKind.wrap .i64 (v6 + 1))
def ref15_Value.L1 (k : Nat) (v1 : (List api_Arc)) (v2 : (List Int)) : Nat → Int → Int → Option Int
  | 0, _, _ => none
  | n + 1, v5, v6 =>
    if v6 < (v2.length : Int) then
      idx v1 v6 fun v8 =>
      if v8.From = 0 then
        idx v2 v6 fun v9 =>
        ref15_Value.J2 k v6 (fun v5_ v6_ => ref15_Value.L1 k v1 v2 n v5_ v6_) (IntKind.wrap .i64 (v5 + v9))
      else
        ref15_Value.J2 k v6 (fun v5_ v6_ => ref15_Value.L1 k v1 v2 n v5_ v6_) v5
    else
      some v5
def ref15_Value (k : Nat) (v0 : Int) (v1 : (List api_Arc)) (v2 : (List Int)) : Option Int :=
  bnd1 (ref15_Valid k v0 v1 v2) fun v4 =>
  if (!v4) = true then
    some 0
  else
    ref15_Value.L1 k v1 v2 k 0 0
def law15_agree (k : Nat) (v0 : Int) (v1 : (List api_Arc)) (v2 : (List Int)) : Option Bool :=
  bnd2 (flow_Max k v0 v1) fun v4 v5 =>
  bnd2 (ref15_Max k v0 v1) fun v6 v7 =>
  if v5 ≠ v7 then
    some false
  else
    bnd1 (flow_Check k v0 v1) fun v8 =>
    bnd1 (ref15_Check k v0 v1) fun v9 =>
    if v8 ≠ v9 then
      some false
    else
      bnd1 (flow_Valid k v0 v1 v2) fun v10 =>
      bnd1 (ref15_Valid k v0 v1 v2) fun v11 =>
      if (v10 != v11) = true then
        some false
      else
        bnd1 (flow_Value k v0 v1 v2) fun v12 =>
        bnd1 (ref15_Value k v0 v1 v2) fun v13 =>
        if v12 ≠ v13 then
          some false
        else
          if v5 ≠ 0 then
            some ((v4.length : Int) == 0)
          else
            bnd1 (ref15_Valid k v0 v1 v4) fun v14 =>
            if v14 = true then
              bnd1 (ref15_Value k v0 v1 v4) fun v15 =>
              bnd1 (ref15_Value k v0 v1 v6) fun v16 =>
              some (v15 == v16)
            else
              some false
def ref15_PathsOK.L3 (k : Nat) (v2 : (List Int)) (v9 : Int) (v10 : (List Int)) (v11 : (List Int)) (v13 : Int) (v14 : api_Arc) (kb2 : Int → Int → (List Int) → (List Int) → Option Bool) : Nat → Int → Option Bool
  | 0, _ => none
  | n + 1, v15 =>
    if v15 < (v11.length : Int) then
      chk ((0 : Int) ≤ v15 ∧ (v15).toNat < v11.length) <|
      idx v11 v15 fun v16 =>
      if v16 = v14.To then
        some false
      else
        ref15_PathsOK.L3 k v2 v9 v10 v11 v13 v14 kb2 n (IntKind.wrap .i64 (v15 + 1))
    else
      chk ((v11.length + ([v14.To] : List Int).length) * 8 ≤ 140737488355328) <|
      chk ((0 : Int) ≤ v13 ∧ (v13).toNat < v10.length) <|
      idx v10 v13 fun v17 =>
      chk ((0 : Int) ≤ v13 ∧ (v13).toNat < v10.length) <|
      chk ((0 : Int) ≤ v13 ∧ (v13).toNat < (v10.set (v13).toNat (IntKind.wrap .i64 (v17 + 1))).length) <|
      idx (v10.set (v13).toNat (IntKind.wrap .i64 (v17 + 1))) v13 fun v18 =>
      idx v2 v13 fun v19 =>
      if v19 < v18 then
        some false
      else
        kb2 v14.To (IntKind.wrap .i64 (v9 + 1)) (v10.set (v13).toNat (IntKind.wrap .i64 (v17 + 1))) (v11 ++ ([v14.To] : List Int))
def ref15_PathsOK.L2 (k : Nat) (v1 : (List api_Arc)) (v2 : (List Int)) (v3 : (List (List Int))) (v6 : Int) (kb1 : Int → (List Int) → Option Bool) : Nat → Int → Int → (List Int) → (List Int) → Option Bool
  | 0, _, _, _, _ => none
  | n + 1, v8, v9, v10, v11 =>
    idx v3 v6 fun v12 =>
    if v9 < (v12.length : Int) then
      idx v12 v9 fun v13 =>
      if v13 < 0 then
        some false
      else
        if (v1.length : Int) ≤ v13 then
          some false
        else
          idx v1 v13 fun v14 =>
          if v14.From ≠ v8 then
            some false
          else
            ref15_PathsOK.L3 k v2 v9 v10 v11 v13 v14 (fun v8_ v9_ v10_ v11_ => ref15_PathsOK.L2 k v1 v2 v3 v6 kb1 n v8_ v9_ v10_ v11_) k 0
    else
      if v8 ≠ 1 then
        some false
      else
        kb1 (IntKind.wrap .i64 (v6 + 1)) v10
def ref15_PathsOK.L1 (k : Nat) (v1 : (List api_Arc)) (v2 : (List Int)) (v3 : (List (List Int))) : Nat → Int → (List Int) → Option Bool
  | 0, _, _ => none
  | n + 1, v6, v7 =>
    if v6 < (v3.length : Int) then
      ref15_PathsOK.L2 k v1 v2 v3 v6 (fun v6_ v7_ => ref15_PathsOK.L1 k v1 v2 v3 n v6_ v7_) k 0 0 v7 ([0] : List Int)
    else
      some true
def ref15_PathsOK (k : Nat) (v0 : Int) (v1 : (List api_Arc)) (v2 : (List Int)) (v3 : (List (List Int))) : Option Bool :=
  chk ((0 : Int) ≤ (v1.length : Int) ∧ 16 * (v1.length : Int) ≤ 281474976710656) <|
  bnd1 (ref15_Value k v0 v1 v2) fun v5 =>
  if (v3.length : Int) ≠ v5 then
    some false
  else
    ref15_PathsOK.L1 k v1 v2 v3 k 0 (List.replicate ((v1.length : Int)).toNat (0 : Int))
def law15_parts (k : Nat) (v0 : Int) (v1 : (List api_Arc)) (v2 : (List Int)) : Option Bool :=
  bnd2 (flow_Paths k v0 v1 v2) fun v4 v5 =>
  bnd1 (ref15_Check k v0 v1) fun v6 =>
  if v6 ≠ 0 then
    if v5 = 16 then
      some ((v4.length : Int) == 0)
    else
      some false
  else
    bnd1 (ref15_Valid k v0 v1 v2) fun v7 =>
    if (!v7) = true then
      if v5 = 17 then
        some ((v4.length : Int) == 0)
      else
        some false
    else
      if v5 = 0 then
        bnd1 (ref15_PathsOK k v0 v1 v2 v4) fun v8 =>
        some v8
      else
        some false
def law15_FlowRaw.J1 (k : Nat) (v0 : Int) (v1 : (List api_Arc)) (v2 : (List Int)) : Option Bool :=
  bnd1 (law15_awake k) fun v6 =>
  if v6 = true then
    bnd1 (law15_agree k v0 v1 v2) fun v7 =>
    if v7 = true then
      bnd1 (law15_parts k v0 v1 v2) fun v8 =>
      some v8
    else
      some false
  else
    some false
def law15_FlowRaw.L2 (k : Nat) (v0 : Int) (v1 : (List api_Arc)) (v2 : (List Int)) : Nat → Int → Option Bool
  | 0, _ => none
  | n + 1, v10 =>
    if v10 < (v2.length : Int) then
      if v10 < (v1.length : Int) then
        idx v2 v10 fun v11 =>
        if 200 < v11 then
          bnd1 (law15_awake k) fun v12 =>
          some v12
        else
          law15_FlowRaw.L2 k v0 v1 v2 n (IntKind.wrap .i64 (v10 + 1))
      else
        law15_FlowRaw.J1 k v0 v1 v2
    else
      law15_FlowRaw.J1 k v0 v1 v2
def law15_FlowRaw (k : Nat) (v0 : Int) (v1 : (List api_Arc)) (v2 : (List Int)) : Option Bool :=
  if 40 < (v1.length : Int) then
    bnd1 (law15_awake k) fun v4 =>
    some v4
  else
    if 60 < (v2.length : Int) then
      bnd1 (law15_awake k) fun v5 =>
      some v5
    else
      bnd1 (ref15_Check k v0 v1) fun v9 =>
      if v9 = 0 then
        law15_FlowRaw.L2 k v0 v1 v2 k 0
      else
        law15_FlowRaw.J1 k v0 v1 v2
end Go.TF
