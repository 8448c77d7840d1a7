/- The Go functions as Lean functions (printed by a program of our own). -/
import Derived.Test.YtepdfenlkeaefaaKAbsX
set_option linter.unusedVariables false
set_option maxRecDepth 100000
namespace Go.TF
open Go Go.Abs
abbrev Iz (n : Int) : AV := .int .i64 n
abbrev Lz (l : List Int) : AV := .lst false false (l.map (.int .i64))
abbrev Lb (l : List Int) : AV := .lst false false (l.map (.int .u8))
abbrev Lw (l : List Int) : AV := .lst false false (l.map (.int .u32))
structure api_Pin where
  Author : Int
  Height : Int
  Digest : ByteArray
@[simp] def api_Pin.av (x : api_Pin) : AV := AV.agg [AV.int .i64 x.Author, AV.int .i64 x.Height, AV.str x.Digest]
@[simp] theorem api_Pin.okEls (l : List api_Pin) : okEls 3 (l.map api_Pin.av) ↔ True := iff_true_intro (okEls_iff.2 fun x hx => by
  simp only [List.mem_map] at hx
  obtain ⟨b, _, rfl⟩ := hx
  simp)
@[simp] theorem api_Pin.gdF (S : Nat → Prop) (l : List api_Pin) : gdL S (flatA (l.map api_Pin.av)) ↔ True := iff_true_intro (gdL_flat (by simp) l)
@[simp] theorem api_Pin.frF (l : List api_Pin) : freshL (flatA (l.map api_Pin.av)) = true := freshL_flat (by simp) l
@[simp] theorem api_Pin.renF (σ : Nat → Nat) (l : List api_Pin) : renL σ (flatA (l.map api_Pin.av)) = flatA (l.map api_Pin.av) := renL_flat (by simp) l
@[simp] theorem api_Pin.lenF (l : List api_Pin) : (flatA (l.map api_Pin.av)).length = l.length * 3 := flat_len (F := api_Pin.av) (fun _ => rfl) l
@[simp↓] theorem api_Pin.oneF (l : List api_Pin) : (flatA (l.map api_Pin.av)).all AV.one = true := one_flat (by simp) l
@[simp] theorem api_Pin.ids (S : Nat → Prop) (l : List api_Pin) : idsInL S (l.map api_Pin.av) ↔ True := iff_true_intro (ids_map_of (by simp) l)
structure api_Statement where
  Author : Int
  Number : Int
  Prev : ByteArray
  Time : Int
  Kind : Int
  A : Int
  B : Int
  C : Int
  Lst : (List Int)
  Pins : (List api_Pin)
  Body : ByteArray
  Seal_Key : Int
  Seal_Digest : ByteArray
@[simp] def api_Statement.av (x : api_Statement) : AV := AV.agg [AV.int .i64 x.Author, AV.int .i64 x.Number, AV.str x.Prev, AV.int .i64 x.Time, AV.int .i64 x.Kind, AV.int .i64 x.A, AV.int .i64 x.B, AV.int .i64 x.C, sl (AV.int .i64) x.Lst, sl api_Pin.av x.Pins, AV.str x.Body, AV.int .i64 x.Seal_Key, AV.str x.Seal_Digest]
@[simp] theorem api_Statement.okEls (l : List api_Statement) : okEls 13 (l.map api_Statement.av) ↔ True := iff_true_intro (okEls_iff.2 fun x hx => by
  simp only [List.mem_map] at hx
  obtain ⟨b, _, rfl⟩ := hx
  simp)
@[simp] theorem api_Statement.gdF (S : Nat → Prop) (l : List api_Statement) : gdL S (flatA (l.map api_Statement.av)) ↔ True := iff_true_intro (gdL_flat (by simp) l)
@[simp] theorem api_Statement.renF (σ : Nat → Nat) (l : List api_Statement) : renL σ (flatA (l.map api_Statement.av)) = flatA (l.map api_Statement.av) := renL_flat (by simp) l
@[simp] theorem api_Statement.lenF (l : List api_Statement) : (flatA (l.map api_Statement.av)).length = l.length * 13 := flat_len (F := api_Statement.av) (fun _ => rfl) l
@[simp↓] theorem api_Statement.oneF (l : List api_Statement) : (flatA (l.map api_Statement.av)).all AV.one = true := one_flat (by simp) l
@[simp] theorem api_Statement.ids (S : Nat → Prop) (l : List api_Statement) : idsInL S (l.map api_Statement.av) ↔ True := iff_true_intro (ids_map_of (by simp) l)
structure api_Guard where
  Owner : Int
  Need : Int
  Guardians : (List Int)
@[simp] def api_Guard.av (x : api_Guard) : AV := AV.agg [AV.int .i64 x.Owner, AV.int .i64 x.Need, sl (AV.int .i64) x.Guardians]
@[simp] theorem api_Guard.okEls (l : List api_Guard) : okEls 3 (l.map api_Guard.av) ↔ True := iff_true_intro (okEls_iff.2 fun x hx => by
  simp only [List.mem_map] at hx
  obtain ⟨b, _, rfl⟩ := hx
  simp)
@[simp] theorem api_Guard.gdF (S : Nat → Prop) (l : List api_Guard) : gdL S (flatA (l.map api_Guard.av)) ↔ True := iff_true_intro (gdL_flat (by simp) l)
@[simp] theorem api_Guard.renF (σ : Nat → Nat) (l : List api_Guard) : renL σ (flatA (l.map api_Guard.av)) = flatA (l.map api_Guard.av) := renL_flat (by simp) l
@[simp] theorem api_Guard.lenF (l : List api_Guard) : (flatA (l.map api_Guard.av)).length = l.length * 3 := flat_len (F := api_Guard.av) (fun _ => rfl) l
@[simp↓] theorem api_Guard.oneF (l : List api_Guard) : (flatA (l.map api_Guard.av)).all AV.one = true := one_flat (by simp) l
@[simp] theorem api_Guard.mpR (σ : Nat → Nat) (k : IntKind) (l : List (Int × api_Guard)) : renO σ (.mp (mpA (AV.int k) api_Guard.av l)) = .mp (mpA (AV.int k) api_Guard.av l) := renO_mpA σ _ _ l (by simp) (by simp)
@[simp] theorem api_Guard.mpG (S : Nat → Prop) (k : IntKind) (l : List (Int × api_Guard)) : gdO S (.mp (mpA (AV.int k) api_Guard.av l)) ↔ True := gdO_mpA S _ _ l (by simp) (by simp)
@[simp] theorem api_Guard.mpPR (σ : Nat → Nat) (k : IntKind) (l : List (Int × api_Guard)) (i : Int) (f0 : Int) (f1 : Int) (f2 : (List Int)) : renO σ (.mp (mpPut (mpA (AV.int k) api_Guard.av l) (AV.int k i) (AV.agg [AV.int .i64 f0, AV.int .i64 f1, sl (AV.int .i64) f2]))) = .mp (mpPut (mpA (AV.int k) api_Guard.av l) (AV.int k i) (AV.agg [AV.int .i64 f0, AV.int .i64 f1, sl (AV.int .i64) f2])) := by
  have h := api_Guard.mpR σ k (mput l i (api_Guard.mk f0 f1 f2))
  rw [mpA_put] at h; exact h
@[simp] theorem api_Guard.mpPG (S : Nat → Prop) (k : IntKind) (l : List (Int × api_Guard)) (i : Int) (f0 : Int) (f1 : Int) (f2 : (List Int)) : gdO S (.mp (mpPut (mpA (AV.int k) api_Guard.av l) (AV.int k i) (AV.agg [AV.int .i64 f0, AV.int .i64 f1, sl (AV.int .i64) f2]))) ↔ True := by
  have h := api_Guard.mpG S k (mput l i (api_Guard.mk f0 f1 f2))
  rw [mpA_put] at h; exact h
@[simp] theorem api_Guard.ids (S : Nat → Prop) (l : List api_Guard) : idsInL S (l.map api_Guard.av) ↔ True := iff_true_intro (ids_map_of (by simp) l)
def mill_Light (k : Nat) (v0 : (List Int)) : Option Bool :=
  some (decide ((v0.length : Int) ≤ 400))
def guardian_key (k : Nat) (v0 : Int) : Option Bool :=
  if 0 ≤ v0 then
    some (decide (v0 < 64))
  else
    some false
def guardian_Valid.J2 (k : Nat) (v4 : Int) (kb1 : Int → Option Bool) : Option Bool :=
  kb1 (IntKind.wrap .i64 (v4 + 1))
def guardian_Valid.L1 (k : Nat) (v0 : Int) (v1 : Int) (v2 : (List Int)) : Nat → Int → Option Bool
  | 0, _ => none
  | n + 1, v4 =>
    if v4 < (v2.length : Int) then
      idx v2 v4 fun v5 =>
      bnd1 (guardian_key k v5) fun v6 =>
      if (!v6) = true then
        some false
      else
        if v5 = v0 then
          some false
        else
          if 0 < v4 then
            idx v2 (IntKind.wrap .i64 (v4 - 1)) fun v7 =>
            if v5 ≤ v7 then
              some false
            else
              guardian_Valid.J2 k v4 (fun v4_ => guardian_Valid.L1 k v0 v1 v2 n v4_)
          else
            guardian_Valid.J2 k v4 (fun v4_ => guardian_Valid.L1 k v0 v1 v2 n v4_)
    else
      bnd1 (guardian_key k v0) fun v8 =>
      if v8 = true then
        if 1 ≤ (v2.length : Int) then
          if (v2.length : Int) ≤ 12 then
            if 1 ≤ v1 then
              some (decide (v1 ≤ (v2.length : Int)))
            else
              some false
          else
            some false
        else
          some false
      else
        some false
def guardian_Valid (k : Nat) (v0 : Int) (v1 : Int) (v2 : (List Int)) : Option Bool :=
  guardian_Valid.L1 k v0 v1 v2 k 0
def guardian_Enough.J2 (k : Nat) (v7 : Int) (kb1 : Int → Int → Option Bool) (v8 : Int) : Option Bool :=
  kb1 v8 (IntKind.wrap .i64 (v7 + 1))
def guardian_Enough.L3 (k : Nat) (v3 : (List Int)) (v6 : Int) (v7 : Int) (v9 : Int) (kb1 : Int → Int → Option Bool) : Nat → Int → Option Bool
  | 0, _ => none
  | n + 1, v10 =>
    if v10 < (v3.length : Int) then
      idx v3 v10 fun v11 =>
      if v11 = v9 then
        guardian_Enough.J2 k v7 kb1 (IntKind.wrap .i64 (v6 + 1))
      else
        guardian_Enough.L3 k v3 v6 v7 v9 kb1 n (IntKind.wrap .i64 (v10 + 1))
    else
      guardian_Enough.J2 k v7 kb1 v6
def guardian_Enough.L1 (k : Nat) (v1 : Int) (v2 : (List Int)) (v3 : (List Int)) : Nat → Int → Int → Option Bool
  | 0, _, _ => none
  | n + 1, v6, v7 =>
    if v7 < (v2.length : Int) then
      idx v2 v7 fun v9 =>
      guardian_Enough.L3 k v3 v6 v7 v9 (fun v6_ v7_ => guardian_Enough.L1 k v1 v2 v3 n v6_ v7_) k 0
    else
      some (decide (v1 ≤ v6))
def guardian_Enough (k : Nat) (v0 : Int) (v1 : Int) (v2 : (List Int)) (v3 : (List Int)) : Option Bool :=
  bnd1 (guardian_Valid k v0 v1 v2) fun v5 =>
  if (!v5) = true then
    some false
  else
    guardian_Enough.L1 k v1 v2 v3 k 0 0
def law34_awake (k : Nat) : Option Bool :=
  bnd1 (guardian_Valid k 1 2 ([3, 4, 5] : List Int)) fun v1 =>
  if v1 = true then
    bnd1 (guardian_Enough k 1 2 ([3, 4, 5] : List Int) ([3, 9] : List Int)) fun v2 =>
    if (!v2) = true then
      bnd1 (guardian_Enough k 1 2 ([3, 4, 5] : List Int) ([3, 5] : List Int)) fun v3 =>
      some v3
    else
      some false
  else
    some false
def made_Roll (k : Nat) (v0 : (List Int)) : Option ((List Int) × Int) :=
  some (v0, 0)
def mill_Roll (k : Nat) (v0 : (List Int)) : Option ((List Int) × Int) :=
  bnd2 (made_Roll k v0) fun v3 v4 =>
  some (v3, v4)
def made_Mod.J1 (k : Nat) (v3 : Int) : Option Int :=
  some v3
def made_Mod (k : Nat) (v0 : Int) (v1 : Int) : Option Int :=
  if v1 < 1 then
    some 0
  else
    chk (v1 ≠ (0 : Int)) <|
    if Int.tmod v0 v1 < 0 then
      made_Mod.J1 k (IntKind.wrap .i64 (Int.tmod v0 v1 + v1))
    else
      made_Mod.J1 k (Int.tmod v0 v1)
def made_Dice_Next (k : Nat) (v0 : (List Int)) (v1 : Int) (v2 : Int) : Option (Int × Int) :=
  if (v0.length : Int) ≤ v1 then
    some (0, v1)
  else
    idx v0 (IntKind.wrap .i64 (IntKind.wrap .i64 (v1 + 1) - 1)) fun v5 =>
    bnd1 (made_Mod k v5 v2) fun v6 =>
    some (v6, IntKind.wrap .i64 (v1 + 1))
def made_Dice_Some.J2 (k : Nat) (v5 : Int) (kb1 : Int → Int → (List Int) → Option ((List Int) × Int)) (v8 : Int) (v9 : (List Int)) : Option ((List Int) × Int) :=
  kb1 (IntKind.wrap .i64 (v5 + 1)) v8 v9
def made_Dice_Some.L1 (k : Nat) (v0 : (List Int)) (v2 : Int) : Nat → Int → Int → (List Int) → Option ((List Int) × Int)
  | 0, _, _, _ => none
  | n + 1, v5, v6, v7 =>
    if v5 < v2 then
      bnd2 (made_Dice_Next k v0 v6 3) fun v10 v11 =>
      if v10 = 0 then
        chk ((v7.length + ([v5] : List Int).length) * 8 ≤ 140737488355328) <|
        made_Dice_Some.J2 k v5 (fun v5_ v6_ v7_ => made_Dice_Some.L1 k v0 v2 n v5_ v6_ v7_) v11 (v7 ++ ([v5] : List Int))
      else
        made_Dice_Some.J2 k v5 (fun v5_ v6_ v7_ => made_Dice_Some.L1 k v0 v2 n v5_ v6_ v7_) v11 v7
    else
      some (v7, v6)
def made_Dice_Some (k : Nat) (v0 : (List Int)) (v1 : Int) (v2 : Int) : Option ((List Int) × Int) :=
  made_Dice_Some.L1 k v0 v2 k 0 v1 ([] : List Int)
def mill_Keys.J1 (k : Nat) (v7 : (List Int)) (v8 : Int) : Option ((List Int) × Int) :=
  some (v7, v8)
def mill_Keys (k : Nat) (v0 : (List Int)) (v1 : Int) (v2 : Int) : Option ((List Int) × Int) :=
  bnd2 (made_Dice_Some k v0 v1 v2) fun v5 v6 =>
  if (v5.length : Int) = 0 then
    bnd2 (made_Dice_Next k v0 v6 v2) fun v9 v10 =>
    mill_Keys.J1 k ([v9] : List Int) v10
  else
    mill_Keys.J1 k v5 v6
def mill_Keys_o.J1 (k : Nat) (v7 : (List Int)) (v8 : Int) : Option ((List Int) × Int) :=
  some (v7, v8)
def mill_Keys_o (k : Nat) (v0 : (List Int)) (v1 : Int) (v2 : Int) : Option ((List Int) × Int) :=
  bnd2 (made_Dice_Some k v0 v1 v2) fun v5 v6 =>
  if (v5.length : Int) = 0 then
    bnd2 (made_Dice_Next k v0 v6 v2) fun v9 v10 =>
    mill_Keys_o.J1 k ([v9] : List Int) v10
  else
    mill_Keys_o.J1 k v5 v6
def ref24_Has.L1 (k : Nat) (v0 : (List Int)) (v1 : Int) : Nat → Int → Option Bool
  | 0, _ => none
  | n + 1, v3 =>
    if v3 < (v0.length : Int) then
      idx v0 v3 fun v4 =>
      if v4 = v1 then
        some true
      else
        ref24_Has.L1 k v0 v1 n (IntKind.wrap .i64 (v3 + 1))
    else
      some false
def ref24_Has (k : Nat) (v0 : (List Int)) (v1 : Int) : Option Bool :=
  ref24_Has.L1 k v0 v1 k 0
def ref24_Minus.J2 (k : Nat) (v3 : Int) (kb1 : Int → (List Int) → Option (List Int)) (v5 : (List Int)) : Option (List Int) :=
  kb1 (IntKind.wrap .i64 (v3 + 1)) v5
def ref24_Minus.L1 (k : Nat) (v0 : (List Int)) (v1 : (List Int)) : Nat → Int → (List Int) → Option (List Int)
  | 0, _, _ => none
  | n + 1, v3, v4 =>
    if v3 < 64 then
      bnd1 (ref24_Has k v0 v3) fun v6 =>
      if v6 = true then
        bnd1 (ref24_Has k v1 v3) fun v7 =>
        if (!v7) = true then
          chk ((v4.length + ([v3] : List Int).length) * 8 ≤ 140737488355328) <|
          ref24_Minus.J2 k v3 (fun v3_ v4_ => ref24_Minus.L1 k v0 v1 n v3_ v4_) (v4 ++ ([v3] : List Int))
        else
          ref24_Minus.J2 k v3 (fun v3_ v4_ => ref24_Minus.L1 k v0 v1 n v3_ v4_) v4
      else
        ref24_Minus.J2 k v3 (fun v3_ v4_ => ref24_Minus.L1 k v0 v1 n v3_ v4_) v4
    else
      some v4
def ref24_Minus (k : Nat) (v0 : (List Int)) (v1 : (List Int)) : Option (List Int) :=
  ref24_Minus.L1 k v0 v1 k 0 ([] : List Int)
def made_Dice_Of (k : Nat) (v0 : (List Int)) (v1 : Int) (v2 : (List Int)) : Option (Int × Int) :=
  bnd2 (made_Dice_Next k v0 v1 (v2.length : Int)) fun v5 v6 =>
  idx v2 v5 fun v7 =>
  some (v7, v6)
def law34_guard.J1 (k : Nat) (v14 : Int) (v15 : Int) (v16 : (List Int)) (v17 : Int) : Option (Int × Int × (List Int) × Int) :=
  some (v14, v15, v16, v17)
def law34_guard (k : Nat) (v0 : (List Int)) (v1 : Int) : Option (Int × Int × (List Int) × Int) :=
  bnd2 (made_Dice_Next k v0 v1 6) fun v6 v7 =>
  bnd2 (mill_Keys_o k v0 v7 7) fun v8 v9 =>
  bnd1 (ref24_Minus k v8 ([v6] : List Int)) fun v10 =>
  let1 (if 1 < (v10.length : Int) then (v10.length : Int) else 1) fun v11 =>
  bnd2 (made_Dice_Next k v0 v9 v11) fun v12 v13 =>
  bnd2 (made_Dice_Next k v0 v13 12) fun v18 v19 =>
  if v18 = 0 then
    bnd2 (made_Dice_Of k v0 v19 ([0, 9, -1] : List Int)) fun v20 v21 =>
    law34_guard.J1 k v6 v20 v10 v21
  else
    if v18 = 1 then
      chk ((v10.length + ([v6] : List Int).length) * 8 ≤ 140737488355328) <|
      law34_guard.J1 k v6 (IntKind.wrap .i64 (1 + v12)) (v10 ++ ([v6] : List Int)) v19
    else
      if v18 = 2 then
        bnd2 (made_Dice_Of k v0 v19 ([-1, 64, 63] : List Int)) fun v22 v23 =>
        law34_guard.J1 k v22 (IntKind.wrap .i64 (1 + v12)) v10 v23
      else
        if v18 = 3 then
          law34_guard.J1 k v6 (IntKind.wrap .i64 (1 + v12)) ([5, 2] : List Int) v19
        else
          if v18 = 4 then
            bnd2 (made_Dice_Next k v0 v19 2) fun v24 v25 =>
            chk ((0 : Int) ≤ IntKind.wrap .i64 (12 + v24) ∧ (IntKind.wrap .i64 (12 + v24) : Int) ≤ (([0, 1, 2, 3, 4, 5, 6, 7, 8, 9, 10, 11, 12] : List Int).length : Int)) <|
            law34_guard.J1 k v6 (IntKind.wrap .i64 (1 + v12)) (([0, 1, 2, 3, 4, 5, 6, 7, 8, 9, 10, 11, 12] : List Int).take (IntKind.wrap .i64 (12 + v24)).toNat) v25
          else
            law34_guard.J1 k v6 (IntKind.wrap .i64 (1 + v12)) v10 v19
def mill_Mod (k : Nat) (v0 : Int) (v1 : Int) : Option Int :=
  bnd1 (made_Mod k v0 v1) fun v3 =>
  some v3
def ref03_Copy (k : Nat) (v0 : Int) (v1 : Int) (v2 : ByteArray) (v3 : Int) (v4 : Int) (v5 : Int) (v6 : Int) (v7 : Int) (v8 : (List Int)) (v9 : (List api_Pin)) (v10 : ByteArray) (v11 : Int) (v12 : ByteArray) : Option api_Statement :=
  chk (v8.length * 8 ≤ 140737488355328) <|
  chk (v9.length * 32 ≤ 140737488355328) <|
  some (api_Statement.mk v0 v1 v2 v3 v4 v5 v6 v7 v8 v9 v10 v11 v12)
def ref02_Int.L1 (k : Nat) (v1 : Int) : Nat → Int → (List Int) → Option (List Int)
  | 0, _, _ => none
  | n + 1, v3, v4 =>
    if 0 ≤ v3 then
      chk ((0 : Int) ≤ IntKind.wrap .u64 (IntKind.wrap .i64 (8 * v3))) <|
      chk ((v4.length + ([IntKind.wrap .u8 (Int.fdiv v1 (2 ^ (min ((IntKind.wrap .u64 (IntKind.wrap .i64 (8 * v3))).toNat) 64)))] : List Int).length) * 1 ≤ 140737488355328) <|
      ref02_Int.L1 k v1 n (IntKind.wrap .i64 (v3 - 1)) (v4 ++ ([IntKind.wrap .u8 (Int.fdiv v1 (2 ^ (min ((IntKind.wrap .u64 (IntKind.wrap .i64 (8 * v3))).toNat) 64)))] : List Int))
    else
      some v4
def ref02_Int (k : Nat) (v0 : (List Int)) (v1 : Int) : Option (List Int) :=
  chk (v0.length * 1 ≤ 140737488355328) <|
  ref02_Int.L1 k v1 k 7 v0
def ref02_Text (k : Nat) (v0 : (List Int)) (v1 : ByteArray) : Option (List Int) :=
  bnd1 (ref02_Int k v0 (v1.size : Int)) fun v3 =>
  chk ((v3.length + (bI v1).length) * 1 ≤ 140737488355328) <|
  some (v3 ++ (bI v1))
def ref02_Ints.L1 (k : Nat) (v1 : (List Int)) : Nat → Int → (List Int) → Option (List Int)
  | 0, _, _ => none
  | n + 1, v4, v5 =>
    if v4 < (v1.length : Int) then
      idx v1 v4 fun v6 =>
      bnd1 (ref02_Int k v5 v6) fun v7 =>
      ref02_Ints.L1 k v1 n (IntKind.wrap .i64 (v4 + 1)) v7
    else
      some v5
def ref02_Ints (k : Nat) (v0 : (List Int)) (v1 : (List Int)) : Option (List Int) :=
  bnd1 (ref02_Int k v0 (v1.length : Int)) fun v3 =>
  ref02_Ints.L1 k v1 k 0 v3
def ref03_Bytes.L2 (k : Nat) (v9 : (List api_Pin)) (v10 : ByteArray) : Nat → (List Int) → Int → Option (List Int)
  | 0, _, _ => none
  | n + 1, v23, v24 =>
    if v24 < (v9.length : Int) then
      idx v9 v24 fun v25 =>
      bnd1 (ref02_Int k v23 v25.Author) fun v26 =>
      bnd1 (ref02_Int k v26 v25.Height) fun v27 =>
      bnd1 (ref02_Text k v27 v25.Digest) fun v28 =>
      ref03_Bytes.L2 k v9 v10 n v28 (IntKind.wrap .i64 (v24 + 1))
    else
      bnd1 (ref02_Text k v23 v10) fun v29 =>
      some v29
def ref03_Bytes.L1 (k : Nat) (v3 : Int) (v4 : Int) (v5 : Int) (v6 : Int) (v7 : Int) (v8 : (List Int)) (v9 : (List api_Pin)) (v10 : ByteArray) : Nat → (List Int) → Int → Option (List Int)
  | 0, _, _ => none
  | n + 1, v17, v18 =>
    if v18 < (([v3, v4, v5, v6, v7] : List Int).length : Int) then
      idx ([v3, v4, v5, v6, v7] : List Int) v18 fun v19 =>
      bnd1 (ref02_Int k v17 v19) fun v20 =>
      ref03_Bytes.L1 k v3 v4 v5 v6 v7 v8 v9 v10 n v20 (IntKind.wrap .i64 (v18 + 1))
    else
      bnd1 (ref02_Ints k v17 v8) fun v21 =>
      bnd1 (ref02_Int k v21 (v9.length : Int)) fun v22 =>
      ref03_Bytes.L2 k v9 v10 k v22 0
def ref03_Bytes (k : Nat) (v0 : Int) (v1 : Int) (v2 : ByteArray) (v3 : Int) (v4 : Int) (v5 : Int) (v6 : Int) (v7 : Int) (v8 : (List Int)) (v9 : (List api_Pin)) (v10 : ByteArray) (v11 : Int) (v12 : ByteArray) : Option (List Int) :=
  bnd1 (ref02_Int k ([] : List Int) v0) fun v14 =>
  bnd1 (ref02_Int k v14 v1) fun v15 =>
  bnd1 (ref02_Text k v15 v2) fun v16 =>
  ref03_Bytes.L1 k v3 v4 v5 v6 v7 v8 v9 v10 k v16 0
def ref01_constants (k : Nat) : Option (List Int) :=
  some ([1116352408, 1899447441, 3049323471, 3921009573, 961987163, 1508970993, 2453635748, 2870763221, 3624381080, 310598401, 607225278, 1426881987, 1925078388, 2162078206, 2614888103, 3248222580, 3835390401, 4022224774, 264347078, 604807628, 770255983, 1249150122, 1555081692, 1996064986, 2554220882, 2821834349, 2952996808, 3210313671, 3336571891, 3584528711, 113926993, 338241895, 666307205, 773529912, 1294757372, 1396182291, 1695183700, 1986661051, 2177026350, 2456956037, 2730485921, 2820302411, 3259730800, 3345764771, 3516065817, 3600352804, 4094571909, 275423344, 430227734, 506948616, 659060556, 883997877, 958139571, 1322822218, 1537002063, 1747873779, 1955562222, 2024104815, 2227730452, 2361852424, 2428436474, 2756734187, 3204031479, 3329325298] : List Int)
def ref01_turn (k : Nat) (v0 : Int) (v1 : Int) : Option Int :=
  chk ((0 : Int) ≤ v1) <|
  chk ((0 : Int) ≤ IntKind.wrap .u64 (32 - v1)) <|
  some (bitsV .or .u32 (Int.fdiv v0 (2 ^ (min v1.toNat 32))) (IntKind.wrap .u32 (v0 * 2 ^ (min ((IntKind.wrap .u64 (32 - v1)).toNat) 32))))
def ref01_block.L4 (k : Nat) (v0 : (List Int)) : Nat → Int → (List Int) → Option (List Int)
  | 0, _, _ => none
  | n + 1, v39, v40 =>
    if v39 < 8 then
      chk ((0 : Int) ≤ v39 ∧ (v39).toNat < v40.length) <|
      idx v40 v39 fun v41 =>
      idx v0 v39 fun v42 =>
      chk ((0 : Int) ≤ v39 ∧ (v39).toNat < v40.length) <|
      ref01_block.L4 k v0 n (IntKind.wrap .i64 (v39 + 1)) (v40.set (v39).toNat (IntKind.wrap .u32 (v41 + v42)))
    else
      some v40
def ref01_block.L3 (k : Nat) (v0 : (List Int)) (v2 : (List Int)) (v12 : (List Int)) : Nat → Int → (List Int) → Option (List Int)
  | 0, _, _ => none
  | n + 1, v21, v22 =>
    if v21 < 64 then
      idx v22 4 fun v23 =>
      bnd1 (ref01_turn k v23 6) fun v24 =>
      bnd1 (ref01_turn k v23 11) fun v25 =>
      bnd1 (ref01_turn k v23 25) fun v26 =>
      idx v22 5 fun v27 =>
      idx v22 6 fun v28 =>
      idx v22 7 fun v29 =>
      idx v2 v21 fun v30 =>
      idx v12 v21 fun v31 =>
      idx v22 0 fun v32 =>
      bnd1 (ref01_turn k v32 2) fun v33 =>
      bnd1 (ref01_turn k v32 13) fun v34 =>
      bnd1 (ref01_turn k v32 22) fun v35 =>
      idx v22 1 fun v36 =>
      idx v22 2 fun v37 =>
      idx v22 3 fun v38 =>
      ref01_block.L3 k v0 v2 v12 n (IntKind.wrap .i64 (v21 + 1)) ([IntKind.wrap .u32 (IntKind.wrap .u32 (IntKind.wrap .u32 (IntKind.wrap .u32 (IntKind.wrap .u32 (IntKind.wrap .u32 (v29 + bitsV .xor .u32 (bitsV .xor .u32 v24 v25) v26) + bitsV .xor .u32 (bitsV .and .u32 v23 v27) (bitsV .and .u32 (bitsV .xor .u32 (IntKind.max .u32) v23) v28)) + v30) + v31) + bitsV .xor .u32 (bitsV .xor .u32 v33 v34) v35) + bitsV .xor .u32 (bitsV .xor .u32 (bitsV .and .u32 v32 v36) (bitsV .and .u32 v32 v37)) (bitsV .and .u32 v36 v37)), v32, v36, v37, IntKind.wrap .u32 (v38 + IntKind.wrap .u32 (IntKind.wrap .u32 (IntKind.wrap .u32 (IntKind.wrap .u32 (v29 + bitsV .xor .u32 (bitsV .xor .u32 v24 v25) v26) + bitsV .xor .u32 (bitsV .and .u32 v23 v27) (bitsV .and .u32 (bitsV .xor .u32 (IntKind.max .u32) v23) v28)) + v30) + v31)), v23, v27, v28] : List Int)
    else
      ref01_block.L4 k v0 k 0 v22
def ref01_block.L2 (k : Nat) (v0 : (List Int)) (v2 : (List Int)) : Nat → Int → (List Int) → Option (List Int)
  | 0, _, _ => none
  | n + 1, v11, v12 =>
    if v11 < 64 then
      chk ((0 : Int) ≤ (IntKind.wrap .i64 (v11 - 15)) ∧ (IntKind.wrap .i64 (v11 - 15)).toNat < v12.length) <|
      idx v12 (IntKind.wrap .i64 (v11 - 15)) fun v13 =>
      bnd1 (ref01_turn k v13 7) fun v14 =>
      chk ((0 : Int) ≤ (IntKind.wrap .i64 (v11 - 15)) ∧ (IntKind.wrap .i64 (v11 - 15)).toNat < v12.length) <|
      bnd1 (ref01_turn k v13 18) fun v15 =>
      chk ((0 : Int) ≤ (IntKind.wrap .i64 (v11 - 15)) ∧ (IntKind.wrap .i64 (v11 - 15)).toNat < v12.length) <|
      chk ((0 : Int) ≤ (IntKind.wrap .i64 (v11 - 2)) ∧ (IntKind.wrap .i64 (v11 - 2)).toNat < v12.length) <|
      idx v12 (IntKind.wrap .i64 (v11 - 2)) fun v16 =>
      bnd1 (ref01_turn k v16 17) fun v17 =>
      chk ((0 : Int) ≤ (IntKind.wrap .i64 (v11 - 2)) ∧ (IntKind.wrap .i64 (v11 - 2)).toNat < v12.length) <|
      bnd1 (ref01_turn k v16 19) fun v18 =>
      chk ((0 : Int) ≤ (IntKind.wrap .i64 (v11 - 2)) ∧ (IntKind.wrap .i64 (v11 - 2)).toNat < v12.length) <|
      chk ((0 : Int) ≤ (IntKind.wrap .i64 (v11 - 16)) ∧ (IntKind.wrap .i64 (v11 - 16)).toNat < v12.length) <|
      idx v12 (IntKind.wrap .i64 (v11 - 16)) fun v19 =>
      chk ((0 : Int) ≤ (IntKind.wrap .i64 (v11 - 7)) ∧ (IntKind.wrap .i64 (v11 - 7)).toNat < v12.length) <|
      idx v12 (IntKind.wrap .i64 (v11 - 7)) fun v20 =>
      chk ((0 : Int) ≤ v11 ∧ (v11).toNat < v12.length) <|
      ref01_block.L2 k v0 v2 n (IntKind.wrap .i64 (v11 + 1)) (v12.set (v11).toNat (IntKind.wrap .u32 (IntKind.wrap .u32 (IntKind.wrap .u32 (v19 + bitsV .xor .u32 (bitsV .xor .u32 v14 v15) (Int.fdiv v13 (2 ^ (3)))) + v20) + bitsV .xor .u32 (bitsV .xor .u32 v17 v18) (Int.fdiv v16 (2 ^ (10))))))
    else
      chk (v0.length * 4 ≤ 140737488355328) <|
      ref01_block.L3 k v0 v2 v12 k 0 v0
def ref01_block.L1 (k : Nat) (v0 : (List Int)) (v1 : (List Int)) (v2 : (List Int)) : Nat → Int → (List Int) → Option (List Int)
  | 0, _, _ => none
  | n + 1, v5, v6 =>
    if v5 < 16 then
      idx v1 (IntKind.wrap .i64 (4 * v5)) fun v7 =>
      idx v1 (IntKind.wrap .i64 (IntKind.wrap .i64 (4 * v5) + 1)) fun v8 =>
      idx v1 (IntKind.wrap .i64 (IntKind.wrap .i64 (4 * v5) + 2)) fun v9 =>
      idx v1 (IntKind.wrap .i64 (IntKind.wrap .i64 (4 * v5) + 3)) fun v10 =>
      chk ((0 : Int) ≤ v5 ∧ (v5).toNat < v6.length) <|
      ref01_block.L1 k v0 v1 v2 n (IntKind.wrap .i64 (v5 + 1)) (v6.set (v5).toNat (bitsV .or .u32 (bitsV .or .u32 (bitsV .or .u32 (IntKind.wrap .u32 ((IntKind.wrap .u32 v7) * 2 ^ (24))) (IntKind.wrap .u32 ((IntKind.wrap .u32 v8) * 2 ^ (16)))) (IntKind.wrap .u32 ((IntKind.wrap .u32 v9) * 2 ^ (8)))) (IntKind.wrap .u32 v10)))
    else
      ref01_block.L2 k v0 v2 k 16 v6
def ref01_block (k : Nat) (v0 : (List Int)) (v1 : (List Int)) (v2 : (List Int)) : Option (List Int) :=
  chk ((0 : Int) ≤ 64 ∧ 16 * 64 ≤ 281474976710656) <|
  let1 (List.replicate 64 0) fun v4 =>
  ref01_block.L1 k v0 v1 v2 k 0 v4
def ref01_Sum.L4 (k : Nat) (v6 : (List Int)) : Nat → Int → (List Int) → Option ByteArray
  | 0, _, _ => none
  | n + 1, v9, v10 =>
    if v9 < 8 then
      idx v6 v9 fun v11 =>
      chk ((v10.length + ([IntKind.wrap .u8 (Int.fdiv v11 (2 ^ (24))), IntKind.wrap .u8 (Int.fdiv v11 (2 ^ (16))), IntKind.wrap .u8 (Int.fdiv v11 (2 ^ (8))), IntKind.wrap .u8 v11] : List Int).length) * 1 ≤ 140737488355328) <|
      ref01_Sum.L4 k v6 n (IntKind.wrap .i64 (v9 + 1)) (v10 ++ ([IntKind.wrap .u8 (Int.fdiv v11 (2 ^ (24))), IntKind.wrap .u8 (Int.fdiv v11 (2 ^ (16))), IntKind.wrap .u8 (Int.fdiv v11 (2 ^ (8))), IntKind.wrap .u8 v11] : List Int))
    else
      some (ofI v10)
def ref01_Sum.L3 (k : Nat) (v4 : (List Int)) (v5 : (List Int)) : Nat → (List Int) → Int → Option ByteArray
  | 0, _, _ => none
  | n + 1, v6, v7 =>
    if v7 < (v4.length : Int) then
      chk ((0 : Int) ≤ v7 ∧ (v7 : Int) ≤ IntKind.wrap .i64 (v7 + 64) ∧ (IntKind.wrap .i64 (v7 + 64) : Int) ≤ (v4.length : Int)) <|
      bnd1 (ref01_block k v6 ((v4.take (IntKind.wrap .i64 (v7 + 64)).toNat).drop (v7).toNat) v5) fun v8 =>
      ref01_Sum.L3 k v4 v5 n v8 (IntKind.wrap .i64 (v7 + 64))
    else
      ref01_Sum.L4 k v6 k 0 ([] : List Int)
def ref01_Sum.L2 (k : Nat) (v0 : (List Int)) : Nat → Int → (List Int) → Option ByteArray
  | 0, _, _ => none
  | n + 1, v3, v4 =>
    if 0 ≤ v3 then
      chk ((0 : Int) ≤ IntKind.wrap .u64 (IntKind.wrap .i64 (8 * v3))) <|
      chk ((v4.length + ([IntKind.wrap .u8 (Int.fdiv (IntKind.wrap .u64 (IntKind.wrap .u64 (v0.length : Int) * 8)) (2 ^ (min ((IntKind.wrap .u64 (IntKind.wrap .i64 (8 * v3))).toNat) 64)))] : List Int).length) * 1 ≤ 140737488355328) <|
      ref01_Sum.L2 k v0 n (IntKind.wrap .i64 (v3 - 1)) (v4 ++ ([IntKind.wrap .u8 (Int.fdiv (IntKind.wrap .u64 (IntKind.wrap .u64 (v0.length : Int) * 8)) (2 ^ (min ((IntKind.wrap .u64 (IntKind.wrap .i64 (8 * v3))).toNat) 64)))] : List Int))
    else
      bnd1 (ref01_constants k) fun v5 =>
      ref01_Sum.L3 k v4 v5 k ([1779033703, 3144134277, 1013904242, 2773480762, 1359893119, 2600822924, 528734635, 1541459225] : List Int) 0
def ref01_Sum.L1 (k : Nat) (v0 : (List Int)) : Nat → (List Int) → Option ByteArray
  | 0, _ => none
  | n + 1, v2 =>
    if (Int.tmod (v2.length : Int) 64) ≠ 56 then
      chk ((v2.length + ([0] : List Int).length) * 1 ≤ 140737488355328) <|
      ref01_Sum.L1 k v0 n (v2 ++ ([0] : List Int))
    else
      ref01_Sum.L2 k v0 k 7 v2
def ref01_Sum (k : Nat) (v0 : (List Int)) : Option ByteArray :=
  chk (v0.length * 1 ≤ 140737488355328) <|
  chk ((v0.length + ([128] : List Int).length) * 1 ≤ 140737488355328) <|
  ref01_Sum.L1 k v0 k (v0 ++ ([128] : List Int))
def ref03_Digest (k : Nat) (v0 : Int) (v1 : Int) (v2 : ByteArray) (v3 : Int) (v4 : Int) (v5 : Int) (v6 : Int) (v7 : Int) (v8 : (List Int)) (v9 : (List api_Pin)) (v10 : ByteArray) (v11 : Int) (v12 : ByteArray) : Option ByteArray :=
  bnd1 (ref03_Bytes k v0 v1 v2 v3 v4 v5 v6 v7 v8 v9 v10 v11 v12) fun v14 =>
  bnd1 (ref01_Sum k v14) fun v15 =>
  some v15
def ref03_Seal (k : Nat) (v0 : Int) (v1 : Int) (v2 : ByteArray) (v3 : Int) (v4 : Int) (v5 : Int) (v6 : Int) (v7 : Int) (v8 : (List Int)) (v9 : (List api_Pin)) (v10 : ByteArray) (v11 : Int) (v12 : ByteArray) : Option api_Statement :=
  bnd1 (ref03_Copy k v0 v1 v2 v3 v4 v5 v6 v7 v8 v9 v10 v11 v12) fun v14 =>
  bnd1 (ref03_Digest k v14.Author v14.Number v14.Prev v14.Time v14.Kind v14.A v14.B v14.C v14.Lst v14.Pins v14.Body v14.Seal_Key v14.Seal_Digest) fun v15 =>
  some (api_Statement.mk v14.Author v14.Number v14.Prev v14.Time v14.Kind v14.A v14.B v14.C v14.Lst v14.Pins v14.Body v14.Author v15)
def mill_Statement.J1 (k : Nat) (v0 : Int) (v1 : Int) (v2 : Int) (v3 : Int) (v4 : Int) (v5 : Int) (v6 : Int) (v7 : (List Int)) (v8 : (List api_Pin)) (v10 : ByteArray) : Option api_Statement :=
  bnd1 (ref03_Seal k v0 v1 v10 v2 v3 v4 v5 v6 v7 v8 (ByteArray.mk #[]) 0 (ByteArray.mk #[])) fun v11 =>
  some v11
def mill_Statement (k : Nat) (v0 : Int) (v1 : Int) (v2 : Int) (v3 : Int) (v4 : Int) (v5 : Int) (v6 : Int) (v7 : (List Int)) (v8 : (List api_Pin)) : Option api_Statement :=
  chk (v7.length * 8 ≤ 140737488355328) <|
  chk (v8.length * 32 ≤ 140737488355328) <|
  if 0 < v1 then
    chk ((0 : Int) ≤ 32 ∧ 16 * 32 ≤ 281474976710656) <|
    mill_Statement.J1 k v0 v1 v2 v3 v4 v5 v6 v7 v8 (ofI (List.replicate (32 : Int).toNat 0))
  else
    mill_Statement.J1 k v0 v1 v2 v3 v4 v5 v6 v7 v8 (ByteArray.mk #[])
def lists_In (k : Nat) (v0 : Int) (v1 : Int) (v2 : Int) : Option Bool :=
  if v1 ≤ v0 then
    some (decide (v0 ≤ v2))
  else
    some false
def statement_value (k : Nat) (v0 : Int) : Option Bool :=
  bnd1 (lists_In k v0 0 1099511627776) fun v2 =>
  some v2
def statement_meant (k : Nat) (v0 : Int) (v1 : Int) (v2 : ByteArray) (v3 : Int) (v4 : Int) (v5 : Int) (v6 : Int) (v7 : Int) (v8 : (List Int)) (v9 : (List api_Pin)) (v10 : ByteArray) (v11 : Int) (v12 : ByteArray) : Option Bool :=
  if v4 = 1 then
    bnd1 (lists_In k v5 0 63) fun v14 =>
    if v14 = true then
      if v5 ≠ v0 then
        bnd1 (lists_In k v6 1 3) fun v15 =>
        if v15 = true then
          bnd1 (lists_In k v7 v3 2147483648) fun v16 =>
          some v16
        else
          some false
      else
        some false
    else
      some false
  else
    if v4 = 2 then
      bnd1 (lists_In k v5 0 199) fun v17 =>
      if v17 = true then
        if v6 = 0 then
          some (v7 == 0)
        else
          some false
      else
        some false
    else
      if v4 = 3 then
        if v5 = 0 then
          if v6 = 0 then
            some (v7 == 0)
          else
            some false
        else
          some false
      else
        some true
def statement_Check_1 (k : Nat) (v0 : Int) : Option Bool :=
  bnd1 (statement_value k v0) fun v2 =>
  some (!v2)
def slices_IndexFunc_int_int_Check_1.L1 (k : Nat) (v0 : (List Int)) : Nat → Int → Option Int
  | 0, _ => none
  | n + 1, v2 =>
    if v2 < (v0.length : Int) then
      idx v0 v2 fun v3 =>
      bnd1 (statement_Check_1 k v3) fun v4 =>
      if v4 = true then
        some v2
      else
        slices_IndexFunc_int_int_Check_1.L1 k v0 n (IntKind.wrap .i64 (v2 + 1))
    else
      some (-1)
def slices_IndexFunc_int_int_Check_1 (k : Nat) (v0 : (List Int)) : Option Int :=
  slices_IndexFunc_int_int_Check_1.L1 k v0 k 0
def slices_ContainsFunc_int_int_Check_1 (k : Nat) (v0 : (List Int)) : Option Bool :=
  bnd1 (slices_IndexFunc_int_int_Check_1 k v0) fun v2 =>
  some (decide (0 ≤ v2))
def statement_pinned.J2 (k : Nat) (v2 : Int) (kb1 : Int → Option Bool) (v4 : Bool) : Option Bool :=
  if v4 = true then
    some false
  else
    kb1 (IntKind.wrap .i64 (v2 + 1))
def statement_pinned.L1 (k : Nat) (v0 : (List api_Pin)) : Nat → Int → Option Bool
  | 0, _ => none
  | n + 1, v2 =>
    if v2 < (v0.length : Int) then
      idx v0 v2 fun v3 =>
      bnd1 (lists_In k v3.Author 0 63) fun v5 =>
      if (!v5) = true then
        statement_pinned.J2 k v2 (fun v2_ => statement_pinned.L1 k v0 n v2_) true
      else
        if 0 < v2 then
          idx v0 (IntKind.wrap .i64 (v2 - 1)) fun v6 =>
          if v3.Author ≤ v6.Author then
            statement_pinned.J2 k v2 (fun v2_ => statement_pinned.L1 k v0 n v2_) true
          else
            bnd1 (lists_In k v3.Height 1 200) fun v7 =>
            if (!v7) = true then
              statement_pinned.J2 k v2 (fun v2_ => statement_pinned.L1 k v0 n v2_) true
            else
              statement_pinned.J2 k v2 (fun v2_ => statement_pinned.L1 k v0 n v2_) ((v3.Digest.size : Int) != 32)
        else
          bnd1 (lists_In k v3.Height 1 200) fun v8 =>
          if (!v8) = true then
            statement_pinned.J2 k v2 (fun v2_ => statement_pinned.L1 k v0 n v2_) true
          else
            statement_pinned.J2 k v2 (fun v2_ => statement_pinned.L1 k v0 n v2_) ((v3.Digest.size : Int) != 32)
    else
      some true
def statement_pinned (k : Nat) (v0 : (List api_Pin)) : Option Bool :=
  statement_pinned.L1 k v0 k 0
def statement_Check.J1 (k : Nat) : Option Int :=
  some 0
def statement_Check.J2 (k : Nat) (v24 : Bool) : Option Int :=
  if v24 = true then
    some 1
  else
    statement_Check.J1 k
def statement_Check.J3 (k : Nat) (v35 : Bool) : Option Int :=
  if v35 = true then
    some 1
  else
    statement_Check.J1 k
def statement_Check (k : Nat) (v0 : Int) (v1 : Int) (v2 : ByteArray) (v3 : Int) (v4 : Int) (v5 : Int) (v6 : Int) (v7 : Int) (v8 : (List Int)) (v9 : (List api_Pin)) (v10 : ByteArray) (v11 : Int) (v12 : ByteArray) : Option Int :=
  bnd1 (lists_In k v0 0 63) fun v14 =>
  if (!v14) = true then
    some 4
  else
    bnd1 (lists_In k v4 1 3) fun v15 =>
    if (!v15) = true then
      bnd1 (lists_In k v4 10 31) fun v16 =>
      if (!v16) = true then
        some 5
      else
        bnd1 (lists_In k v3 0 2147483648) fun v17 =>
        if (!v17) = true then
          some 9
        else
          bnd1 (lists_In k v1 0 199) fun v18 =>
          if (!v18) = true then
            some 2
          else
            bnd1 (statement_value k v5) fun v19 =>
            if (!v19) = true then
              some 2
            else
              bnd1 (statement_value k v6) fun v20 =>
              if (!v20) = true then
                some 2
              else
                bnd1 (statement_value k v7) fun v21 =>
                if (!v21) = true then
                  some 2
                else
                  bnd1 (statement_meant k v0 v1 v2 v3 v4 v5 v6 v7 v8 v9 v10 v11 v12) fun v22 =>
                  if (!v22) = true then
                    some 2
                  else
                    bnd1 (slices_ContainsFunc_int_int_Check_1 k v8) fun v23 =>
                    if v23 = true then
                      some 2
                    else
                      if 64 < (v8.length : Int) then
                        some 3
                      else
                        if 64 < (v9.length : Int) then
                          some 3
                        else
                          if 4096 < (v10.size : Int) then
                            some 3
                          else
                            if v1 = 0 then
                              if (!strEq v2 (ByteArray.mk #[])) = true then
                                statement_Check.J2 k true
                              else
                                if 0 < v1 then
                                  none
                                else
                                  bnd1 (statement_pinned k v9) fun v25 =>
                                  if (!v25) = true then
                                    statement_Check.J2 k true
                                  else
                                    if v4 ≤ 3 then
                                      statement_Check.J2 k (decide (0 < IntKind.wrap .i64 (IntKind.wrap .i64 ((v8.length : Int) + (v9.length : Int)) + (v10.size : Int))))
                                    else
                                      statement_Check.J2 k false
                            else
                              if 0 < v1 then
                                if (v2.size : Int) ≠ 32 then
                                  statement_Check.J2 k true
                                else
                                  bnd1 (statement_pinned k v9) fun v26 =>
                                  if (!v26) = true then
                                    statement_Check.J2 k true
                                  else
                                    if v4 ≤ 3 then
                                      statement_Check.J2 k (decide (0 < IntKind.wrap .i64 (IntKind.wrap .i64 ((v8.length : Int) + (v9.length : Int)) + (v10.size : Int))))
                                    else
                                      statement_Check.J2 k false
                              else
                                bnd1 (statement_pinned k v9) fun v27 =>
                                if (!v27) = true then
                                  statement_Check.J2 k true
                                else
                                  if v4 ≤ 3 then
                                    statement_Check.J2 k (decide (0 < IntKind.wrap .i64 (IntKind.wrap .i64 ((v8.length : Int) + (v9.length : Int)) + (v10.size : Int))))
                                  else
                                    statement_Check.J2 k false
    else
      bnd1 (lists_In k v3 0 2147483648) fun v28 =>
      if (!v28) = true then
        some 9
      else
        bnd1 (lists_In k v1 0 199) fun v29 =>
        if (!v29) = true then
          some 2
        else
          bnd1 (statement_value k v5) fun v30 =>
          if (!v30) = true then
            some 2
          else
            bnd1 (statement_value k v6) fun v31 =>
            if (!v31) = true then
              some 2
            else
              bnd1 (statement_value k v7) fun v32 =>
              if (!v32) = true then
                some 2
              else
                bnd1 (statement_meant k v0 v1 v2 v3 v4 v5 v6 v7 v8 v9 v10 v11 v12) fun v33 =>
                if (!v33) = true then
                  some 2
                else
                  bnd1 (slices_ContainsFunc_int_int_Check_1 k v8) fun v34 =>
                  if v34 = true then
                    some 2
                  else
                    if 64 < (v8.length : Int) then
                      some 3
                    else
                      if 64 < (v9.length : Int) then
                        some 3
                      else
                        if 4096 < (v10.size : Int) then
                          some 3
                        else
                          if v1 = 0 then
                            if (!strEq v2 (ByteArray.mk #[])) = true then
                              statement_Check.J3 k true
                            else
                              if 0 < v1 then
                                none
                              else
                                bnd1 (statement_pinned k v9) fun v36 =>
                                if (!v36) = true then
                                  statement_Check.J3 k true
                                else
                                  if v4 ≤ 3 then
                                    statement_Check.J3 k (decide (0 < IntKind.wrap .i64 (IntKind.wrap .i64 ((v8.length : Int) + (v9.length : Int)) + (v10.size : Int))))
                                  else
                                    statement_Check.J3 k false
                          else
                            if 0 < v1 then
                              if (v2.size : Int) ≠ 32 then
                                statement_Check.J3 k true
                              else
                                bnd1 (statement_pinned k v9) fun v37 =>
                                if (!v37) = true then
                                  statement_Check.J3 k true
                                else
                                  if v4 ≤ 3 then
                                    statement_Check.J3 k (decide (0 < IntKind.wrap .i64 (IntKind.wrap .i64 ((v8.length : Int) + (v9.length : Int)) + (v10.size : Int))))
                                  else
                                    statement_Check.J3 k false
                            else
                              bnd1 (statement_pinned k v9) fun v38 =>
                              if (!v38) = true then
                                statement_Check.J3 k true
                              else
                                if v4 ≤ 3 then
                                  statement_Check.J3 k (decide (0 < IntKind.wrap .i64 (IntKind.wrap .i64 ((v8.length : Int) + (v9.length : Int)) + (v10.size : Int))))
                                else
                                  statement_Check.J3 k false
def slices_Clone_int_int (k : Nat) (v0 : (List Int)) : Option (List Int) :=
  chk (v0.length * 8 ≤ 140737488355328) <| some v0
def slices_Clone_byte_byte (k : Nat) (v0 : (List Int)) : Option (List Int) :=
  chk (v0.length * 1 ≤ 140737488355328) <| some v0
def wire_put.L1 (k : Nat) (v1 : Int) : Nat → Int → (List Int) → Option (List Int)
  | 0, _, _ => none
  | n + 1, v3, v4 =>
    if 0 ≤ v3 then
      chk ((0 : Int) ≤ IntKind.wrap .u64 v3) <|
      chk ((v4.length + ([IntKind.wrap .u8 (Int.fdiv (IntKind.wrap .u64 v1) (2 ^ (min ((IntKind.wrap .u64 v3).toNat) 64)))] : List Int).length) * 1 ≤ 140737488355328) <|
      wire_put.L1 k v1 n (IntKind.wrap .i64 (v3 - 8)) (v4 ++ ([IntKind.wrap .u8 (Int.fdiv (IntKind.wrap .u64 v1) (2 ^ (min ((IntKind.wrap .u64 v3).toNat) 64)))] : List Int))
    else
      some v4
def wire_put (k : Nat) (v0 : (List Int)) (v1 : Int) : Option (List Int) :=
  wire_put.L1 k v1 k 56 v0
def wire_Int (k : Nat) (v0 : (List Int)) (v1 : Int) : Option (List Int) :=
  bnd1 (slices_Clone_byte_byte k v0) fun v3 =>
  bnd1 (wire_put k v3 v1) fun v4 =>
  some v4
def wire_Text (k : Nat) (v0 : (List Int)) (v1 : ByteArray) : Option (List Int) :=
  bnd1 (wire_Int k v0 (v1.size : Int)) fun v3 =>
  chk ((v3.length + (bI v1).length) * 1 ≤ 140737488355328) <|
  some (v3 ++ (bI v1))
def wire_Ints.L1 (k : Nat) (v1 : (List Int)) : Nat → Int → (List Int) → Option (List Int)
  | 0, _, _ => none
  | n + 1, v4, v5 =>
    if v4 < (v1.length : Int) then
      idx v1 v4 fun v6 =>
      bnd1 (wire_put k v5 v6) fun v7 =>
      wire_Ints.L1 k v1 n (IntKind.wrap .i64 (v4 + 1)) v7
    else
      some v5
def wire_Ints (k : Nat) (v0 : (List Int)) (v1 : (List Int)) : Option (List Int) :=
  bnd1 (wire_Int k v0 (v1.length : Int)) fun v3 =>
  wire_Ints.L1 k v1 k 0 v3
def statement_Bytes.L2 (k : Nat) (v9 : (List api_Pin)) (v10 : ByteArray) : Nat → (List Int) → Int → Option (List Int)
  | 0, _, _ => none
  | n + 1, v23, v24 =>
    if v24 < (v9.length : Int) then
      idx v9 v24 fun v25 =>
      bnd1 (wire_Int k v23 v25.Author) fun v26 =>
      bnd1 (wire_Int k v26 v25.Height) fun v27 =>
      bnd1 (wire_Text k v27 v25.Digest) fun v28 =>
      statement_Bytes.L2 k v9 v10 n v28 (IntKind.wrap .i64 (v24 + 1))
    else
      bnd1 (wire_Text k v23 v10) fun v29 =>
      some v29
def statement_Bytes.L1 (k : Nat) (v3 : Int) (v4 : Int) (v5 : Int) (v6 : Int) (v7 : Int) (v8 : (List Int)) (v9 : (List api_Pin)) (v10 : ByteArray) : Nat → (List Int) → Int → Option (List Int)
  | 0, _, _ => none
  | n + 1, v17, v18 =>
    if v18 < 5 then
      chk (v18 < 5) <|
      idx ([v3, v4, v5, v6, v7] : List Int) v18 fun v19 =>
      bnd1 (wire_Int k v17 v19) fun v20 =>
      statement_Bytes.L1 k v3 v4 v5 v6 v7 v8 v9 v10 n v20 (IntKind.wrap .i64 (v18 + 1))
    else
      bnd1 (wire_Ints k v17 v8) fun v21 =>
      bnd1 (wire_Int k v21 (v9.length : Int)) fun v22 =>
      statement_Bytes.L2 k v9 v10 k v22 0
def statement_Bytes (k : Nat) (v0 : Int) (v1 : Int) (v2 : ByteArray) (v3 : Int) (v4 : Int) (v5 : Int) (v6 : Int) (v7 : Int) (v8 : (List Int)) (v9 : (List api_Pin)) (v10 : ByteArray) (v11 : Int) (v12 : ByteArray) : Option (List Int) :=
  bnd1 (wire_Int k ([] : List Int) v0) fun v14 =>
  bnd1 (wire_Int k v14 v1) fun v15 =>
  bnd1 (wire_Text k v15 v2) fun v16 =>
  statement_Bytes.L1 k v3 v4 v5 v6 v7 v8 v9 v10 k v16 0
def digest_rounds (k : Nat) : Option (List Int) :=
  chk ((List.replicate 64 0).length = 64 ∧ ([1116352408, 1899447441, 3049323471, 3921009573, 961987163, 1508970993, 2453635748, 2870763221, 3624381080, 310598401, 607225278, 1426881987, 1925078388, 2162078206, 2614888103, 3248222580, 3835390401, 4022224774, 264347078, 604807628, 770255983, 1249150122, 1555081692, 1996064986, 2554220882, 2821834349, 2952996808, 3210313671, 3336571891, 3584528711, 113926993, 338241895, 666307205, 773529912, 1294757372, 1396182291, 1695183700, 1986661051, 2177026350, 2456956037, 2730485921, 2820302411, 3259730800, 3345764771, 3516065817, 3600352804, 4094571909, 275423344, 430227734, 506948616, 659060556, 883997877, 958139571, 1322822218, 1537002063, 1747873779, 1955562222, 2024104815, 2227730452, 2361852424, 2428436474, 2756734187, 3204031479, 3329325298] : List Int).length = 64) <|
  chk (([1116352408, 1899447441, 3049323471, 3921009573, 961987163, 1508970993, 2453635748, 2870763221, 3624381080, 310598401, 607225278, 1426881987, 1925078388, 2162078206, 2614888103, 3248222580, 3835390401, 4022224774, 264347078, 604807628, 770255983, 1249150122, 1555081692, 1996064986, 2554220882, 2821834349, 2952996808, 3210313671, 3336571891, 3584528711, 113926993, 338241895, 666307205, 773529912, 1294757372, 1396182291, 1695183700, 1986661051, 2177026350, 2456956037, 2730485921, 2820302411, 3259730800, 3345764771, 3516065817, 3600352804, 4094571909, 275423344, 430227734, 506948616, 659060556, 883997877, 958139571, 1322822218, 1537002063, 1747873779, 1955562222, 2024104815, 2227730452, 2361852424, 2428436474, 2756734187, 3204031479, 3329325298] : List Int).length = 64) <|
  some ([1116352408, 1899447441, 3049323471, 3921009573, 961987163, 1508970993, 2453635748, 2870763221, 3624381080, 310598401, 607225278, 1426881987, 1925078388, 2162078206, 2614888103, 3248222580, 3835390401, 4022224774, 264347078, 604807628, 770255983, 1249150122, 1555081692, 1996064986, 2554220882, 2821834349, 2952996808, 3210313671, 3336571891, 3584528711, 113926993, 338241895, 666307205, 773529912, 1294757372, 1396182291, 1695183700, 1986661051, 2177026350, 2456956037, 2730485921, 2820302411, 3259730800, 3345764771, 3516065817, 3600352804, 4094571909, 275423344, 430227734, 506948616, 659060556, 883997877, 958139571, 1322822218, 1537002063, 1747873779, 1955562222, 2024104815, 2227730452, 2361852424, 2428436474, 2756734187, 3204031479, 3329325298] : List Int)
def math_bits_RotateLeft32 (k : Nat) (v0 : Int) (v1 : Int) : Option Int :=
  chk ((0 : Int) ≤ bitsV .and .u64 (IntKind.wrap .u64 v1) 31) <|
  chk ((0 : Int) ≤ IntKind.wrap .u64 (32 - bitsV .and .u64 (IntKind.wrap .u64 v1) 31)) <|
  some (bitsV .or .u32 (IntKind.wrap .u32 (v0 * 2 ^ (min ((bitsV .and .u64 (IntKind.wrap .u64 v1) 31).toNat) 32))) (Int.fdiv v0 (2 ^ (min ((IntKind.wrap .u64 (32 - bitsV .and .u64 (IntKind.wrap .u64 v1) 31)).toNat) 32))))
def digest_state_block_1 (k : Nat) (v0 : Int) (v1 : Int) : Option Int :=
  bnd1 (math_bits_RotateLeft32 k v0 (IntKind.wrap .i64 (0 - v1))) fun v3 =>
  some v3
def digest_state_block.L4 (k : Nat) (v21 : (List Int)) : Nat → Int → (List Int) → Option (List Int)
  | 0, _, _ => none
  | n + 1, v38, v39 =>
    if v38 < 8 then
      chk ((0 : Int) ≤ v38 ∧ v38 < 8 ∧ (v38).toNat < v39.length) <|
      idx v39 v38 fun v40 =>
      chk ((0 : Int) ≤ v38 ∧ v38 < 8 ∧ (v38).toNat < v21.length) <|
      idx v21 v38 fun v41 =>
      chk ((0 : Int) ≤ v38 ∧ v38 < 8 ∧ (v38).toNat < v39.length) <|
      digest_state_block.L4 k v21 n (IntKind.wrap .i64 (v38 + 1)) (v39.set (v38).toNat (IntKind.wrap .u32 (v40 + v41)))
    else
      some v39
def digest_state_block.L3 (k : Nat) (v0 : (List Int)) (v2 : (List Int)) (v11 : (List Int)) : Nat → Int → (List Int) → Option (List Int)
  | 0, _, _ => none
  | n + 1, v20, v21 =>
    if v20 < 64 then
      chk ((0 : Int) ≤ 0 ∧ 0 < 8 ∧ (0 : Int).toNat < v21.length) <|
      idx v21 (0 : Int) fun v22 =>
      chk ((0 : Int) ≤ 4 ∧ 4 < 8 ∧ (4 : Int).toNat < v21.length) <|
      idx v21 (4 : Int) fun v23 =>
      chk ((0 : Int) ≤ 7 ∧ 7 < 8 ∧ (7 : Int).toNat < v21.length) <|
      idx v21 (7 : Int) fun v24 =>
      bnd1 (digest_state_block_1 k v23 6) fun v25 =>
      bnd1 (digest_state_block_1 k v23 11) fun v26 =>
      bnd1 (digest_state_block_1 k v23 25) fun v27 =>
      chk ((0 : Int) ≤ 5 ∧ 5 < 8 ∧ (5 : Int).toNat < v21.length) <|
      idx v21 (5 : Int) fun v28 =>
      chk ((0 : Int) ≤ 6 ∧ 6 < 8 ∧ (6 : Int).toNat < v21.length) <|
      idx v21 (6 : Int) fun v29 =>
      chk ((0 : Int) ≤ v20 ∧ v20 < 64 ∧ (v20).toNat < v2.length) <|
      idx v2 v20 fun v30 =>
      chk ((0 : Int) ≤ v20 ∧ v20 < 64 ∧ (v20).toNat < v11.length) <|
      idx v11 v20 fun v31 =>
      bnd1 (digest_state_block_1 k v22 2) fun v32 =>
      bnd1 (digest_state_block_1 k v22 13) fun v33 =>
      bnd1 (digest_state_block_1 k v22 22) fun v34 =>
      chk ((0 : Int) ≤ 1 ∧ 1 < 8 ∧ (1 : Int).toNat < v21.length) <|
      idx v21 (1 : Int) fun v35 =>
      chk ((0 : Int) ≤ 2 ∧ 2 < 8 ∧ (2 : Int).toNat < v21.length) <|
      idx v21 (2 : Int) fun v36 =>
      chk ((0 : Int) ≤ 1 ∧ 1 < 8 ∧ (1 : Int).toNat < v21.length) <|
      chk ((0 : Int) ≤ 2 ∧ 2 < 8 ∧ (2 : Int).toNat < v21.length) <|
      chk ((0 : Int) ≤ 0 ∧ 0 < 8 ∧ (0 : Int).toNat < v21.length) <|
      chk ((0 : Int) ≤ 1 ∧ 1 < 8 ∧ (1 : Int).toNat < v21.length) <|
      chk ((0 : Int) ≤ 2 ∧ 2 < 8 ∧ (2 : Int).toNat < v21.length) <|
      chk ((0 : Int) ≤ 3 ∧ 3 < 8 ∧ (3 : Int).toNat < v21.length) <|
      idx v21 (3 : Int) fun v37 =>
      chk ((0 : Int) ≤ 4 ∧ 4 < 8 ∧ (4 : Int).toNat < v21.length) <|
      chk ((0 : Int) ≤ 5 ∧ 5 < 8 ∧ (5 : Int).toNat < v21.length) <|
      chk ((0 : Int) ≤ 6 ∧ 6 < 8 ∧ (6 : Int).toNat < v21.length) <|
      chk (v21.length = 8 ∧ ([IntKind.wrap .u32 (IntKind.wrap .u32 (IntKind.wrap .u32 (IntKind.wrap .u32 (IntKind.wrap .u32 (v24 + bitsV .xor .u32 (bitsV .xor .u32 v25 v26) v27) + bitsV .xor .u32 (bitsV .and .u32 v23 v28) (bitsV .and .u32 (bitsV .xor .u32 (IntKind.max .u32) v23) v29)) + v30) + v31) + IntKind.wrap .u32 (bitsV .xor .u32 (bitsV .xor .u32 v32 v33) v34 + bitsV .xor .u32 (bitsV .xor .u32 (bitsV .and .u32 v22 v35) (bitsV .and .u32 v22 v36)) (bitsV .and .u32 v35 v36))), v22, v35, v36, IntKind.wrap .u32 (v37 + IntKind.wrap .u32 (IntKind.wrap .u32 (IntKind.wrap .u32 (IntKind.wrap .u32 (v24 + bitsV .xor .u32 (bitsV .xor .u32 v25 v26) v27) + bitsV .xor .u32 (bitsV .and .u32 v23 v28) (bitsV .and .u32 (bitsV .xor .u32 (IntKind.max .u32) v23) v29)) + v30) + v31)), v23, v28, v29] : List Int).length = 8) <|
      digest_state_block.L3 k v0 v2 v11 n (IntKind.wrap .i64 (v20 + 1)) ([IntKind.wrap .u32 (IntKind.wrap .u32 (IntKind.wrap .u32 (IntKind.wrap .u32 (IntKind.wrap .u32 (v24 + bitsV .xor .u32 (bitsV .xor .u32 v25 v26) v27) + bitsV .xor .u32 (bitsV .and .u32 v23 v28) (bitsV .and .u32 (bitsV .xor .u32 (IntKind.max .u32) v23) v29)) + v30) + v31) + IntKind.wrap .u32 (bitsV .xor .u32 (bitsV .xor .u32 v32 v33) v34 + bitsV .xor .u32 (bitsV .xor .u32 (bitsV .and .u32 v22 v35) (bitsV .and .u32 v22 v36)) (bitsV .and .u32 v35 v36))), v22, v35, v36, IntKind.wrap .u32 (v37 + IntKind.wrap .u32 (IntKind.wrap .u32 (IntKind.wrap .u32 (IntKind.wrap .u32 (v24 + bitsV .xor .u32 (bitsV .xor .u32 v25 v26) v27) + bitsV .xor .u32 (bitsV .and .u32 v23 v28) (bitsV .and .u32 (bitsV .xor .u32 (IntKind.max .u32) v23) v29)) + v30) + v31)), v23, v28, v29] : List Int)
    else
      digest_state_block.L4 k v21 k 0 v0
def digest_state_block.L2 (k : Nat) (v0 : (List Int)) (v2 : (List Int)) : Nat → Int → (List Int) → Option (List Int)
  | 0, _, _ => none
  | n + 1, v10, v11 =>
    if v10 < 64 then
      chk ((0 : Int) ≤ (IntKind.wrap .i64 (v10 - 15)) ∧ (IntKind.wrap .i64 (v10 - 15)) < 64 ∧ (IntKind.wrap .i64 (v10 - 15)).toNat < v11.length) <|
      idx v11 (IntKind.wrap .i64 (v10 - 15)) fun v12 =>
      chk ((0 : Int) ≤ (IntKind.wrap .i64 (v10 - 2)) ∧ (IntKind.wrap .i64 (v10 - 2)) < 64 ∧ (IntKind.wrap .i64 (v10 - 2)).toNat < v11.length) <|
      idx v11 (IntKind.wrap .i64 (v10 - 2)) fun v13 =>
      chk ((0 : Int) ≤ (IntKind.wrap .i64 (v10 - 16)) ∧ (IntKind.wrap .i64 (v10 - 16)) < 64 ∧ (IntKind.wrap .i64 (v10 - 16)).toNat < v11.length) <|
      idx v11 (IntKind.wrap .i64 (v10 - 16)) fun v14 =>
      bnd1 (digest_state_block_1 k v12 7) fun v15 =>
      bnd1 (digest_state_block_1 k v12 18) fun v16 =>
      chk ((0 : Int) ≤ (IntKind.wrap .i64 (v10 - 7)) ∧ (IntKind.wrap .i64 (v10 - 7)) < 64 ∧ (IntKind.wrap .i64 (v10 - 7)).toNat < v11.length) <|
      idx v11 (IntKind.wrap .i64 (v10 - 7)) fun v17 =>
      bnd1 (digest_state_block_1 k v13 17) fun v18 =>
      bnd1 (digest_state_block_1 k v13 19) fun v19 =>
      chk ((0 : Int) ≤ v10 ∧ v10 < 64 ∧ (v10).toNat < v11.length) <|
      digest_state_block.L2 k v0 v2 n (IntKind.wrap .i64 (v10 + 1)) (v11.set (v10).toNat (IntKind.wrap .u32 (IntKind.wrap .u32 (IntKind.wrap .u32 (v14 + bitsV .xor .u32 (bitsV .xor .u32 v15 v16) (Int.fdiv v12 (2 ^ (3)))) + v17) + bitsV .xor .u32 (bitsV .xor .u32 v18 v19) (Int.fdiv v13 (2 ^ (10))))))
    else
      chk (v0.length = 8) <|
      chk ((List.replicate 8 0).length = 8 ∧ v0.length = 8) <|
      digest_state_block.L3 k v0 v2 v11 k 0 v0
def digest_state_block.L1 (k : Nat) (v0 : (List Int)) (v1 : (List Int)) (v2 : (List Int)) : Nat → Int → (List Int) → Option (List Int)
  | 0, _, _ => none
  | n + 1, v4, v5 =>
    if v4 < 16 then
      idx v1 (IntKind.wrap .i64 (4 * v4)) fun v6 =>
      idx v1 (IntKind.wrap .i64 (IntKind.wrap .i64 (4 * v4) + 1)) fun v7 =>
      idx v1 (IntKind.wrap .i64 (IntKind.wrap .i64 (4 * v4) + 2)) fun v8 =>
      idx v1 (IntKind.wrap .i64 (IntKind.wrap .i64 (4 * v4) + 3)) fun v9 =>
      chk ((0 : Int) ≤ v4 ∧ v4 < 64 ∧ (v4).toNat < v5.length) <|
      digest_state_block.L1 k v0 v1 v2 n (IntKind.wrap .i64 (v4 + 1)) (v5.set (v4).toNat (bitsV .or .u32 (bitsV .or .u32 (bitsV .or .u32 (IntKind.wrap .u32 ((IntKind.wrap .u32 v6) * 2 ^ (24))) (IntKind.wrap .u32 ((IntKind.wrap .u32 v7) * 2 ^ (16)))) (IntKind.wrap .u32 ((IntKind.wrap .u32 v8) * 2 ^ (8)))) (IntKind.wrap .u32 v9)))
    else
      digest_state_block.L2 k v0 v2 k 16 v5
def digest_state_block (k : Nat) (v0 : (List Int)) (v1 : (List Int)) (v2 : (List Int)) : Option (List Int) :=
  digest_state_block.L1 k v0 v1 v2 k 0 (List.replicate 64 0)
def digest_Sum.L4 (k : Nat) (v7 : (List Int)) : Nat → Int → (List Int) → Option ByteArray
  | 0, _, _ => none
  | n + 1, v9, v10 =>
    if v9 < 8 then
      chk (v9 < 8) <|
      idx v7 v9 fun v11 =>
      chk ((v10.length + ([IntKind.wrap .u8 (Int.fdiv v11 (2 ^ (24))), IntKind.wrap .u8 (Int.fdiv v11 (2 ^ (16))), IntKind.wrap .u8 (Int.fdiv v11 (2 ^ (8))), IntKind.wrap .u8 v11] : List Int).length) * 1 ≤ 140737488355328) <|
      digest_Sum.L4 k v7 n (IntKind.wrap .i64 (v9 + 1)) (v10 ++ ([IntKind.wrap .u8 (Int.fdiv v11 (2 ^ (24))), IntKind.wrap .u8 (Int.fdiv v11 (2 ^ (16))), IntKind.wrap .u8 (Int.fdiv v11 (2 ^ (8))), IntKind.wrap .u8 v11] : List Int))
    else
      some (ofI v10)
def digest_Sum.L3 (k : Nat) (v5 : (List Int)) : Nat → (List Int) → (List Int) → Option ByteArray
  | 0, _, _ => none
  | n + 1, v6, v7 =>
    if 0 < (v6.length : Int) then
      chk ((64 : Int) ≤ (v6.length : Int)) <|
      bnd1 (digest_state_block k v7 (v6.take (64 : Int).toNat) v5) fun v8 =>
      chk ((64 : Int) ≤ (v6.length : Int)) <|
      digest_Sum.L3 k v5 n (v6.drop (64 : Int).toNat) v8
    else
      chk (v7.length = 8) <|
      digest_Sum.L4 k v7 k 0 ([] : List Int)
def digest_Sum.L2 (k : Nat) (v0 : (List Int)) : Nat → Int → (List Int) → Option ByteArray
  | 0, _, _ => none
  | n + 1, v3, v4 =>
    if 0 ≤ v3 then
      chk ((0 : Int) ≤ IntKind.wrap .u64 v3) <|
      chk ((v4.length + ([IntKind.wrap .u8 (Int.fdiv (IntKind.wrap .u64 (IntKind.wrap .u64 (v0.length : Int) * 8)) (2 ^ (min ((IntKind.wrap .u64 v3).toNat) 64)))] : List Int).length) * 1 ≤ 140737488355328) <|
      digest_Sum.L2 k v0 n (IntKind.wrap .i64 (v3 - 8)) (v4 ++ ([IntKind.wrap .u8 (Int.fdiv (IntKind.wrap .u64 (IntKind.wrap .u64 (v0.length : Int) * 8)) (2 ^ (min ((IntKind.wrap .u64 v3).toNat) 64)))] : List Int))
    else
      bnd1 (digest_rounds k) fun v5 =>
      chk ((List.replicate 8 0).length = 8 ∧ ([1779033703, 3144134277, 1013904242, 2773480762, 1359893119, 2600822924, 528734635, 1541459225] : List Int).length = 8) <|
      chk ((List.replicate 64 0).length = 64 ∧ v5.length = 64) <|
      digest_Sum.L3 k v5 k v4 ([1779033703, 3144134277, 1013904242, 2773480762, 1359893119, 2600822924, 528734635, 1541459225] : List Int)
def digest_Sum.L1 (k : Nat) (v0 : (List Int)) : Nat → (List Int) → Option ByteArray
  | 0, _ => none
  | n + 1, v2 =>
    if (Int.tmod (v2.length : Int) 64) ≠ 56 then
      chk ((v2.length + ([0] : List Int).length) * 1 ≤ 140737488355328) <|
      digest_Sum.L1 k v0 n (v2 ++ ([0] : List Int))
    else
      digest_Sum.L2 k v0 k 56 v2
def digest_Sum (k : Nat) (v0 : (List Int)) : Option ByteArray :=
  chk (v0.length * 1 ≤ 140737488355328) <|
  chk ((v0.length + ([128] : List Int).length) * 1 ≤ 140737488355328) <|
  digest_Sum.L1 k v0 k (v0 ++ ([128] : List Int))
def statement_Digest (k : Nat) (v0 : Int) (v1 : Int) (v2 : ByteArray) (v3 : Int) (v4 : Int) (v5 : Int) (v6 : Int) (v7 : Int) (v8 : (List Int)) (v9 : (List api_Pin)) (v10 : ByteArray) (v11 : Int) (v12 : ByteArray) : Option ByteArray :=
  bnd1 (statement_Bytes k v0 v1 v2 v3 v4 v5 v6 v7 v8 v9 v10 v11 v12) fun v14 =>
  bnd1 (digest_Sum k v14) fun v15 =>
  some v15
def statement_Sealed (k : Nat) (v0 : Int) (v1 : Int) (v2 : ByteArray) (v3 : Int) (v4 : Int) (v5 : Int) (v6 : Int) (v7 : Int) (v8 : (List Int)) (v9 : (List api_Pin)) (v10 : ByteArray) (v11 : Int) (v12 : ByteArray) : Option Bool :=
  bnd1 (statement_Digest k v0 v1 v2 v3 v4 v5 v6 v7 v8 v9 v10 v11 v12) fun v14 =>
  let1 (((v11 == v0) && (strEq v12 v14))) fun v15 =>
  some v15
def guardian_Of (k : Nat) (v0 : Int) (v1 : Int) (v2 : ByteArray) (v3 : Int) (v4 : Int) (v5 : Int) (v6 : Int) (v7 : Int) (v8 : (List Int)) (v9 : (List api_Pin)) (v10 : ByteArray) (v11 : Int) (v12 : ByteArray) : Option (Int × Int × (List Int) × Int) :=
  bnd1 (statement_Check k v0 v1 v2 v3 v4 v5 v6 v7 v8 v9 v10 v11 v12) fun v17 =>
  if v17 ≠ 0 then
    some (0, 0, ([] : List Int), v17)
  else
    bnd1 (slices_Clone_int_int k v8) fun v18 =>
    bnd1 (statement_Sealed k v0 v1 v2 v3 v4 v5 v6 v7 v8 v9 v10 v11 v12) fun v19 =>
    if (!v19) = true then
      some (0, 0, ([] : List Int), 47)
    else
      if v4 ≠ 12 then
        some (0, 0, ([] : List Int), 47)
      else
        if v6 ≠ 0 then
          some (0, 0, ([] : List Int), 47)
        else
          if v7 ≠ 0 then
            some (0, 0, ([] : List Int), 47)
          else
            if 0 < (v9.length : Int) then
              some (0, 0, ([] : List Int), 47)
            else
              if (!strEq v10 (ByteArray.mk #[])) = true then
                some (0, 0, ([] : List Int), 47)
              else
                bnd1 (guardian_Valid k v0 v5 v18) fun v20 =>
                if (!v20) = true then
                  some (0, 0, ([] : List Int), 47)
                else
                  some (v0, v5, v18, 0)
def ref03_key (k : Nat) (v0 : Int) : Option Bool :=
  if 0 ≤ v0 then
    some (decide (v0 < 64))
  else
    some false
def ref03_in (k : Nat) (v0 : Int) (v1 : Int) : Option Bool :=
  if 0 ≤ v0 then
    some (decide (v0 ≤ v1))
  else
    some false
def ref03_numbers.L1 (k : Nat) (v0 : Int) (v3 : Int) (v4 : Int) (v5 : Int) (v6 : Int) (v7 : Int) (v8 : (List Int)) : Nat → Int → Option Bool
  | 0, _ => none
  | n + 1, v18 =>
    if v18 < (v8.length : Int) then
      idx v8 v18 fun v19 =>
      bnd1 (ref03_in k v19 1099511627776) fun v20 =>
      if (!v20) = true then
        some false
      else
        ref03_numbers.L1 k v0 v3 v4 v5 v6 v7 v8 n (IntKind.wrap .i64 (v18 + 1))
    else
      if v4 = 1 then
        bnd1 (ref03_key k v5) fun v21 =>
        if v21 = true then
          if v5 ≠ v0 then
            if 1 ≤ v6 then
              if v6 ≤ 3 then
                if v3 ≤ v7 then
                  some (decide (v7 ≤ 2147483648))
                else
                  some false
              else
                some false
            else
              some false
          else
            some false
        else
          some false
      else
        if v4 = 2 then
          bnd1 (ref03_in k v5 199) fun v22 =>
          if v22 = true then
            if v6 = 0 then
              some (v7 == 0)
            else
              some false
          else
            some false
        else
          if v4 = 3 then
            if v5 = 0 then
              if v6 = 0 then
                some (v7 == 0)
              else
                some false
            else
              some false
          else
            some true
def ref03_numbers (k : Nat) (v0 : Int) (v1 : Int) (v2 : ByteArray) (v3 : Int) (v4 : Int) (v5 : Int) (v6 : Int) (v7 : Int) (v8 : (List Int)) (v9 : (List api_Pin)) (v10 : ByteArray) (v11 : Int) (v12 : ByteArray) : Option Bool :=
  bnd1 (ref03_in k v1 199) fun v14 =>
  if (!v14) = true then
    some false
  else
    bnd1 (ref03_in k v5 1099511627776) fun v15 =>
    if (!v15) = true then
      some false
    else
      bnd1 (ref03_in k v6 1099511627776) fun v16 =>
      if (!v16) = true then
        some false
      else
        bnd1 (ref03_in k v7 1099511627776) fun v17 =>
        if (!v17) = true then
          some false
        else
          ref03_numbers.L1 k v0 v3 v4 v5 v6 v7 v8 k 0
def ref03_PinsOK.J2 (k : Nat) (v2 : Int) (kb1 : Int → Option Bool) (v4 : Bool) : Option Bool :=
  if v4 = true then
    some false
  else
    kb1 (IntKind.wrap .i64 (v2 + 1))
def ref03_PinsOK.L1 (k : Nat) (v0 : (List api_Pin)) : Nat → Int → Option Bool
  | 0, _ => none
  | n + 1, v2 =>
    if v2 < (v0.length : Int) then
      idx v0 v2 fun v3 =>
      bnd1 (ref03_key k v3.Author) fun v5 =>
      if (!v5) = true then
        ref03_PinsOK.J2 k v2 (fun v2_ => ref03_PinsOK.L1 k v0 n v2_) true
      else
        if 0 < v2 then
          idx v0 (IntKind.wrap .i64 (v2 - 1)) fun v6 =>
          if v3.Author ≤ v6.Author then
            ref03_PinsOK.J2 k v2 (fun v2_ => ref03_PinsOK.L1 k v0 n v2_) true
          else
            if v3.Height < 1 then
              ref03_PinsOK.J2 k v2 (fun v2_ => ref03_PinsOK.L1 k v0 n v2_) true
            else
              if 200 < v3.Height then
                ref03_PinsOK.J2 k v2 (fun v2_ => ref03_PinsOK.L1 k v0 n v2_) true
              else
                ref03_PinsOK.J2 k v2 (fun v2_ => ref03_PinsOK.L1 k v0 n v2_) ((v3.Digest.size : Int) != 32)
        else
          if v3.Height < 1 then
            ref03_PinsOK.J2 k v2 (fun v2_ => ref03_PinsOK.L1 k v0 n v2_) true
          else
            if 200 < v3.Height then
              ref03_PinsOK.J2 k v2 (fun v2_ => ref03_PinsOK.L1 k v0 n v2_) true
            else
              ref03_PinsOK.J2 k v2 (fun v2_ => ref03_PinsOK.L1 k v0 n v2_) ((v3.Digest.size : Int) != 32)
    else
      some true
def ref03_PinsOK (k : Nat) (v0 : (List api_Pin)) : Option Bool :=
  ref03_PinsOK.L1 k v0 k 0
def ref03_Check.J1 (k : Nat) : Option Int :=
  some 0
def ref03_Check.J3 (k : Nat) (v4 : Int) (v8 : (List Int)) (v9 : (List api_Pin)) (v10 : ByteArray) (v18 : Bool) : Option Int :=
  if v18 = true then
    some 1
  else
    if v4 ≤ 3 then
      if 0 < (v8.length : Int) then
        some 1
      else
        if 0 < (v9.length : Int) then
          some 1
        else
          if (!strEq v10 (ByteArray.mk #[])) = true then
            some 1
          else
            ref03_Check.J1 k
    else
      ref03_Check.J1 k
def ref03_Check.J2 (k : Nat) (v0 : Int) (v1 : Int) (v2 : ByteArray) (v3 : Int) (v4 : Int) (v5 : Int) (v6 : Int) (v7 : Int) (v8 : (List Int)) (v9 : (List api_Pin)) (v10 : ByteArray) (v11 : Int) (v12 : ByteArray) (v15 : Bool) : Option Int :=
  if v15 = true then
    some 5
  else
    bnd1 (ref03_in k v3 2147483648) fun v16 =>
    if (!v16) = true then
      some 9
    else
      bnd1 (ref03_numbers k v0 v1 v2 v3 v4 v5 v6 v7 v8 v9 v10 v11 v12) fun v17 =>
      if (!v17) = true then
        some 2
      else
        if 64 < (v8.length : Int) then
          some 3
        else
          if 64 < (v9.length : Int) then
            some 3
          else
            if 4096 < (v10.size : Int) then
              some 3
            else
              if v1 = 0 then
                if (!strEq v2 (ByteArray.mk #[])) = true then
                  ref03_Check.J3 k v4 v8 v9 v10 true
                else
                  if 0 < v1 then
                    none
                  else
                    bnd1 (ref03_PinsOK k v9) fun v19 =>
                    ref03_Check.J3 k v4 v8 v9 v10 (!v19)
              else
                if 0 < v1 then
                  if (v2.size : Int) ≠ 32 then
                    ref03_Check.J3 k v4 v8 v9 v10 true
                  else
                    bnd1 (ref03_PinsOK k v9) fun v20 =>
                    ref03_Check.J3 k v4 v8 v9 v10 (!v20)
                else
                  bnd1 (ref03_PinsOK k v9) fun v21 =>
                  ref03_Check.J3 k v4 v8 v9 v10 (!v21)
def ref03_Check (k : Nat) (v0 : Int) (v1 : Int) (v2 : ByteArray) (v3 : Int) (v4 : Int) (v5 : Int) (v6 : Int) (v7 : Int) (v8 : (List Int)) (v9 : (List api_Pin)) (v10 : ByteArray) (v11 : Int) (v12 : ByteArray) : Option Int :=
  bnd1 (ref03_key k v0) fun v14 =>
  if (!v14) = true then
    some 4
  else
    if v4 < 1 then
      ref03_Check.J2 k v0 v1 v2 v3 v4 v5 v6 v7 v8 v9 v10 v11 v12 true
    else
      if 3 < v4 then
        if v4 < 10 then
          ref03_Check.J2 k v0 v1 v2 v3 v4 v5 v6 v7 v8 v9 v10 v11 v12 true
        else
          ref03_Check.J2 k v0 v1 v2 v3 v4 v5 v6 v7 v8 v9 v10 v11 v12 (decide (31 < v4))
      else
        ref03_Check.J2 k v0 v1 v2 v3 v4 v5 v6 v7 v8 v9 v10 v11 v12 (decide (31 < v4))
def ref03_Sealed (k : Nat) (v0 : Int) (v1 : Int) (v2 : ByteArray) (v3 : Int) (v4 : Int) (v5 : Int) (v6 : Int) (v7 : Int) (v8 : (List Int)) (v9 : (List api_Pin)) (v10 : ByteArray) (v11 : Int) (v12 : ByteArray) : Option Bool :=
  if v11 = v0 then
    bnd1 (ref03_Digest k v0 v1 v2 v3 v4 v5 v6 v7 v8 v9 v10 v11 v12) fun v14 =>
    some (strEq v12 v14)
  else
    some false
def ref24_Valid.J2 (k : Nat) (v2 : Int) (kb1 : Int → Option Bool) : Option Bool :=
  kb1 (IntKind.wrap .i64 (v2 + 1))
def ref24_Valid.L1 (k : Nat) (v0 : (List Int)) : Nat → Int → Option Bool
  | 0, _ => none
  | n + 1, v2 =>
    if v2 < (v0.length : Int) then
      idx v0 v2 fun v3 =>
      if v3 < 0 then
        some false
      else
        if 64 ≤ v3 then
          some false
        else
          if 0 < v2 then
            idx v0 (IntKind.wrap .i64 (v2 - 1)) fun v4 =>
            if v3 ≤ v4 then
              some false
            else
              ref24_Valid.J2 k v2 (fun v2_ => ref24_Valid.L1 k v0 n v2_)
          else
            ref24_Valid.J2 k v2 (fun v2_ => ref24_Valid.L1 k v0 n v2_)
    else
      some true
def ref24_Valid (k : Nat) (v0 : (List Int)) : Option Bool :=
  if (v0.length : Int) = 0 then
    some false
  else
    if 64 < (v0.length : Int) then
      some false
    else
      ref24_Valid.L1 k v0 k 0
def ref34_Valid (k : Nat) (v0 : Int) (v1 : Int) (v2 : (List Int)) : Option Bool :=
  if 0 ≤ v0 then
    if v0 < 64 then
      if (v2.length : Int) ≤ 12 then
        bnd1 (ref24_Valid k v2) fun v4 =>
        if v4 = true then
          bnd1 (ref24_Has k v2 v0) fun v5 =>
          if (!v5) = true then
            if 1 ≤ v1 then
              some (decide (v1 ≤ (v2.length : Int)))
            else
              some false
          else
            some false
        else
          some false
      else
        some false
    else
      some false
  else
    some false
def ref34_Of (k : Nat) (v0 : Int) (v1 : Int) (v2 : ByteArray) (v3 : Int) (v4 : Int) (v5 : Int) (v6 : Int) (v7 : Int) (v8 : (List Int)) (v9 : (List api_Pin)) (v10 : ByteArray) (v11 : Int) (v12 : ByteArray) : Option (Int × Int × (List Int) × Int) :=
  bnd1 (ref03_Check k v0 v1 v2 v3 v4 v5 v6 v7 v8 v9 v10 v11 v12) fun v17 =>
  if v17 ≠ 0 then
    some (0, 0, ([] : List Int), v17)
  else
    chk (v8.length * 8 ≤ 140737488355328) <|
    bnd1 (ref03_Sealed k v0 v1 v2 v3 v4 v5 v6 v7 v8 v9 v10 v11 v12) fun v18 =>
    if (!v18) = true then
      some (0, 0, ([] : List Int), 47)
    else
      if v4 ≠ 12 then
        some (0, 0, ([] : List Int), 47)
      else
        if v6 ≠ 0 then
          some (0, 0, ([] : List Int), 47)
        else
          if v7 ≠ 0 then
            some (0, 0, ([] : List Int), 47)
          else
            if (v9.length : Int) ≠ 0 then
              some (0, 0, ([] : List Int), 47)
            else
              if (!strEq v10 (ByteArray.mk #[])) = true then
                some (0, 0, ([] : List Int), 47)
              else
                bnd1 (ref34_Valid k v0 v5 v8) fun v19 =>
                if (!v19) = true then
                  some (0, 0, ([] : List Int), 47)
                else
                  some (v0, v5, v8, 0)
def ref23_SameInts.L1 (k : Nat) (v0 : (List Int)) (v1 : (List Int)) : Nat → Int → Option Bool
  | 0, _ => none
  | n + 1, v3 =>
    if v3 < (v0.length : Int) then
      idx v0 v3 fun v4 =>
      idx v1 v3 fun v5 =>
      if v4 ≠ v5 then
        some false
      else
        ref23_SameInts.L1 k v0 v1 n (IntKind.wrap .i64 (v3 + 1))
    else
      some true
def ref23_SameInts (k : Nat) (v0 : (List Int)) (v1 : (List Int)) : Option Bool :=
  if (v0.length : Int) ≠ (v1.length : Int) then
    some false
  else
    ref23_SameInts.L1 k v0 v1 k 0
def ref34_Same.L1 (k : Nat) (v0 : (List api_Guard)) (v1 : (List api_Guard)) : Nat → Int → Option Bool
  | 0, _ => none
  | n + 1, v3 =>
    if v3 < (v0.length : Int) then
      idx v0 v3 fun v4 =>
      idx v1 v3 fun v5 =>
      if v4.Owner ≠ v5.Owner then
        some false
      else
        if v4.Need ≠ v5.Need then
          some false
        else
          bnd1 (ref23_SameInts k v4.Guardians v5.Guardians) fun v6 =>
          if (!v6) = true then
            some false
          else
            ref34_Same.L1 k v0 v1 n (IntKind.wrap .i64 (v3 + 1))
    else
      some true
def ref34_Same (k : Nat) (v0 : (List api_Guard)) (v1 : (List api_Guard)) : Option Bool :=
  if (v0.length : Int) ≠ (v1.length : Int) then
    some false
  else
    ref34_Same.L1 k v0 v1 k 0
def guardian_All.J2 (k : Nat) (v2 : Int) (kb1 : Int → (List (Int × api_Guard)) → Option (List api_Guard)) (v4 : (List (Int × api_Guard))) : Option (List api_Guard) :=
  kb1 (IntKind.wrap .i64 (v2 + 1)) v4
def guardian_All.J4 (k : Nat) (v10 : Int) (kb3 : Int → (List api_Guard) → Option (List api_Guard)) (v12 : (List api_Guard)) : Option (List api_Guard) :=
  kb3 (IntKind.wrap .i64 (v10 + 1)) v12
def guardian_All.J5 (k : Nat) (v10 : Int) (v11 : (List api_Guard)) (kb3 : Int → (List api_Guard) → Option (List api_Guard)) (v13 : Int) (v14 : Int) (v15 : (List Int)) (v16 : Bool) : Option (List api_Guard) :=
  if v16 = true then
    chk ((v11.length + ([(api_Guard.mk v13 v14 v15)] : List api_Guard).length) * 40 ≤ 140737488355328) <|
    guardian_All.J4 k v10 kb3 (v11 ++ ([(api_Guard.mk v13 v14 v15)] : List api_Guard))
  else
    guardian_All.J4 k v10 kb3 v11
def guardian_All.L3 (k : Nat) (v3 : (List (Int × api_Guard))) : Nat → Int → (List api_Guard) → Option (List api_Guard)
  | 0, _, _ => none
  | n + 1, v10, v11 =>
    if v10 < 64 then
      opt2 (mget v3 v10) (fun v17 =>
        guardian_All.J5 k v10 v11 (fun v10_ v11_ => guardian_All.L3 k v3 n v10_ v11_) v17.Owner v17.Need v17.Guardians true
      ) <|
      guardian_All.J5 k v10 v11 (fun v10_ v11_ => guardian_All.L3 k v3 n v10_ v11_) 0 0 ([] : List Int) false
    else
      some v11
def guardian_All.L1 (k : Nat) (v0 : (List api_Statement)) : Nat → Int → (List (Int × api_Guard)) → Option (List api_Guard)
  | 0, _, _ => none
  | n + 1, v2, v3 =>
    if v2 < (v0.length : Int) then
      idx v0 v2 fun v5 =>
      bnd4 (guardian_Of k v5.Author v5.Number v5.Prev v5.Time v5.Kind v5.A v5.B v5.C v5.Lst v5.Pins v5.Body v5.Seal_Key v5.Seal_Digest) fun v6 v7 v8 v9 =>
      if v9 = 0 then
        guardian_All.J2 k v2 (fun v2_ v3_ => guardian_All.L1 k v0 n v2_ v3_) (mput v3 v6 (api_Guard.mk v6 v7 v8))
      else
        guardian_All.J2 k v2 (fun v2_ v3_ => guardian_All.L1 k v0 n v2_ v3_) v3
    else
      guardian_All.L3 k v3 k 0 ([] : List api_Guard)
def guardian_All (k : Nat) (v0 : (List api_Statement)) : Option (List api_Guard) :=
  guardian_All.L1 k v0 k 0 ([] : (List (Int × api_Guard)))
def ref34_All.J2 (k : Nat) (v2 : Int) (kb1 : Int → (List api_Guard) → Option (List api_Guard)) (v4 : (List api_Guard)) : Option (List api_Guard) :=
  kb1 (IntKind.wrap .i64 (v2 + 1)) v4
def ref34_All.J4 (k : Nat) (v6 : Int) (kb3 : Bool → Int → Int → Int → (List Int) → Option (List api_Guard)) (v10 : Int) (v11 : Int) (v12 : (List Int)) (v13 : Bool) : Option (List api_Guard) :=
  kb3 v13 (IntKind.wrap .i64 (v6 + 1)) v10 v11 v12
def ref34_All.L3 (k : Nat) (v0 : (List api_Statement)) (v2 : Int) (v3 : (List api_Guard)) (kb1 : Int → (List api_Guard) → Option (List api_Guard)) : Nat → Bool → Int → Int → Int → (List Int) → Option (List api_Guard)
  | 0, _, _, _, _, _ => none
  | n + 1, v5, v6, v7, v8, v9 =>
    if v6 < (v0.length : Int) then
      idx v0 v6 fun v14 =>
      if v14.Author ≠ v2 then
        ref34_All.J4 k v6 (fun v5_ v6_ v7_ v8_ v9_ => ref34_All.L3 k v0 v2 v3 kb1 n v5_ v6_ v7_ v8_ v9_) v7 v8 v9 v5
      else
        bnd4 (ref34_Of k v14.Author v14.Number v14.Prev v14.Time v14.Kind v14.A v14.B v14.C v14.Lst v14.Pins v14.Body v14.Seal_Key v14.Seal_Digest) fun v15 v16 v17 v18 =>
        if v18 = 0 then
          ref34_All.J4 k v6 (fun v5_ v6_ v7_ v8_ v9_ => ref34_All.L3 k v0 v2 v3 kb1 n v5_ v6_ v7_ v8_ v9_) v15 v16 v17 true
        else
          ref34_All.J4 k v6 (fun v5_ v6_ v7_ v8_ v9_ => ref34_All.L3 k v0 v2 v3 kb1 n v5_ v6_ v7_ v8_ v9_) v7 v8 v9 v5
    else
      if v5 = true then
        chk ((v3.length + ([(api_Guard.mk v7 v8 v9)] : List api_Guard).length) * 40 ≤ 140737488355328) <|
        ref34_All.J2 k v2 kb1 (v3 ++ ([(api_Guard.mk v7 v8 v9)] : List api_Guard))
      else
        ref34_All.J2 k v2 kb1 v3
def ref34_All.L1 (k : Nat) (v0 : (List api_Statement)) : Nat → Int → (List api_Guard) → Option (List api_Guard)
  | 0, _, _ => none
  | n + 1, v2, v3 =>
    if v2 < 64 then
      ref34_All.L3 k v0 v2 v3 (fun v2_ v3_ => ref34_All.L1 k v0 n v2_ v3_) k false 0 0 0 ([] : List Int)
    else
      some v3
def ref34_All (k : Nat) (v0 : (List api_Statement)) : Option (List api_Guard) :=
  ref34_All.L1 k v0 k 0 ([] : List api_Guard)
def law34_GuardianAll.J2 (k : Nat) (v10 : Int) (v12 : (List api_Statement)) (v21 : api_Statement) (kb1 : Int → Int → (List api_Statement) → Option Bool) (v22 : Int) (v23 : Int) (v24 : Int) (v25 : Int) : Option Bool :=
  chk ((v12.length + ([(api_Statement.mk v21.Author v21.Number v21.Prev v21.Time v23 v21.A v24 v21.C v21.Lst v21.Pins v21.Body v25 v21.Seal_Digest)] : List api_Statement).length) * 160 ≤ 140737488355328) <|
  kb1 (IntKind.wrap .i64 (v10 - 1)) v22 (v12 ++ ([(api_Statement.mk v21.Author v21.Number v21.Prev v21.Time v23 v21.A v24 v21.C v21.Lst v21.Pins v21.Body v25 v21.Seal_Digest)] : List api_Statement))
def law34_GuardianAll.L3 (k : Nat) (v1 : (List api_Statement)) (v12 : (List api_Statement)) : Nat → Int → Option Bool
  | 0, _ => none
  | n + 1, v28 =>
    if v28 < ((v12 ++ v1).length : Int) then
      idx (v12 ++ v1) v28 fun v29 =>
      bnd4 (guardian_Of k v29.Author v29.Number v29.Prev v29.Time v29.Kind v29.A v29.B v29.C v29.Lst v29.Pins v29.Body v29.Seal_Key v29.Seal_Digest) fun v30 v31 v32 v33 =>
      bnd4 (ref34_Of k v29.Author v29.Number v29.Prev v29.Time v29.Kind v29.A v29.B v29.C v29.Lst v29.Pins v29.Body v29.Seal_Key v29.Seal_Digest) fun v34 v35 v36 v37 =>
      if v33 ≠ v37 then
        some false
      else
        bnd1 (ref34_Same k ([(api_Guard.mk v30 v31 v32)] : List api_Guard) ([(api_Guard.mk v34 v35 v36)] : List api_Guard)) fun v38 =>
        if (!v38) = true then
          some false
        else
          law34_GuardianAll.L3 k v1 v12 n (IntKind.wrap .i64 (v28 + 1))
    else
      bnd1 (guardian_All k (v12 ++ v1)) fun v39 =>
      bnd1 (ref34_All k (v12 ++ v1)) fun v40 =>
      bnd1 (ref34_Same k v39 v40) fun v41 =>
      if v41 = true then
        bnd1 (law34_awake k) fun v42 =>
        some v42
      else
        some false
def law34_GuardianAll.L1 (k : Nat) (v1 : (List api_Statement)) (v6 : (List Int)) : Nat → Int → Int → (List api_Statement) → Option Bool
  | 0, _, _, _ => none
  | n + 1, v10, v11, v12 =>
    if 0 < v10 then
      bnd4 (law34_guard k v6 v11) fun v13 v14 v15 v16 =>
      bnd1 (mill_Mod k v13 64) fun v17 =>
      bnd2 (made_Dice_Next k v6 v16 3) fun v18 v19 =>
      let1 (if 0 < v14 then v14 else 0) fun v20 =>
      bnd1 (mill_Statement k v17 v18 0 12 v20 0 0 v15 ([] : List api_Pin)) fun v21 =>
      bnd2 (made_Dice_Next k v6 v19 8) fun v26 v27 =>
      if v26 = 0 then
        law34_GuardianAll.J2 k v10 v12 v21 (fun v10_ v11_ v12_ => law34_GuardianAll.L1 k v1 v6 n v10_ v11_ v12_) v27 v21.Kind 1 v21.Seal_Key
      else
        if v26 = 1 then
          law34_GuardianAll.J2 k v10 v12 v21 (fun v10_ v11_ v12_ => law34_GuardianAll.L1 k v1 v6 n v10_ v11_ v12_) v27 v21.Kind v21.B 50
        else
          if v26 = 2 then
            law34_GuardianAll.J2 k v10 v12 v21 (fun v10_ v11_ v12_ => law34_GuardianAll.L1 k v1 v6 n v10_ v11_ v12_) v27 11 v21.B v21.Seal_Key
          else
            law34_GuardianAll.J2 k v10 v12 v21 (fun v10_ v11_ v12_ => law34_GuardianAll.L1 k v1 v6 n v10_ v11_ v12_) v27 v21.Kind v21.B v21.Seal_Key
    else
      chk ((v12.length + v1.length) * 160 ≤ 140737488355328) <|
      law34_GuardianAll.L3 k v1 v12 k 0
def law34_GuardianAll (k : Nat) (v0 : (List Int)) (v1 : (List api_Statement)) : Option Bool :=
  bnd1 (mill_Light k v0) fun v3 =>
  if (!v3) = true then
    bnd1 (law34_awake k) fun v4 =>
    some v4
  else
    if 10 < (v1.length : Int) then
      bnd1 (law34_awake k) fun v5 =>
      some v5
    else
      bnd2 (mill_Roll k v0) fun v6 v7 =>
      bnd2 (made_Dice_Next k v6 v7 7) fun v8 v9 =>
      law34_GuardianAll.L1 k v1 v6 k v8 v9 ([] : List api_Statement)
end Go.TF
