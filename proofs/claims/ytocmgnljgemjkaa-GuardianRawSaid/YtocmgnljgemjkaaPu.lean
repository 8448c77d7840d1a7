/- The Go functions as Lean functions (printed by a program of our own). -/
import Derived.Test.YtocmgnljgemjkaaAbsV
set_option linter.unusedVariables false
set_option maxRecDepth 100000
namespace Go.TF
open Go Go.Abs
structure api_Pin where
  Author : Int
  Height : Int
  Digest : ByteArray
@[simp] def api_Pin.av (x : api_Pin) : AV := AV.agg [AV.int .i64 x.Author, AV.int .i64 x.Height, AV.str x.Digest]
@[simp] theorem api_Pin.okEls (l : List api_Pin) : okEls 3 (l.map api_Pin.av) ↔ True := iff_true_intro (okEls_iff.2 fun x hx => by
  simp only [List.mem_map] at hx
  obtain ⟨b, _, rfl⟩ := hx
  simp)
@[simp] theorem api_Pin.ids (S : Nat → Prop) (l : List api_Pin) : idsInL S (l.map api_Pin.av) ↔ True := iff_true_intro (ids_map_of (by simp) l)
def mill_Light (k : Nat) (v0 : (List Int)) : Option Bool :=
  some (decide ((v0.length : Int) ≤ 400))
def guardian_key (k : Nat) (v0 : Int) : Option Bool :=
  if 0 ≤ v0 then
    some (decide (v0 < 64))
  else
    some false
def guardian_Valid.J2 (k : Nat) (v4 : Int) (kb1 : Int → Option Bool) : Option Bool :=
  kb1 (IntKind.wrap .i64 (v4 + 1))
def guardian_Valid.L1 (k : Nat) (v0 : Int) (v1 : Int) (v2 : (List Int)) : Nat → Int → Option Bool
  | 0, _ => none
  | n + 1, v4 =>
    if v4 < (v2.length : Int) then
      idx v2 v4 fun v5 =>
      bnd1 (guardian_key k v5) fun v6 =>
      if (!v6) = true then
        some false
      else
        if v5 = v0 then
          some false
        else
          if 0 < v4 then
            idx v2 (IntKind.wrap .i64 (v4 - 1)) fun v7 =>
            if v5 ≤ v7 then
              some false
            else
              guardian_Valid.J2 k v4 (fun v4_ => guardian_Valid.L1 k v0 v1 v2 n v4_)
          else
            guardian_Valid.J2 k v4 (fun v4_ => guardian_Valid.L1 k v0 v1 v2 n v4_)
    else
      bnd1 (guardian_key k v0) fun v8 =>
      if v8 = true then
        if 1 ≤ (v2.length : Int) then
          if (v2.length : Int) ≤ 12 then
            if 1 ≤ v1 then
              some (decide (v1 ≤ (v2.length : Int)))
            else
              some false
          else
            some false
        else
          some false
      else
        some false
def guardian_Valid (k : Nat) (v0 : Int) (v1 : Int) (v2 : (List Int)) : Option Bool :=
  guardian_Valid.L1 k v0 v1 v2 k 0
def guardian_Enough.J2 (k : Nat) (v7 : Int) (kb1 : Int → Int → Option Bool) (v8 : Int) : Option Bool :=
  kb1 v8 (IntKind.wrap .i64 (v7 + 1))
def guardian_Enough.L3 (k : Nat) (v3 : (List Int)) (v6 : Int) (v7 : Int) (v9 : Int) (kb1 : Int → Int → Option Bool) : Nat → Int → Option Bool
  | 0, _ => none
  | n + 1, v10 =>
    if v10 < (v3.length : Int) then
      idx v3 v10 fun v11 =>
      if v11 = v9 then
        guardian_Enough.J2 k v7 kb1 (IntKind.wrap .i64 (v6 + 1))
      else
        guardian_Enough.L3 k v3 v6 v7 v9 kb1 n (IntKind.wrap .i64 (v10 + 1))
    else
      guardian_Enough.J2 k v7 kb1 v6
def guardian_Enough.L1 (k : Nat) (v1 : Int) (v2 : (List Int)) (v3 : (List Int)) : Nat → Int → Int → Option Bool
  | 0, _, _ => none
  | n + 1, v6, v7 =>
    if v7 < (v2.length : Int) then
      idx v2 v7 fun v9 =>
      guardian_Enough.L3 k v3 v6 v7 v9 (fun v6_ v7_ => guardian_Enough.L1 k v1 v2 v3 n v6_ v7_) k 0
    else
      some (decide (v1 ≤ v6))
def guardian_Enough (k : Nat) (v0 : Int) (v1 : Int) (v2 : (List Int)) (v3 : (List Int)) : Option Bool :=
  bnd1 (guardian_Valid k v0 v1 v2) fun v5 =>
  if (!v5) = true then
    some false
  else
    guardian_Enough.L1 k v1 v2 v3 k 0 0
def law34_awake (k : Nat) : Option Bool :=
  bnd1 (guardian_Valid k 1 2 ([3, 4, 5] : List Int)) fun v1 =>
  if v1 = true then
    bnd1 (guardian_Enough k 1 2 ([3, 4, 5] : List Int) ([3, 9] : List Int)) fun v2 =>
    if (!v2) = true then
      bnd1 (guardian_Enough k 1 2 ([3, 4, 5] : List Int) ([3, 5] : List Int)) fun v3 =>
      some v3
    else
      some false
  else
    some false
def made_Roll (k : Nat) (v0 : (List Int)) : Option ((List Int) × Int) :=
  some (v0, 0)
def mill_Roll (k : Nat) (v0 : (List Int)) : Option ((List Int) × Int) :=
  bnd2 (made_Roll k v0) fun v3 v4 =>
  some (v3, v4)
def made_Mod.J1 (k : Nat) (v3 : Int) : Option Int :=
  some v3
def made_Mod (k : Nat) (v0 : Int) (v1 : Int) : Option Int :=
  if v1 < 1 then
    some 0
  else
    chk (v1 ≠ (0 : Int)) <|
    if Int.tmod v0 v1 < 0 then
      made_Mod.J1 k (IntKind.wrap .i64 (Int.tmod v0 v1 + v1))
    else
      made_Mod.J1 k (Int.tmod v0 v1)
def made_Dice_Next (k : Nat) (v0 : (List Int)) (v1 : Int) (v2 : Int) : Option (Int × Int) :=
  if (v0.length : Int) ≤ v1 then
    some (0, v1)
  else
    idx v0 (IntKind.wrap .i64 (IntKind.wrap .i64 (v1 + 1) - 1)) fun v5 =>
    bnd1 (made_Mod k v5 v2) fun v6 =>
    some (v6, IntKind.wrap .i64 (v1 + 1))
def made_Dice_Some.J2 (k : Nat) (v5 : Int) (kb1 : Int → Int → (List Int) → Option ((List Int) × Int)) (v8 : Int) (v9 : (List Int)) : Option ((List Int) × Int) :=
  kb1 (IntKind.wrap .i64 (v5 + 1)) v8 v9
def made_Dice_Some.L1 (k : Nat) (v0 : (List Int)) (v2 : Int) : Nat → Int → Int → (List Int) → Option ((List Int) × Int)
  | 0, _, _, _ => none
  | n + 1, v5, v6, v7 =>
    if v5 < v2 then
      bnd2 (made_Dice_Next k v0 v6 3) fun v10 v11 =>
      if v10 = 0 then
        chk ((v7.length + ([v5] : List Int).length) * 8 ≤ 140737488355328) <|
        made_Dice_Some.J2 k v5 (fun v5_ v6_ v7_ => made_Dice_Some.L1 k v0 v2 n v5_ v6_ v7_) v11 (v7 ++ ([v5] : List Int))
      else
        made_Dice_Some.J2 k v5 (fun v5_ v6_ v7_ => made_Dice_Some.L1 k v0 v2 n v5_ v6_ v7_) v11 v7
    else
      some (v7, v6)
def made_Dice_Some (k : Nat) (v0 : (List Int)) (v1 : Int) (v2 : Int) : Option ((List Int) × Int) :=
  made_Dice_Some.L1 k v0 v2 k 0 v1 ([] : List Int)
def mill_Keys.J1 (k : Nat) (v7 : (List Int)) (v8 : Int) : Option ((List Int) × Int) :=
  some (v7, v8)
def mill_Keys (k : Nat) (v0 : (List Int)) (v1 : Int) (v2 : Int) : Option ((List Int) × Int) :=
  bnd2 (made_Dice_Some k v0 v1 v2) fun v5 v6 =>
  if (v5.length : Int) = 0 then
    bnd2 (made_Dice_Next k v0 v6 v2) fun v9 v10 =>
    mill_Keys.J1 k ([v9] : List Int) v10
  else
    mill_Keys.J1 k v5 v6
def ref24_Has.L1 (k : Nat) (v0 : (List Int)) (v1 : Int) : Nat → Int → Option Bool
  | 0, _ => none
  | n + 1, v3 =>
    if v3 < (v0.length : Int) then
      idx v0 v3 fun v4 =>
      if v4 = v1 then
        some true
      else
        ref24_Has.L1 k v0 v1 n (IntKind.wrap .i64 (v3 + 1))
    else
      some false
def ref24_Has (k : Nat) (v0 : (List Int)) (v1 : Int) : Option Bool :=
  ref24_Has.L1 k v0 v1 k 0
def law34_GuardianNeed.J3 (k : Nat) (v13 : Int) (kb2 : Int → Int → Option Bool) (v14 : Int) : Option Bool :=
  kb2 v14 (IntKind.wrap .i64 (v13 + 1))
def law34_GuardianNeed.L2 (k : Nat) (v6 : (List Int)) (v9 : Int) (v10 : (List Int)) (v11 : Int) (kb1 : Int → Int → Option Bool) : Nat → Int → Int → Option Bool
  | 0, _, _ => none
  | n + 1, v12, v13 =>
    if v13 < (v10.length : Int) then
      chk ((0 : Int) ≤ v13 ∧ (v13).toNat < v10.length) <|
      idx v10 v13 fun v15 =>
      bnd1 (ref24_Has k v6 v15) fun v16 =>
      if v16 = true then
        law34_GuardianNeed.J3 k v13 (fun v12_ v13_ => law34_GuardianNeed.L2 k v6 v9 v10 v11 kb1 n v12_ v13_) (IntKind.wrap .i64 (v12 + 1))
      else
        law34_GuardianNeed.J3 k v13 (fun v12_ v13_ => law34_GuardianNeed.L2 k v6 v9 v10 v11 kb1 n v12_ v13_) v12
    else
      bnd1 (guardian_Valid k 20 v9 v6) fun v17 =>
      if (!v17) = true then
        some false
      else
        bnd1 (guardian_Enough k 20 v9 v6 v10) fun v18 =>
        if (v18 != (decide (v9 ≤ v12))) = true then
          some false
        else
          chk ((v10.length + v10.length) * 8 ≤ 140737488355328) <|
          bnd1 (guardian_Enough k 20 v9 v6 (v10 ++ v10)) fun v19 =>
          if (v19 != (decide (v9 ≤ v12))) = true then
            some false
          else
            kb1 v11 (IntKind.wrap .i64 (v9 + 1))
def law34_GuardianNeed.L1 (k : Nat) (v4 : (List Int)) (v6 : (List Int)) : Nat → Int → Int → Option Bool
  | 0, _, _ => none
  | n + 1, v8, v9 =>
    if v9 ≤ (v6.length : Int) then
      bnd2 (made_Dice_Some k v4 v8 15) fun v10 v11 =>
      law34_GuardianNeed.L2 k v6 v9 v10 v11 (fun v8_ v9_ => law34_GuardianNeed.L1 k v4 v6 n v8_ v9_) k 0 0
    else
      bnd1 (guardian_Valid k 20 v9 v6) fun v20 =>
      if (!v20) = true then
        bnd1 (guardian_Enough k 20 v9 v6 v6) fun v21 =>
        if (!v21) = true then
          bnd1 (law34_awake k) fun v22 =>
          some v22
        else
          some false
      else
        some false
def law34_GuardianNeed (k : Nat) (v0 : (List Int)) : Option Bool :=
  bnd1 (mill_Light k v0) fun v2 =>
  if (!v2) = true then
    bnd1 (law34_awake k) fun v3 =>
    some v3
  else
    bnd2 (mill_Roll k v0) fun v4 v5 =>
    bnd2 (mill_Keys k v4 v5 12) fun v6 v7 =>
    law34_GuardianNeed.L1 k v4 v6 k v7 1
def slices_Clone_byte_byte (k : Nat) (v0 : (List Int)) : Option (List Int) :=
  chk (v0.length * 1 ≤ 140737488355328) <| some v0
def wire_put.L1 (k : Nat) (v1 : Int) : Nat → Int → (List Int) → Option (List Int)
  | 0, _, _ => none
  | n + 1, v3, v4 =>
    if 0 ≤ v3 then
      chk ((0 : Int) ≤ IntKind.wrap .u64 v3) <|
      chk ((v4.length + ([IntKind.wrap .u8 (Int.fdiv (IntKind.wrap .u64 v1) (2 ^ (min ((IntKind.wrap .u64 v3).toNat) 64)))] : List Int).length) * 1 ≤ 140737488355328) <|
      wire_put.L1 k v1 n (IntKind.wrap .i64 (v3 - 8)) (v4 ++ ([IntKind.wrap .u8 (Int.fdiv (IntKind.wrap .u64 v1) (2 ^ (min ((IntKind.wrap .u64 v3).toNat) 64)))] : List Int))
    else
      some v4
def wire_put (k : Nat) (v0 : (List Int)) (v1 : Int) : Option (List Int) :=
  wire_put.L1 k v1 k 56 v0
def wire_Int (k : Nat) (v0 : (List Int)) (v1 : Int) : Option (List Int) :=
  bnd1 (slices_Clone_byte_byte k v0) fun v3 =>
  bnd1 (wire_put k v3 v1) fun v4 =>
  some v4
def wire_Text (k : Nat) (v0 : (List Int)) (v1 : ByteArray) : Option (List Int) :=
  bnd1 (wire_Int k v0 (v1.size : Int)) fun v3 =>
  chk ((v3.length + (bI v1).length) * 1 ≤ 140737488355328) <|
  some (v3 ++ (bI v1))
def wire_TakeInt.L1 (k : Nat) (v0 : (List Int)) : Nat → Int → Int → Option (Int × (List Int) × Bool)
  | 0, _, _ => none
  | n + 1, v4, v5 =>
    if v5 < ((v0.take (8 : Int).toNat).length : Int) then
      idx (v0.take (8 : Int).toNat) v5 fun v6 =>
      wire_TakeInt.L1 k v0 n (bitsV .or .u64 (IntKind.wrap .u64 (v4 * 2 ^ (8))) (IntKind.wrap .u64 v6)) (IntKind.wrap .i64 (v5 + 1))
    else
      chk ((8 : Int) ≤ (v0.length : Int)) <|
      bnd1 (slices_Clone_byte_byte k (v0.drop (8 : Int).toNat)) fun v7 =>
      some (IntKind.wrap .i64 v4, v7, true)
def wire_TakeInt (k : Nat) (v0 : (List Int)) : Option (Int × (List Int) × Bool) :=
  if (v0.length : Int) < 8 then
    some (0, ([] : List Int), false)
  else
    chk ((8 : Int) ≤ (v0.length : Int)) <|
    wire_TakeInt.L1 k v0 k 0 0
def wire_TakeText (k : Nat) (v0 : (List Int)) (v1 : Int) : Option (ByteArray × (List Int) × Bool) :=
  bnd3 (wire_TakeInt k v0) fun v5 v6 v7 =>
  if (!v7) = true then
    some ((ByteArray.mk #[]), ([] : List Int), false)
  else
    if v5 < 0 then
      some ((ByteArray.mk #[]), ([] : List Int), false)
    else
      if v1 < v5 then
        some ((ByteArray.mk #[]), ([] : List Int), false)
      else
        if (v6.length : Int) < v5 then
          some ((ByteArray.mk #[]), ([] : List Int), false)
        else
          chk ((0 : Int) ≤ v5 ∧ (v5 : Int) ≤ (v6.length : Int)) <|
          chk ((0 : Int) ≤ v5 ∧ (v5 : Int) ≤ (v6.length : Int)) <|
          some (ofI (v6.take (v5).toNat), v6.drop (v5).toNat, true)
def law02_awake (k : Nat) : Option Bool :=
  bnd1 (wire_Text k ([] : List Int) (ByteArray.mk #[97, 98])) fun v1 =>
  bnd3 (wire_TakeText k v1 5) fun v2 v3 v4 =>
  if (v1.length : Int) = 10 then
    idx v1 7 fun v5 =>
    if v5 = 2 then
      idx v1 9 fun v6 =>
      if v6 = 98 then
        if v4 = true then
          if (strEq v2 (ByteArray.mk #[97, 98])) = true then
            some ((v3.length : Int) == 0)
          else
            some false
        else
          some false
      else
        some false
    else
      some false
  else
    some false
def ref02_Int.L1 (k : Nat) (v1 : Int) : Nat → Int → (List Int) → Option (List Int)
  | 0, _, _ => none
  | n + 1, v3, v4 =>
    if 0 ≤ v3 then
      chk ((0 : Int) ≤ IntKind.wrap .u64 (IntKind.wrap .i64 (8 * v3))) <|
      chk ((v4.length + ([IntKind.wrap .u8 (Int.fdiv v1 (2 ^ (min ((IntKind.wrap .u64 (IntKind.wrap .i64 (8 * v3))).toNat) 64)))] : List Int).length) * 1 ≤ 140737488355328) <|
      ref02_Int.L1 k v1 n (IntKind.wrap .i64 (v3 - 1)) (v4 ++ ([IntKind.wrap .u8 (Int.fdiv v1 (2 ^ (min ((IntKind.wrap .u64 (IntKind.wrap .i64 (8 * v3))).toNat) 64)))] : List Int))
    else
      some v4
def ref02_Int (k : Nat) (v0 : (List Int)) (v1 : Int) : Option (List Int) :=
  chk (v0.length * 1 ≤ 140737488355328) <|
  ref02_Int.L1 k v1 k 7 v0
def ref02_Text (k : Nat) (v0 : (List Int)) (v1 : ByteArray) : Option (List Int) :=
  bnd1 (ref02_Int k v0 (v1.size : Int)) fun v3 =>
  chk ((v3.length + (bI v1).length) * 1 ≤ 140737488355328) <|
  some (v3 ++ (bI v1))
def wire_Ints.L1 (k : Nat) (v1 : (List Int)) : Nat → Int → (List Int) → Option (List Int)
  | 0, _, _ => none
  | n + 1, v4, v5 =>
    if v4 < (v1.length : Int) then
      idx v1 v4 fun v6 =>
      bnd1 (wire_put k v5 v6) fun v7 =>
      wire_Ints.L1 k v1 n (IntKind.wrap .i64 (v4 + 1)) v7
    else
      some v5
def wire_Ints (k : Nat) (v0 : (List Int)) (v1 : (List Int)) : Option (List Int) :=
  bnd1 (wire_Int k v0 (v1.length : Int)) fun v3 =>
  wire_Ints.L1 k v1 k 0 v3
def ref02_Ints.L1 (k : Nat) (v1 : (List Int)) : Nat → (List Int) → Int → Option (List Int)
  | 0, _, _ => none
  | n + 1, v4, v5 =>
    if v5 < (v1.length : Int) then
      idx v1 v5 fun v6 =>
      bnd1 (ref02_Int k v4 v6) fun v7 =>
      ref02_Ints.L1 k v1 n v7 (IntKind.wrap .i64 (v5 + 1))
    else
      some v4
def ref02_Ints (k : Nat) (v0 : (List Int)) (v1 : (List Int)) : Option (List Int) :=
  bnd1 (ref02_Int k v0 (v1.length : Int)) fun v3 =>
  ref02_Ints.L1 k v1 k v3 0
def law02_WireWrites.J1 (k : Nat) (v0 : (List Int)) (v1 : ByteArray) (v2 : (List Int)) (v7 : Int) : Option Bool :=
  bnd1 (law02_awake k) fun v8 =>
  if v8 = true then
    bnd1 (wire_Int k v0 v7) fun v9 =>
    bnd1 (ref02_Int k v0 v7) fun v10 =>
    if (strEq (ofI v9) (ofI v10)) = true then
      bnd1 (wire_Text k v0 v1) fun v11 =>
      bnd1 (ref02_Text k v0 v1) fun v12 =>
      if (strEq (ofI v11) (ofI v12)) = true then
        bnd1 (wire_Ints k v0 v2) fun v13 =>
        bnd1 (ref02_Ints k v0 v2) fun v14 =>
        some (strEq (ofI v13) (ofI v14))
      else
        some false
    else
      some false
  else
    some false
def law02_WireWrites (k : Nat) (v0 : (List Int)) (v1 : ByteArray) (v2 : (List Int)) : Option Bool :=
  if 100 < (v0.length : Int) then
    bnd1 (law02_awake k) fun v4 =>
    some v4
  else
    if 100 < (v1.size : Int) then
      bnd1 (law02_awake k) fun v5 =>
      some v5
    else
      if 60 < (v2.length : Int) then
        bnd1 (law02_awake k) fun v6 =>
        some v6
      else
        if 0 < (v2.length : Int) then
          idx v2 0 fun v15 =>
          law02_WireWrites.J1 k v0 v1 v2 v15
        else
          law02_WireWrites.J1 k v0 v1 v2 (v0.length : Int)
def made_Light (k : Nat) (v0 : (List Int)) : Option Bool :=
  some (decide ((v0.length : Int) ≤ 400))
def made_Dice_Of (k : Nat) (v0 : (List Int)) (v1 : Int) (v2 : (List Int)) : Option (Int × Int) :=
  bnd2 (made_Dice_Next k v0 v1 (v2.length : Int)) fun v5 v6 =>
  idx v2 v5 fun v7 =>
  some (v7, v6)
def made_Dice_Bytes.L1 (k : Nat) (v0 : (List Int)) : Nat → Int → Int → (List Int) → Option ((List Int) × Int)
  | 0, _, _, _ => none
  | n + 1, v7, v8, v9 =>
    if 0 < v7 then
      bnd2 (made_Dice_Of k v0 v8 ([0, 1, 255, 7, 128, 126, 32] : List Int)) fun v10 v11 =>
      chk ((v9.length + ([IntKind.wrap .u8 v10] : List Int).length) * 1 ≤ 140737488355328) <|
      made_Dice_Bytes.L1 k v0 n (IntKind.wrap .i64 (v7 - 1)) v11 (v9 ++ ([IntKind.wrap .u8 v10] : List Int))
    else
      some (v9, v8)
def made_Dice_Bytes (k : Nat) (v0 : (List Int)) (v1 : Int) (v2 : Int) : Option ((List Int) × Int) :=
  bnd2 (made_Dice_Next k v0 v1 (IntKind.wrap .i64 (v2 + 1))) fun v5 v6 =>
  made_Dice_Bytes.L1 k v0 k v5 v6 ([] : List Int)
def law02_sameInts.L1 (k : Nat) (v0 : (List Int)) (v1 : (List Int)) : Nat → Int → Option Bool
  | 0, _ => none
  | n + 1, v3 =>
    if v3 < (v0.length : Int) then
      idx v0 v3 fun v4 =>
      idx v1 v3 fun v5 =>
      if v4 ≠ v5 then
        some false
      else
        law02_sameInts.L1 k v0 v1 n (IntKind.wrap .i64 (v3 + 1))
    else
      some true
def law02_sameInts (k : Nat) (v0 : (List Int)) (v1 : (List Int)) : Option Bool :=
  if (v0.length : Int) ≠ (v1.length : Int) then
    some false
  else
    law02_sameInts.L1 k v0 v1 k 0
def law02_WireApart (k : Nat) (v0 : (List Int)) (v1 : (List Int)) : Option Bool :=
  bnd1 (made_Light k v0) fun v3 =>
  if (!v3) = true then
    bnd1 (law02_awake k) fun v4 =>
    some v4
  else
    bnd1 (made_Light k v1) fun v5 =>
    if (!v5) = true then
      bnd1 (law02_awake k) fun v6 =>
      some v6
    else
      bnd2 (made_Roll k v0) fun v7 v8 =>
      bnd2 (made_Roll k v1) fun v9 v10 =>
      bnd2 (made_Dice_Next k v7 v8 5) fun v11 v12 =>
      bnd2 (made_Dice_Bytes k v7 v12 4) fun v13 v14 =>
      bnd2 (made_Dice_Some k v7 v14 4) fun v15 v16 =>
      bnd2 (made_Dice_Next k v9 v10 5) fun v17 v18 =>
      bnd2 (made_Dice_Bytes k v9 v18 4) fun v19 v20 =>
      bnd2 (made_Dice_Some k v9 v20 4) fun v21 v22 =>
      bnd1 (wire_Int k ([] : List Int) v11) fun v23 =>
      bnd1 (wire_Text k v23 (ofI v13)) fun v24 =>
      bnd1 (wire_Ints k v24 v15) fun v25 =>
      bnd1 (wire_Int k ([] : List Int) v17) fun v26 =>
      bnd1 (wire_Text k v26 (ofI v19)) fun v27 =>
      bnd1 (wire_Ints k v27 v21) fun v28 =>
      bnd1 (law02_awake k) fun v29 =>
      if v29 = true then
        if v11 = v17 then
          if (strEq (ofI v13) (ofI v19)) = true then
            bnd1 (law02_sameInts k v15 v21) fun v30 =>
            some ((strEq (ofI v25) (ofI v28)) == v30)
          else
            some ((strEq (ofI v25) (ofI v28)) == false)
        else
          some ((strEq (ofI v25) (ofI v28)) == false)
      else
        some false
def ref24_Minus.J2 (k : Nat) (v3 : Int) (kb1 : Int → (List Int) → Option (List Int)) (v5 : (List Int)) : Option (List Int) :=
  kb1 (IntKind.wrap .i64 (v3 + 1)) v5
def ref24_Minus.L1 (k : Nat) (v0 : (List Int)) (v1 : (List Int)) : Nat → Int → (List Int) → Option (List Int)
  | 0, _, _ => none
  | n + 1, v3, v4 =>
    if v3 < 64 then
      bnd1 (ref24_Has k v0 v3) fun v6 =>
      if v6 = true then
        bnd1 (ref24_Has k v1 v3) fun v7 =>
        if (!v7) = true then
          chk ((v4.length + ([v3] : List Int).length) * 8 ≤ 140737488355328) <|
          ref24_Minus.J2 k v3 (fun v3_ v4_ => ref24_Minus.L1 k v0 v1 n v3_ v4_) (v4 ++ ([v3] : List Int))
        else
          ref24_Minus.J2 k v3 (fun v3_ v4_ => ref24_Minus.L1 k v0 v1 n v3_ v4_) v4
      else
        ref24_Minus.J2 k v3 (fun v3_ v4_ => ref24_Minus.L1 k v0 v1 n v3_ v4_) v4
    else
      some v4
def ref24_Minus (k : Nat) (v0 : (List Int)) (v1 : (List Int)) : Option (List Int) :=
  ref24_Minus.L1 k v0 v1 k 0 ([] : List Int)
def law34_guard.J1 (k : Nat) (v14 : Int) (v15 : Int) (v16 : (List Int)) (v17 : Int) : Option (Int × Int × (List Int) × Int) :=
  some (v14, v15, v16, v17)
def law34_guard (k : Nat) (v0 : (List Int)) (v1 : Int) : Option (Int × Int × (List Int) × Int) :=
  bnd2 (made_Dice_Next k v0 v1 6) fun v6 v7 =>
  bnd2 (mill_Keys k v0 v7 7) fun v8 v9 =>
  bnd1 (ref24_Minus k v8 ([v6] : List Int)) fun v10 =>
  let1 (if 1 < (v10.length : Int) then (v10.length : Int) else 1) fun v11 =>
  bnd2 (made_Dice_Next k v0 v9 v11) fun v12 v13 =>
  bnd2 (made_Dice_Next k v0 v13 12) fun v18 v19 =>
  if v18 = 0 then
    bnd2 (made_Dice_Of k v0 v19 ([0, 9, -1] : List Int)) fun v20 v21 =>
    law34_guard.J1 k v6 v20 v10 v21
  else
    if v18 = 1 then
      chk ((v10.length + ([v6] : List Int).length) * 8 ≤ 140737488355328) <|
      law34_guard.J1 k v6 (IntKind.wrap .i64 (1 + v12)) (v10 ++ ([v6] : List Int)) v19
    else
      if v18 = 2 then
        bnd2 (made_Dice_Of k v0 v19 ([-1, 64, 63] : List Int)) fun v22 v23 =>
        law34_guard.J1 k v22 (IntKind.wrap .i64 (1 + v12)) v10 v23
      else
        if v18 = 3 then
          law34_guard.J1 k v6 (IntKind.wrap .i64 (1 + v12)) ([5, 2] : List Int) v19
        else
          if v18 = 4 then
            bnd2 (made_Dice_Next k v0 v19 2) fun v24 v25 =>
            chk ((0 : Int) ≤ IntKind.wrap .i64 (12 + v24) ∧ (IntKind.wrap .i64 (12 + v24) : Int) ≤ (([0, 1, 2, 3, 4, 5, 6, 7, 8, 9, 10, 11, 12] : List Int).length : Int)) <|
            law34_guard.J1 k v6 (IntKind.wrap .i64 (1 + v12)) (([0, 1, 2, 3, 4, 5, 6, 7, 8, 9, 10, 11, 12] : List Int).take (IntKind.wrap .i64 (12 + v24)).toNat) v25
          else
            law34_guard.J1 k v6 (IntKind.wrap .i64 (1 + v12)) v10 v19
def slices_Clone_int_int (k : Nat) (v0 : (List Int)) : Option (List Int) :=
  chk (v0.length * 8 ≤ 140737488355328) <| some v0
def guardian_Draft (k : Nat) (v0 : Int) (v1 : Int) (v2 : (List Int)) : Option (Int × Int × Int × Int × (List Int) × (List api_Pin) × Int) :=
  bnd1 (guardian_Valid k v0 v1 v2) fun v10 =>
  if (!v10) = true then
    some (0, 0, 0, 0, ([] : List Int), ([] : List api_Pin), 47)
  else
    bnd1 (slices_Clone_int_int k v2) fun v11 =>
    some (12, v1, 0, 0, v11, ([] : List api_Pin), 0)
def ref24_Valid.J2 (k : Nat) (v2 : Int) (kb1 : Int → Option Bool) : Option Bool :=
  kb1 (IntKind.wrap .i64 (v2 + 1))
def ref24_Valid.L1 (k : Nat) (v0 : (List Int)) : Nat → Int → Option Bool
  | 0, _ => none
  | n + 1, v2 =>
    if v2 < (v0.length : Int) then
      idx v0 v2 fun v3 =>
      if v3 < 0 then
        some false
      else
        if 64 ≤ v3 then
          some false
        else
          if 0 < v2 then
            idx v0 (IntKind.wrap .i64 (v2 - 1)) fun v4 =>
            if v3 ≤ v4 then
              some false
            else
              ref24_Valid.J2 k v2 (fun v2_ => ref24_Valid.L1 k v0 n v2_)
          else
            ref24_Valid.J2 k v2 (fun v2_ => ref24_Valid.L1 k v0 n v2_)
    else
      some true
def ref24_Valid (k : Nat) (v0 : (List Int)) : Option Bool :=
  if (v0.length : Int) = 0 then
    some false
  else
    if 64 < (v0.length : Int) then
      some false
    else
      ref24_Valid.L1 k v0 k 0
def ref34_Valid (k : Nat) (v0 : Int) (v1 : Int) (v2 : (List Int)) : Option Bool :=
  if 0 ≤ v0 then
    if v0 < 64 then
      if (v2.length : Int) ≤ 12 then
        bnd1 (ref24_Valid k v2) fun v4 =>
        if v4 = true then
          bnd1 (ref24_Has k v2 v0) fun v5 =>
          if (!v5) = true then
            if 1 ≤ v1 then
              some (decide (v1 ≤ (v2.length : Int)))
            else
              some false
          else
            some false
        else
          some false
      else
        some false
    else
      some false
  else
    some false
def ref34_Draft (k : Nat) (v0 : Int) (v1 : Int) (v2 : (List Int)) : Option (Int × Int × Int × Int × (List Int) × (List api_Pin) × Int) :=
  bnd1 (ref34_Valid k v0 v1 v2) fun v10 =>
  if (!v10) = true then
    some (0, 0, 0, 0, ([] : List Int), ([] : List api_Pin), 47)
  else
    chk (v2.length * 8 ≤ 140737488355328) <|
    some (12, v1, 0, 0, v2, ([] : List api_Pin), 0)
def ref23_cmp (k : Nat) (v0 : Int) (v1 : Int) : Option Int :=
  if v0 < v1 then
    some (-1)
  else
    if v1 < v0 then
      some 1
    else
      some 0
def ref23_Order.J2 (k : Nat) (v1 : (List api_Pin)) (v3 : (List api_Pin)) : Option Int :=
  bnd1 (ref23_cmp k (v1.length : Int) (v3.length : Int)) fun v6 =>
  some v6
def ref23_Order.L3 (k : Nat) (v1 : (List api_Pin)) (v3 : (List api_Pin)) : Nat → Int → Option Int
  | 0, _ => none
  | n + 1, v7 =>
    if v7 < (v1.length : Int) then
      if v7 < (v3.length : Int) then
        idx v1 v7 fun v8 =>
        idx v3 v7 fun v9 =>
        bnd1 (ref23_cmp k v8.Author v9.Author) fun v10 =>
        if v10 ≠ 0 then
          some v10
        else
          bnd1 (ref23_cmp k v8.Height v9.Height) fun v11 =>
          if v11 ≠ 0 then
            some v11
          else
            if (!strEq v8.Digest v9.Digest) = true then
              if (strLt v8.Digest v9.Digest) = true then
                some (-1)
              else
                some 1
            else
              ref23_Order.L3 k v1 v3 n (IntKind.wrap .i64 (v7 + 1))
      else
        ref23_Order.J2 k v1 v3
    else
      ref23_Order.J2 k v1 v3
def ref23_Order.J1 (k : Nat) (v0 : (List Int)) (v1 : (List api_Pin)) (v2 : (List Int)) (v3 : (List api_Pin)) : Option Int :=
  bnd1 (ref23_cmp k (v0.length : Int) (v2.length : Int)) fun v5 =>
  if v5 ≠ 0 then
    some v5
  else
    ref23_Order.L3 k v1 v3 k 0
def ref23_Order.L4 (k : Nat) (v0 : (List Int)) (v1 : (List api_Pin)) (v2 : (List Int)) (v3 : (List api_Pin)) : Nat → Int → Option Int
  | 0, _ => none
  | n + 1, v12 =>
    if v12 < (v0.length : Int) then
      if v12 < (v2.length : Int) then
        idx v0 v12 fun v13 =>
        idx v2 v12 fun v14 =>
        bnd1 (ref23_cmp k v13 v14) fun v15 =>
        if v15 ≠ 0 then
          some v15
        else
          ref23_Order.L4 k v0 v1 v2 v3 n (IntKind.wrap .i64 (v12 + 1))
      else
        ref23_Order.J1 k v0 v1 v2 v3
    else
      ref23_Order.J1 k v0 v1 v2 v3
def ref23_Order (k : Nat) (v0 : (List Int)) (v1 : (List api_Pin)) (v2 : (List Int)) (v3 : (List api_Pin)) : Option Int :=
  ref23_Order.L4 k v0 v1 v2 v3 k 0
def ref23_SameDraft (k : Nat) (v0 : Int) (v1 : Int) (v2 : Int) (v3 : Int) (v4 : (List Int)) (v5 : (List api_Pin)) (v6 : Int) (v7 : Int) (v8 : Int) (v9 : Int) (v10 : (List Int)) (v11 : (List api_Pin)) : Option Bool :=
  if v0 = v6 then
    if v1 = v7 then
      if v2 = v8 then
        if v3 = v9 then
          bnd1 (ref23_Order k v4 v5 v10 v11) fun v13 =>
          some (v13 == 0)
        else
          some false
      else
        some false
    else
      some false
  else
    some false
def ref34_Voices.J2 (k : Nat) (v6 : Int) (kb1 : Int → Int → Option Int) (v7 : Int) : Option Int :=
  kb1 v7 (IntKind.wrap .i64 (v6 + 1))
def ref34_Voices.L1 (k : Nat) (v2 : (List Int)) (v3 : (List Int)) : Nat → Int → Int → Option Int
  | 0, _, _ => none
  | n + 1, v5, v6 =>
    if v6 < (v2.length : Int) then
      idx v2 v6 fun v8 =>
      bnd1 (ref24_Has k v3 v8) fun v9 =>
      if v9 = true then
        ref34_Voices.J2 k v6 (fun v5_ v6_ => ref34_Voices.L1 k v2 v3 n v5_ v6_) (IntKind.wrap .i64 (v5 + 1))
      else
        ref34_Voices.J2 k v6 (fun v5_ v6_ => ref34_Voices.L1 k v2 v3 n v5_ v6_) v5
    else
      some v5
def ref34_Voices (k : Nat) (v0 : Int) (v1 : Int) (v2 : (List Int)) (v3 : (List Int)) : Option Int :=
  ref34_Voices.L1 k v2 v3 k 0 0
def ref34_Enough (k : Nat) (v0 : Int) (v1 : Int) (v2 : (List Int)) (v3 : (List Int)) : Option Bool :=
  bnd1 (ref34_Valid k v0 v1 v2) fun v5 =>
  if v5 = true then
    bnd1 (ref34_Voices k v0 v1 v2 v3) fun v6 =>
    some (decide (v1 ≤ v6))
  else
    some false
def law34_GuardianRaw.L1 (k : Nat) (v1 : Int) (v2 : Int) (v3 : (List Int)) (v4 : (List Int)) (v16 : (List Int)) : Nat → Int → Int → Int → (List Int) → Option Bool
  | 0, _, _, _, _ => none
  | n + 1, v18, v19, v20, v21 =>
    if v18 < 2 then
      bnd7 (guardian_Draft k v19 v20 v21) fun v22 v23 v24 v25 v26 v27 v28 =>
      bnd7 (ref34_Draft k v19 v20 v21) fun v29 v30 v31 v32 v33 v34 v35 =>
      if v28 ≠ v35 then
        some false
      else
        bnd1 (ref23_SameDraft k v22 v23 v24 v25 v26 v27 v29 v30 v31 v32 v33 v34) fun v36 =>
        if (!v36) = true then
          some false
        else
          bnd1 (guardian_Valid k v19 v20 v21) fun v37 =>
          bnd1 (ref34_Valid k v19 v20 v21) fun v38 =>
          if (v37 != v38) = true then
            some false
          else
            bnd1 (guardian_Enough k v19 v20 v21 (v16 ++ v4)) fun v39 =>
            bnd1 (ref34_Enough k v19 v20 v21 (v16 ++ v4)) fun v40 =>
            if (v39 != v40) = true then
              some false
            else
              law34_GuardianRaw.L1 k v1 v2 v3 v4 v16 n (IntKind.wrap .i64 (v18 + 1)) v1 v2 v3
    else
      bnd1 (law34_awake k) fun v41 =>
      some v41
def law34_GuardianRaw (k : Nat) (v0 : (List Int)) (v1 : Int) (v2 : Int) (v3 : (List Int)) (v4 : (List Int)) : Option Bool :=
  bnd1 (mill_Light k v0) fun v6 =>
  if (!v6) = true then
    bnd1 (law34_awake k) fun v7 =>
    some v7
  else
    if 100 < (v3.length : Int) then
      bnd1 (law34_awake k) fun v8 =>
      some v8
    else
      if 100 < (v4.length : Int) then
        bnd1 (law34_awake k) fun v9 =>
        some v9
      else
        bnd2 (mill_Roll k v0) fun v10 v11 =>
        bnd4 (law34_guard k v10 v11) fun v12 v13 v14 v15 =>
        bnd2 (made_Dice_Some k v10 v15 9) fun v16 v17 =>
        chk ((v16.length + v4.length) * 8 ≤ 140737488355328) <|
        law34_GuardianRaw.L1 k v1 v2 v3 v4 v16 k 0 v12 v13 v14
def ref02_rest (k : Nat) (v0 : (List Int)) : Option (List Int) :=
  chk (v0.length * 1 ≤ 140737488355328) <|
  some v0
def ref02_TakeInt.L1 (k : Nat) (v0 : (List Int)) : Nat → Int → Int → Option (Int × (List Int) × Bool)
  | 0, _, _ => none
  | n + 1, v4, v5 =>
    if v5 < 8 then
      idx v0 v5 fun v6 =>
      ref02_TakeInt.L1 k v0 n (bitsV .or .u64 (IntKind.wrap .u64 (v4 * 2 ^ (8))) (IntKind.wrap .u64 v6)) (IntKind.wrap .i64 (v5 + 1))
    else
      chk ((8 : Int) ≤ (v0.length : Int)) <|
      bnd1 (ref02_rest k (v0.drop (8 : Int).toNat)) fun v7 =>
      some (IntKind.wrap .i64 v4, v7, true)
def ref02_TakeInt (k : Nat) (v0 : (List Int)) : Option (Int × (List Int) × Bool) :=
  if (v0.length : Int) < 8 then
    some (0, ([] : List Int), false)
  else
    ref02_TakeInt.L1 k v0 k 0 0
def ref02_TakeText (k : Nat) (v0 : (List Int)) (v1 : Int) : Option (ByteArray × (List Int) × Bool) :=
  bnd3 (ref02_TakeInt k v0) fun v5 v6 v7 =>
  if (!v7) = true then
    some ((ByteArray.mk #[]), ([] : List Int), false)
  else
    if v5 < 0 then
      some ((ByteArray.mk #[]), ([] : List Int), false)
    else
      if v1 < v5 then
        some ((ByteArray.mk #[]), ([] : List Int), false)
      else
        if (v6.length : Int) < v5 then
          some ((ByteArray.mk #[]), ([] : List Int), false)
        else
          chk ((0 : Int) ≤ v5 ∧ (v5 : Int) ≤ (v6.length : Int)) <|
          chk ((0 : Int) ≤ v5 ∧ (v5 : Int) ≤ (v6.length : Int)) <|
          bnd1 (ref02_rest k (v6.drop (v5).toNat)) fun v8 =>
          some (ofI (v6.take (v5).toNat), v8, true)
def wire_TakeInts.L1 (k : Nat) (v5 : Int) : Nat → (List Int) → Int → (List Int) → Option ((List Int) × (List Int) × Bool)
  | 0, _, _, _ => none
  | n + 1, v8, v9, v10 =>
    if v9 < v5 then
      bnd3 (wire_TakeInt k v8) fun v11 v12 v13 =>
      chk ((v10.length + ([v11] : List Int).length) * 8 ≤ 140737488355328) <|
      wire_TakeInts.L1 k v5 n v12 (IntKind.wrap .i64 (v9 + 1)) (v10 ++ ([v11] : List Int))
    else
      some (v10, v8, true)
def wire_TakeInts (k : Nat) (v0 : (List Int)) (v1 : Int) : Option ((List Int) × (List Int) × Bool) :=
  bnd3 (wire_TakeInt k v0) fun v5 v6 v7 =>
  if (!v7) = true then
    some (([] : List Int), ([] : List Int), false)
  else
    if v5 < 0 then
      some (([] : List Int), ([] : List Int), false)
    else
      if v1 < v5 then
        some (([] : List Int), ([] : List Int), false)
      else
        if IntKind.wrap .i64 (Int.tdiv (v6.length : Int) 8) < v5 then
          some (([] : List Int), ([] : List Int), false)
        else
          wire_TakeInts.L1 k v5 k v6 0 ([] : List Int)
def ref02_TakeInts.L1 (k : Nat) (v5 : Int) : Nat → (List Int) → Int → (List Int) → Option ((List Int) × (List Int) × Bool)
  | 0, _, _, _ => none
  | n + 1, v8, v9, v10 =>
    if v9 < v5 then
      bnd3 (ref02_TakeInt k v8) fun v11 v12 v13 =>
      chk ((v10.length + ([v11] : List Int).length) * 8 ≤ 140737488355328) <|
      ref02_TakeInts.L1 k v5 n v12 (IntKind.wrap .i64 (v9 + 1)) (v10 ++ ([v11] : List Int))
    else
      some (v10, v8, true)
def ref02_TakeInts (k : Nat) (v0 : (List Int)) (v1 : Int) : Option ((List Int) × (List Int) × Bool) :=
  bnd3 (ref02_TakeInt k v0) fun v5 v6 v7 =>
  if (!v7) = true then
    some (([] : List Int), ([] : List Int), false)
  else
    if v5 < 0 then
      some (([] : List Int), ([] : List Int), false)
    else
      if v1 < v5 then
        some (([] : List Int), ([] : List Int), false)
      else
        if IntKind.wrap .i64 (Int.tdiv (v6.length : Int) 8) < v5 then
          some (([] : List Int), ([] : List Int), false)
        else
          ref02_TakeInts.L1 k v5 k v6 0 ([] : List Int)
def law02_taken (k : Nat) (v0 : (List Int)) (v1 : Int) : Option Bool :=
  bnd3 (wire_TakeInt k v0) fun v3 v4 v5 =>
  bnd3 (ref02_TakeInt k v0) fun v6 v7 v8 =>
  bnd3 (wire_TakeText k v0 v1) fun v9 v10 v11 =>
  bnd3 (ref02_TakeText k v0 v1) fun v12 v13 v14 =>
  bnd3 (wire_TakeInts k v0 v1) fun v15 v16 v17 =>
  bnd3 (ref02_TakeInts k v0 v1) fun v18 v19 v20 =>
  if v3 = v6 then
    if (strEq (ofI v4) (ofI v7)) = true then
      if (v5 == v8) = true then
        if (strEq v9 v12) = true then
          if (strEq (ofI v10) (ofI v13)) = true then
            if (v11 == v14) = true then
              bnd1 (law02_sameInts k v15 v18) fun v21 =>
              if v21 = true then
                if (strEq (ofI v16) (ofI v19)) = true then
                  some (v17 == v20)
                else
                  some false
              else
                some false
            else
              some false
          else
            some false
        else
          some false
      else
        some false
    else
      some false
  else
    some false
def law02_WireTakes (k : Nat) (v0 : (List Int)) (v1 : Int) (v2 : Int) : Option Bool :=
  if 200 < (v0.length : Int) then
    bnd1 (law02_awake k) fun v4 =>
    some v4
  else
    bnd1 (made_Mod k v1 30) fun v5 =>
    bnd1 (ref02_Int k ([] : List Int) v5) fun v6 =>
    chk ((v6.length + v0.length) * 1 ≤ 140737488355328) <|
    bnd1 (law02_awake k) fun v7 =>
    if v7 = true then
      bnd1 (law02_taken k v0 v2) fun v8 =>
      if v8 = true then
        bnd1 (law02_taken k (v6 ++ v0) v2) fun v9 =>
        if v9 = true then
          bnd1 (made_Mod k v2 40) fun v10 =>
          bnd1 (law02_taken k (v6 ++ v0) v10) fun v11 =>
          if v11 = true then
            bnd1 (ref02_Int k ([] : List Int) v1) fun v12 =>
            chk ((v12.length + v0.length) * 1 ≤ 140737488355328) <|
            bnd1 (law02_taken k (v12 ++ v0) v2) fun v13 =>
            some v13
          else
            some false
        else
          some false
      else
        some false
    else
      some false
def roster_Decode_1 (k : Nat) (v0 : Int) : Option Bool :=
  if v0 < 0 then
    some true
  else
    some (decide (4294967296 ≤ v0))
def slices_IndexFunc_int_int_Decode_1.L1 (k : Nat) (v0 : (List Int)) : Nat → Int → Option Int
  | 0, _ => none
  | n + 1, v2 =>
    if v2 < (v0.length : Int) then
      idx v0 v2 fun v3 =>
      bnd1 (roster_Decode_1 k v3) fun v4 =>
      if v4 = true then
        some v2
      else
        slices_IndexFunc_int_int_Decode_1.L1 k v0 n (IntKind.wrap .i64 (v2 + 1))
    else
      some (-1)
def slices_IndexFunc_int_int_Decode_1 (k : Nat) (v0 : (List Int)) : Option Int :=
  slices_IndexFunc_int_int_Decode_1.L1 k v0 k 0
def slices_ContainsFunc_int_int_Decode_1 (k : Nat) (v0 : (List Int)) : Option Bool :=
  bnd1 (slices_IndexFunc_int_int_Decode_1 k v0) fun v2 =>
  some (decide (0 ≤ v2))
def roster_Decode.J3 (k : Nat) (v3 : Int) (kb2 : Int → (List Int) → Option ((List Int) × Int)) (v5 : (List Int)) : Option ((List Int) × Int) :=
  kb2 (IntKind.wrap .i64 (v3 + 1)) v5
def roster_Decode.L2 (k : Nat) (v0 : (List Int)) : Nat → Int → (List Int) → Option ((List Int) × Int)
  | 0, _, _ => none
  | n + 1, v3, v4 =>
    if v3 < 64 then
      idx v0 (IntKind.wrap .i64 (Int.tdiv v3 32)) fun v6 =>
      chk ((0 : Int) ≤ Int.tmod v3 32) <|
      if (bitsV .and .i64 (Int.fdiv v6 (2 ^ (min ((Int.tmod v3 32).toNat) 64))) 1) = 1 then
        chk ((v4.length + ([v3] : List Int).length) * 8 ≤ 140737488355328) <|
        roster_Decode.J3 k v3 (fun v3_ v4_ => roster_Decode.L2 k v0 n v3_ v4_) (v4 ++ ([v3] : List Int))
      else
        roster_Decode.J3 k v3 (fun v3_ v4_ => roster_Decode.L2 k v0 n v3_ v4_) v4
    else
      some (v4, 0)
def roster_Decode.J1 (k : Nat) (v0 : (List Int)) : Option ((List Int) × Int) :=
  roster_Decode.L2 k v0 k 0 ([] : List Int)
def roster_Decode (k : Nat) (v0 : (List Int)) : Option ((List Int) × Int) :=
  if (v0.length : Int) ≠ 2 then
    some (([] : List Int), 43)
  else
    bnd1 (slices_ContainsFunc_int_int_Decode_1 k v0) fun v7 =>
    if v7 = true then
      some (([] : List Int), 43)
    else
      idx v0 0 fun v8 =>
      if v8 = 0 then
        idx v0 1 fun v9 =>
        if v9 = 0 then
          some (([] : List Int), 43)
        else
          roster_Decode.J1 k v0
      else
        roster_Decode.J1 k v0
def roster_key (k : Nat) (v0 : Int) : Option Bool :=
  if 0 ≤ v0 then
    some (decide (v0 < 64))
  else
    some false
def roster_of.J2 (k : Nat) (v2 : Int) (kb1 : Int → (List Bool) → Option (List Bool)) (v4 : (List Bool)) : Option (List Bool) :=
  kb1 (IntKind.wrap .i64 (v2 + 1)) v4
def roster_of.L1 (k : Nat) (v0 : (List Int)) : Nat → Int → (List Bool) → Option (List Bool)
  | 0, _, _ => none
  | n + 1, v2, v3 =>
    if v2 < (v0.length : Int) then
      idx v0 v2 fun v5 =>
      bnd1 (roster_key k v5) fun v6 =>
      if v6 = true then
        chk ((0 : Int) ≤ v5 ∧ v5 < 64 ∧ (v5).toNat < v3.length) <|
        roster_of.J2 k v2 (fun v2_ v3_ => roster_of.L1 k v0 n v2_ v3_) (v3.set (v5).toNat true)
      else
        roster_of.J2 k v2 (fun v2_ v3_ => roster_of.L1 k v0 n v2_ v3_) v3
    else
      chk (v3.length = 64) <|
      chk ((List.replicate 64 false).length = 64 ∧ v3.length = 64) <|
      chk (v3.length = 64) <|
      some v3
def roster_of (k : Nat) (v0 : (List Int)) : Option (List Bool) :=
  roster_of.L1 k v0 k 0 (List.replicate 64 false)
def roster_Valid.J2 (k : Nat) (v2 : Int) (kb1 : Int → Option Bool) : Option Bool :=
  kb1 (IntKind.wrap .i64 (v2 + 1))
def roster_Valid.L1 (k : Nat) (v0 : (List Int)) : Nat → Int → Option Bool
  | 0, _ => none
  | n + 1, v2 =>
    if v2 < (v0.length : Int) then
      idx v0 v2 fun v3 =>
      bnd1 (roster_key k v3) fun v4 =>
      if (!v4) = true then
        some false
      else
        if 0 < v2 then
          idx v0 (IntKind.wrap .i64 (v2 - 1)) fun v5 =>
          if v3 ≤ v5 then
            some false
          else
            roster_Valid.J2 k v2 (fun v2_ => roster_Valid.L1 k v0 n v2_)
        else
          roster_Valid.J2 k v2 (fun v2_ => roster_Valid.L1 k v0 n v2_)
    else
      bnd1 (roster_of k v0) fun v6 =>
      chk (v6.length = 64) <|
      some (v6 != (List.replicate 64 false))
def roster_Valid (k : Nat) (v0 : (List Int)) : Option Bool :=
  roster_Valid.L1 k v0 k 0
def roster_Encode.L1 (k : Nat) (v0 : (List Int)) : Nat → Int → (List Int) → Option ((List Int) × Int)
  | 0, _, _ => none
  | n + 1, v4, v5 =>
    if v4 < (v0.length : Int) then
      idx v0 v4 fun v6 =>
      chk ((0 : Int) ≤ (IntKind.wrap .i64 (Int.tdiv v6 32)) ∧ (IntKind.wrap .i64 (Int.tdiv v6 32)).toNat < v5.length) <|
      idx v5 (IntKind.wrap .i64 (Int.tdiv v6 32)) fun v7 =>
      chk ((0 : Int) ≤ Int.tmod v6 32) <|
      chk ((0 : Int) ≤ (IntKind.wrap .i64 (Int.tdiv v6 32)) ∧ (IntKind.wrap .i64 (Int.tdiv v6 32)).toNat < v5.length) <|
      roster_Encode.L1 k v0 n (IntKind.wrap .i64 (v4 + 1)) (v5.set (IntKind.wrap .i64 (Int.tdiv v6 32)).toNat (bitsV .or .i64 v7 (IntKind.wrap .i64 (1 * 2 ^ (min ((Int.tmod v6 32).toNat) 64)))))
    else
      some (v5, 0)
def roster_Encode (k : Nat) (v0 : (List Int)) : Option ((List Int) × Int) :=
  bnd1 (roster_Valid k v0) fun v3 =>
  if (!v3) = true then
    some (([] : List Int), 43)
  else
    roster_Encode.L1 k v0 k 0 ([0, 0] : List Int)
def ref23_SameInts.L1 (k : Nat) (v0 : (List Int)) (v1 : (List Int)) : Nat → Int → Option Bool
  | 0, _ => none
  | n + 1, v3 =>
    if v3 < (v0.length : Int) then
      idx v0 v3 fun v4 =>
      idx v1 v3 fun v5 =>
      if v4 ≠ v5 then
        some false
      else
        ref23_SameInts.L1 k v0 v1 n (IntKind.wrap .i64 (v3 + 1))
    else
      some true
def ref23_SameInts (k : Nat) (v0 : (List Int)) (v1 : (List Int)) : Option Bool :=
  if (v0.length : Int) ≠ (v1.length : Int) then
    some false
  else
    ref23_SameInts.L1 k v0 v1 k 0
def law24_awake (k : Nat) : Option Bool :=
  bnd2 (roster_Encode k ([0, 3, 33] : List Int)) fun v1 v2 =>
  bnd2 (roster_Decode k v1) fun v3 v4 =>
  if v2 = 0 then
    if v4 = 0 then
      bnd1 (ref23_SameInts k v1 ([9, 2] : List Int)) fun v5 =>
      if v5 = true then
        bnd1 (ref23_SameInts k v3 ([0, 3, 33] : List Int)) fun v6 =>
        some v6
      else
        some false
    else
      some false
  else
    some false
def committee_Draw.L1 (k : Nat) (v1 : (List Int)) (v6 : Int) : Nat → (List Int) → Int → (List Int) → Option ((List Int) × Int)
  | 0, _, _, _ => none
  | n + 1, v8, v9, v10 =>
    if v9 < ((v1.take (v6).toNat).length : Int) then
      idx (v1.take (v6).toNat) v9 fun v11 =>
      if v11 < 0 then
        some (([] : List Int), 44)
      else
        chk ((v8.length : Int) ≠ (0 : Int)) <|
        idx v8 (Int.tmod v11 (v8.length : Int)) fun v12 =>
        chk ((v10.length + ([v12] : List Int).length) * 8 ≤ 140737488355328) <|
        chk ((0 : Int) ≤ Int.tmod v11 (v8.length : Int) ∧ (Int.tmod v11 (v8.length : Int) : Int) ≤ (v8.length : Int)) <|
        chk ((0 : Int) ≤ IntKind.wrap .i64 (Int.tmod v11 (v8.length : Int) + 1) ∧ (IntKind.wrap .i64 (Int.tmod v11 (v8.length : Int) + 1) : Int) ≤ (v8.length : Int)) <|
        chk (((v8.take (Int.tmod v11 (v8.length : Int)).toNat).length + (v8.drop (IntKind.wrap .i64 (Int.tmod v11 (v8.length : Int) + 1)).toNat).length) * 8 ≤ 140737488355328) <|
        committee_Draw.L1 k v1 v6 n ((v8.take (Int.tmod v11 (v8.length : Int)).toNat) ++ (v8.drop (IntKind.wrap .i64 (Int.tmod v11 (v8.length : Int) + 1)).toNat)) (IntKind.wrap .i64 (v9 + 1)) (v10 ++ ([v12] : List Int))
    else
      some (v10, 0)
def committee_Draw (k : Nat) (v0 : (List Int)) (v1 : (List Int)) (v2 : Int) : Option ((List Int) × Int) :=
  bnd1 (roster_Valid k v0) fun v5 =>
  if (!v5) = true then
    some (([] : List Int), 43)
  else
    let1 (if (v0.length : Int) < v2 then (v0.length : Int) else v2) fun v6 =>
    if v2 < 1 then
      some (([] : List Int), 44)
    else
      if 9 < v2 then
        some (([] : List Int), 44)
      else
        if (v1.length : Int) < v6 then
          some (([] : List Int), 44)
        else
          bnd1 (slices_Clone_int_int k v0) fun v7 =>
          chk ((0 : Int) ≤ v6 ∧ (v6 : Int) ≤ (v1.length : Int)) <|
          committee_Draw.L1 k v1 v6 k v7 0 ([] : List Int)
def committee_Quorum (k : Nat) (v0 : Int) : Option Int :=
  if v0 < 1 then
    some 0
  else
    if 9 < v0 then
      some 0
    else
      some (IntKind.wrap .i64 (IntKind.wrap .i64 (Int.tdiv (IntKind.wrap .i64 (3 * v0)) 4) + 1))
def law26_awake (k : Nat) : Option Bool :=
  bnd2 (committee_Draw k ([2, 5, 7] : List Int) ([4, 4] : List Int) 2) fun v1 v2 =>
  if v2 = 0 then
    bnd1 (ref23_SameInts k v1 ([5, 2] : List Int)) fun v3 =>
    if v3 = true then
      bnd1 (committee_Quorum k 4) fun v4 =>
      if v4 = 4 then
        bnd1 (committee_Quorum k 5) fun v5 =>
        if v5 = 4 then
          bnd1 (committee_Quorum k 7) fun v6 =>
          some (v6 == 6)
        else
          some false
      else
        some false
    else
      some false
  else
    some false
def law26_CommitteeEvenly.L5 (k : Nat) (v4 : (List Int)) (v8 : Int) (v9 : (List Int)) (v13 : (List Int)) (kb3 : Int → (List Int) → Option Bool) : Nat → Int → Int → Option Bool
  | 0, _, _ => none
  | n + 1, v15, v16 =>
    if v16 < (v13.length : Int) then
      idx v13 v16 fun v17 =>
      bnd1 (ref24_Has k v4 v17) fun v18 =>
      if (!v18) = true then
        some false
      else
        chk ((0 : Int) ≤ v16 ∧ (v16 : Int) ≤ (v13.length : Int)) <|
        bnd1 (ref24_Has k (v13.take (v16).toNat) v17) fun v19 =>
        if v19 = true then
          some false
        else
          law26_CommitteeEvenly.L5 k v4 v8 v9 v13 kb3 n (IntKind.wrap .i64 (IntKind.wrap .i64 (v15 * 16) + v17)) (IntKind.wrap .i64 (v16 + 1))
    else
      if v15 < 0 then
        some false
      else
        if (v9.length : Int) ≤ v15 then
          some false
        else
          chk ((0 : Int) ≤ v15 ∧ (v15).toNat < v9.length) <|
          idx v9 v15 fun v20 =>
          chk ((0 : Int) ≤ v15 ∧ (v15).toNat < v9.length) <|
          chk ((0 : Int) ≤ v15 ∧ (v15).toNat < (v9.set (v15).toNat (IntKind.wrap .i64 (v20 + 1))).length) <|
          idx (v9.set (v15).toNat (IntKind.wrap .i64 (v20 + 1))) v15 fun v21 =>
          if 1 < v21 then
            some false
          else
            kb3 (IntKind.wrap .i64 (v8 + 1)) (v9.set (v15).toNat (IntKind.wrap .i64 (v20 + 1)))
def law26_CommitteeEvenly.L4 (k : Nat) (v0 : Int) (v1 : Int) (v4 : (List Int)) (v5 : Int) (v8 : Int) (v9 : (List Int)) (kb3 : Int → (List Int) → Option Bool) : Nat → Int → Int → (List Int) → Option Bool
  | 0, _, _, _ => none
  | n + 1, v10, v11, v12 =>
    if v11 < v5 then
      chk (IntKind.wrap .i64 (IntKind.wrap .i64 (1 + Int.tmod (IntKind.wrap .i64 v0) 5) - v11) ≠ (0 : Int)) <|
      chk ((v12.length + ([Int.tmod v10 (IntKind.wrap .i64 (IntKind.wrap .i64 (1 + Int.tmod (IntKind.wrap .i64 v0) 5) - v11))] : List Int).length) * 8 ≤ 140737488355328) <|
      chk (IntKind.wrap .i64 (IntKind.wrap .i64 (1 + Int.tmod (IntKind.wrap .i64 v0) 5) - v11) ≠ (0 : Int)) <|
      law26_CommitteeEvenly.L4 k v0 v1 v4 v5 v8 v9 kb3 n (IntKind.wrap .i64 (Int.tdiv v10 (IntKind.wrap .i64 (IntKind.wrap .i64 (1 + Int.tmod (IntKind.wrap .i64 v0) 5) - v11)))) (IntKind.wrap .i64 (v11 + 1)) (v12 ++ ([Int.tmod v10 (IntKind.wrap .i64 (IntKind.wrap .i64 (1 + Int.tmod (IntKind.wrap .i64 v0) 5) - v11))] : List Int))
    else
      bnd2 (committee_Draw k v4 v12 (IntKind.wrap .i64 (1 + Int.tmod (IntKind.wrap .i64 v1) 3))) fun v13 v14 =>
      if v14 ≠ 0 then
        some false
      else
        if (v13.length : Int) ≠ v5 then
          some false
        else
          law26_CommitteeEvenly.L5 k v4 v8 v9 v13 kb3 k 0 0
def law26_CommitteeEvenly.L3 (k : Nat) (v0 : Int) (v1 : Int) (v4 : (List Int)) (v5 : Int) (v6 : Int) : Nat → Int → (List Int) → Option Bool
  | 0, _, _ => none
  | n + 1, v8, v9 =>
    if v8 < v6 then
      law26_CommitteeEvenly.L4 k v0 v1 v4 v5 v8 v9 (fun v8_ v9_ => law26_CommitteeEvenly.L3 k v0 v1 v4 v5 v6 n v8_ v9_) k v8 0 ([] : List Int)
    else
      bnd1 (law26_awake k) fun v22 =>
      some v22
def law26_CommitteeEvenly.L2 (k : Nat) (v0 : Int) (v1 : Int) (v4 : (List Int)) (v5 : Int) : Nat → Int → Int → Option Bool
  | 0, _, _ => none
  | n + 1, v6, v7 =>
    if v7 < v5 then
      law26_CommitteeEvenly.L2 k v0 v1 v4 v5 n (IntKind.wrap .i64 (v6 * IntKind.wrap .i64 (IntKind.wrap .i64 (1 + Int.tmod (IntKind.wrap .i64 v0) 5) - v7))) (IntKind.wrap .i64 (v7 + 1))
    else
      chk ((0 : Int) ≤ 4096 ∧ 16 * 4096 ≤ 281474976710656) <|
      law26_CommitteeEvenly.L3 k v0 v1 v4 v5 v6 k 0 (List.replicate (4096 : Int).toNat 0)
def law26_CommitteeEvenly.L1 (k : Nat) (v0 : Int) (v1 : Int) : Nat → Int → (List Int) → Option Bool
  | 0, _, _ => none
  | n + 1, v3, v4 =>
    if v3 < IntKind.wrap .i64 (1 + Int.tmod (IntKind.wrap .i64 v0) 5) then
      chk ((v4.length + ([IntKind.wrap .i64 (IntKind.wrap .i64 (3 * v3) + 1)] : List Int).length) * 8 ≤ 140737488355328) <|
      law26_CommitteeEvenly.L1 k v0 v1 n (IntKind.wrap .i64 (v3 + 1)) (v4 ++ ([IntKind.wrap .i64 (IntKind.wrap .i64 (3 * v3) + 1)] : List Int))
    else
      let1 (if (IntKind.wrap .i64 (1 + Int.tmod (IntKind.wrap .i64 v1) 3)) < (IntKind.wrap .i64 (1 + Int.tmod (IntKind.wrap .i64 v0) 5)) then IntKind.wrap .i64 (1 + Int.tmod (IntKind.wrap .i64 v1) 3) else IntKind.wrap .i64 (1 + Int.tmod (IntKind.wrap .i64 v0) 5)) fun v5 =>
      law26_CommitteeEvenly.L2 k v0 v1 v4 v5 k 1 0
def law26_CommitteeEvenly (k : Nat) (v0 : Int) (v1 : Int) : Option Bool :=
  law26_CommitteeEvenly.L1 k v0 v1 k 0 ([] : List Int)
def ref24_Join.J2 (k : Nat) (v3 : Int) (kb1 : Int → (List Int) → Option (List Int)) (v5 : (List Int)) : Option (List Int) :=
  kb1 (IntKind.wrap .i64 (v3 + 1)) v5
def ref24_Join.L1 (k : Nat) (v0 : (List Int)) (v1 : (List Int)) : Nat → Int → (List Int) → Option (List Int)
  | 0, _, _ => none
  | n + 1, v3, v4 =>
    if v3 < 64 then
      bnd1 (ref24_Has k v0 v3) fun v6 =>
      if v6 = true then
        chk ((v4.length + ([v3] : List Int).length) * 8 ≤ 140737488355328) <|
        ref24_Join.J2 k v3 (fun v3_ v4_ => ref24_Join.L1 k v0 v1 n v3_ v4_) (v4 ++ ([v3] : List Int))
      else
        bnd1 (ref24_Has k v1 v3) fun v7 =>
        if v7 = true then
          chk ((v4.length + ([v3] : List Int).length) * 8 ≤ 140737488355328) <|
          ref24_Join.J2 k v3 (fun v3_ v4_ => ref24_Join.L1 k v0 v1 n v3_ v4_) (v4 ++ ([v3] : List Int))
        else
          ref24_Join.J2 k v3 (fun v3_ v4_ => ref24_Join.L1 k v0 v1 n v3_ v4_) v4
    else
      some v4
def ref24_Join (k : Nat) (v0 : (List Int)) (v1 : (List Int)) : Option (List Int) :=
  ref24_Join.L1 k v0 v1 k 0 ([] : List Int)
def law26_CommitteeFewer.L1 (k : Nat) (v1 : Int) (v2 : Int) (v6 : (List Int)) (v8 : (List Int)) : Nat → Int → Int → (List Int) → (List Int) → Option Bool
  | 0, _, _, _, _ => none
  | n + 1, v10, v11, v12, v13 =>
    if v10 < 9 then
      bnd2 (made_Dice_Next k v6 v11 1000) fun v14 v15 =>
      chk ((v12.length + ([v14] : List Int).length) * 8 ≤ 140737488355328) <|
      let1 (if 1 < (IntKind.wrap .i64 ((v8.length : Int) - v10)) then IntKind.wrap .i64 ((v8.length : Int) - v10) else 1) fun v16 =>
      chk ((v13.length + ([IntKind.wrap .i64 (v14 + IntKind.wrap .i64 (7 * v16))] : List Int).length) * 8 ≤ 140737488355328) <|
      law26_CommitteeFewer.L1 k v1 v2 v6 v8 n (IntKind.wrap .i64 (v10 + 1)) v15 (v12 ++ ([v14] : List Int)) (v13 ++ ([IntKind.wrap .i64 (v14 + IntKind.wrap .i64 (7 * v16))] : List Int))
    else
      bnd2 (committee_Draw k v8 v12 (IntKind.wrap .i64 (1 + Int.tmod (IntKind.wrap .i64 v1) 9))) fun v17 v18 =>
      bnd2 (committee_Draw k v8 v12 (IntKind.wrap .i64 (1 + Int.tmod (IntKind.wrap .i64 v2) (IntKind.wrap .i64 (1 + Int.tmod (IntKind.wrap .i64 v1) 9))))) fun v19 v20 =>
      bnd2 (committee_Draw k v8 v13 (IntKind.wrap .i64 (1 + Int.tmod (IntKind.wrap .i64 v1) 9))) fun v21 v22 =>
      if v18 ≠ 0 then
        some false
      else
        if v20 ≠ 0 then
          some false
        else
          if v22 ≠ 0 then
            some false
          else
            if (v17.length : Int) < (v19.length : Int) then
              some false
            else
              chk ((0 : Int) ≤ (v19.length : Int) ∧ ((v19.length : Int) : Int) ≤ (v17.length : Int)) <|
              bnd1 (ref23_SameInts k (v17.take ((v19.length : Int)).toNat) v19) fun v23 =>
              if (!v23) = true then
                some false
              else
                bnd1 (ref23_SameInts k v17 v21) fun v24 =>
                if (!v24) = true then
                  some false
                else
                  if IntKind.wrap .i64 (1 + Int.tmod (IntKind.wrap .i64 v1) 9) < (v8.length : Int) then
                    bnd1 (law26_awake k) fun v25 =>
                    some v25
                  else
                    bnd1 (ref24_Join k v17 ([] : List Int)) fun v26 =>
                    bnd1 (ref23_SameInts k v26 v8) fun v27 =>
                    if v27 = true then
                      bnd1 (law26_awake k) fun v28 =>
                      some v28
                    else
                      some false
def law26_CommitteeFewer (k : Nat) (v0 : (List Int)) (v1 : Int) (v2 : Int) : Option Bool :=
  bnd1 (mill_Light k v0) fun v4 =>
  if (!v4) = true then
    bnd1 (law26_awake k) fun v5 =>
    some v5
  else
    bnd2 (mill_Roll k v0) fun v6 v7 =>
    bnd2 (mill_Keys k v6 v7 9) fun v8 v9 =>
    chk (IntKind.wrap .i64 (1 + Int.tmod (IntKind.wrap .i64 v1) 9) ≠ (0 : Int)) <|
    law26_CommitteeFewer.L1 k v1 v2 v6 v8 k 0 v9 ([] : List Int) ([] : List Int)
def law02_WireBack (k : Nat) (v0 : Int) (v1 : ByteArray) (v2 : (List Int)) : Option Bool :=
  if 100 < (v1.size : Int) then
    bnd1 (law02_awake k) fun v4 =>
    some v4
  else
    if 60 < (v2.length : Int) then
      bnd1 (law02_awake k) fun v5 =>
      some v5
    else
      bnd1 (wire_Int k ([] : List Int) v0) fun v6 =>
      bnd1 (wire_Text k v6 v1) fun v7 =>
      bnd1 (wire_Ints k v7 v2) fun v8 =>
      bnd3 (wire_TakeInt k v8) fun v9 v10 v11 =>
      bnd3 (wire_TakeText k v10 (v1.size : Int)) fun v12 v13 v14 =>
      bnd3 (wire_TakeInts k v13 (v2.length : Int)) fun v15 v16 v17 =>
      if (!v11) = true then
        some false
      else
        if (!v14) = true then
          some false
        else
          if (!v17) = true then
            some false
          else
            if v9 ≠ v0 then
              some false
            else
              if (!strEq v12 v1) = true then
                some false
              else
                bnd1 (law02_sameInts k v15 v2) fun v18 =>
                if (!v18) = true then
                  some false
                else
                  if (v16.length : Int) ≠ 0 then
                    some false
                  else
                    if (v13.length : Int) ≠ (IntKind.wrap .i64 (8 + IntKind.wrap .i64 (8 * (v2.length : Int)))) then
                      some false
                    else
                      if (v8.length : Int) ≠ (IntKind.wrap .i64 (IntKind.wrap .i64 (IntKind.wrap .i64 (16 + (v1.size : Int)) + 8) + IntKind.wrap .i64 (8 * (v2.length : Int)))) then
                        some false
                      else
                        chk ((0 : Int) ≤ IntKind.wrap .i64 ((v13.length : Int) - 1) ∧ (IntKind.wrap .i64 ((v13.length : Int) - 1) : Int) ≤ (v13.length : Int)) <|
                        bnd3 (wire_TakeInts k (v13.take (IntKind.wrap .i64 ((v13.length : Int) - 1)).toNat) (v2.length : Int)) fun v19 v20 v21 =>
                        bnd3 (wire_TakeText k v10 (IntKind.wrap .i64 ((v1.size : Int) - 1))) fun v22 v23 v24 =>
                        bnd1 (law02_awake k) fun v25 =>
                        if v25 = true then
                          if (!v21) = true then
                            some (!v24)
                          else
                            some false
                        else
                          some false
def ref26_Draw.L1 (k : Nat) (v1 : (List Int)) (v6 : Int) : Nat → (List Int) → Int → (List Int) → Option ((List Int) × Int)
  | 0, _, _, _ => none
  | n + 1, v7, v8, v9 =>
    if v8 < v6 then
      idx v1 v8 fun v10 =>
      if v10 < 0 then
        some (([] : List Int), 44)
      else
        chk ((v7.length : Int) ≠ (0 : Int)) <|
        idx v7 (Int.tmod v10 (v7.length : Int)) fun v11 =>
        chk ((v9.length + ([v11] : List Int).length) * 8 ≤ 140737488355328) <|
        chk ((0 : Int) ≤ Int.tmod v10 (v7.length : Int) ∧ (Int.tmod v10 (v7.length : Int) : Int) ≤ (v7.length : Int)) <|
        chk ((v7.take (Int.tmod v10 (v7.length : Int)).toNat).length * 8 ≤ 140737488355328) <|
        chk ((0 : Int) ≤ IntKind.wrap .i64 (Int.tmod v10 (v7.length : Int) + 1) ∧ (IntKind.wrap .i64 (Int.tmod v10 (v7.length : Int) + 1) : Int) ≤ (v7.length : Int)) <|
        chk (((v7.take (Int.tmod v10 (v7.length : Int)).toNat).length + (v7.drop (IntKind.wrap .i64 (Int.tmod v10 (v7.length : Int) + 1)).toNat).length) * 8 ≤ 140737488355328) <|
        ref26_Draw.L1 k v1 v6 n ((v7.take (Int.tmod v10 (v7.length : Int)).toNat) ++ (v7.drop (IntKind.wrap .i64 (Int.tmod v10 (v7.length : Int) + 1)).toNat)) (IntKind.wrap .i64 (v8 + 1)) (v9 ++ ([v11] : List Int))
    else
      some (v9, 0)
def ref26_Draw (k : Nat) (v0 : (List Int)) (v1 : (List Int)) (v2 : Int) : Option ((List Int) × Int) :=
  bnd1 (ref24_Valid k v0) fun v5 =>
  if (!v5) = true then
    some (([] : List Int), 43)
  else
    let1 (if (v0.length : Int) < v2 then (v0.length : Int) else v2) fun v6 =>
    if v2 < 1 then
      some (([] : List Int), 44)
    else
      if 9 < v2 then
        some (([] : List Int), 44)
      else
        if (v1.length : Int) < v6 then
          some (([] : List Int), 44)
        else
          chk (v0.length * 8 ≤ 140737488355328) <|
          ref26_Draw.L1 k v1 v6 k v0 0 ([] : List Int)
def committee_Enough (k : Nat) (v0 : Int) (v1 : Int) : Option Bool :=
  if 1 ≤ v1 then
    if v1 ≤ 9 then
      if 0 ≤ v0 then
        if v0 ≤ v1 then
          some (decide (IntKind.wrap .i64 (3 * v1) < IntKind.wrap .i64 (4 * v0)))
        else
          some false
      else
        some false
    else
      some false
  else
    some false
def ref26_Enough (k : Nat) (v0 : Int) (v1 : Int) : Option Bool :=
  if 1 ≤ v1 then
    if v1 ≤ 9 then
      if 0 ≤ v0 then
        if v0 ≤ v1 then
          some (decide (IntKind.wrap .i64 (3 * v1) < IntKind.wrap .i64 (4 * v0)))
        else
          some false
      else
        some false
    else
      some false
  else
    some false
def ref26_Quorum.J1 (k : Nat) : Option Int :=
  some 0
def ref26_Quorum.L2 (k : Nat) (v0 : Int) : Nat → Int → Option Int
  | 0, _ => none
  | n + 1, v2 =>
    if v2 ≤ v0 then
      if v0 ≤ 9 then
        bnd1 (ref26_Enough k v2 v0) fun v3 =>
        if v3 = true then
          some v2
        else
          ref26_Quorum.L2 k v0 n (IntKind.wrap .i64 (v2 + 1))
      else
        ref26_Quorum.J1 k
    else
      ref26_Quorum.J1 k
def ref26_Quorum (k : Nat) (v0 : Int) : Option Int :=
  ref26_Quorum.L2 k v0 k 1
def mill_Mod (k : Nat) (v0 : Int) (v1 : Int) : Option Int :=
  bnd1 (made_Mod k v0 v1) fun v3 =>
  some v3
def law26_CommitteeDraws.L2 (k : Nat) (v11 : Int) (v21 : (List Int)) (v22 : Int) (v23 : Int) (kb1 : (List Int) → (List Int) → Int → Int → Int → Option Bool) : Nat → Int → (List Int) → Option Bool
  | 0, _, _ => none
  | n + 1, v24, v25 =>
    if v24 < (v25.length : Int) then
      chk ((0 : Int) ≤ v24 ∧ (v24).toNat < v25.length) <|
      idx v25 v24 fun v26 =>
      bnd1 (mill_Mod k v26 4294967296) fun v27 =>
      chk ((0 : Int) ≤ v24 ∧ (v24).toNat < v25.length) <|
      law26_CommitteeDraws.L2 k v11 v21 v22 v23 kb1 n (IntKind.wrap .i64 (v24 + 1)) (v25.set (v24).toNat v27)
    else
      kb1 v21 v25 v22 v23 (IntKind.wrap .i64 (v11 + 1))
def law26_CommitteeDraws.L1 (k : Nat) : Nat → (List Int) → (List Int) → Int → Int → Int → Option Bool
  | 0, _, _, _, _, _ => none
  | n + 1, v7, v8, v9, v10, v11 =>
    if v11 < 2 then
      bnd2 (committee_Draw k v7 v8 v9) fun v12 v13 =>
      bnd2 (ref26_Draw k v7 v8 v9) fun v14 v15 =>
      if v13 ≠ v15 then
        some false
      else
        bnd1 (ref23_SameInts k v12 v14) fun v16 =>
        if (!v16) = true then
          some false
        else
          bnd1 (committee_Enough k v10 v9) fun v17 =>
          bnd1 (ref26_Enough k v10 v9) fun v18 =>
          if (v17 != v18) = true then
            some false
          else
            bnd1 (committee_Quorum k v9) fun v19 =>
            bnd1 (ref26_Quorum k v9) fun v20 =>
            if v19 ≠ v20 then
              some false
            else
              bnd1 (ref24_Join k v7 ([3] : List Int)) fun v21 =>
              bnd1 (mill_Mod k v9 11) fun v22 =>
              bnd1 (mill_Mod k v10 11) fun v23 =>
              chk (v8.length * 8 ≤ 140737488355328) <|
              law26_CommitteeDraws.L2 k v11 v21 v22 v23 (fun v7_ v8_ v9_ v10_ v11_ => law26_CommitteeDraws.L1 k n v7_ v8_ v9_ v10_ v11_) k 0 v8
    else
      bnd1 (law26_awake k) fun v28 =>
      some v28
def law26_CommitteeDraws (k : Nat) (v0 : (List Int)) (v1 : (List Int)) (v2 : Int) (v3 : Int) : Option Bool :=
  if 200 < (v0.length : Int) then
    bnd1 (law26_awake k) fun v5 =>
    some v5
  else
    if 100 < (v1.length : Int) then
      bnd1 (law26_awake k) fun v6 =>
      some v6
    else
      law26_CommitteeDraws.L1 k k v0 v1 v2 v3 0
def law26_CommitteeMajority.J1 (k : Nat) (v0 : Int) (v1 : Int) (v4 : Bool) : Option Bool :=
  if (!v4) = true then
    bnd1 (committee_Enough k (IntKind.wrap .i64 (1 + Int.tmod (IntKind.wrap .i64 v0) 9)) (IntKind.wrap .i64 (1 + Int.tmod (IntKind.wrap .i64 v0) 9))) fun v5 =>
    if v5 = true then
      bnd1 (committee_Enough k 0 (IntKind.wrap .i64 (1 + Int.tmod (IntKind.wrap .i64 v0) 9))) fun v6 =>
      if (!v6) = true then
        bnd1 (committee_Enough k (IntKind.wrap .i64 (Int.tdiv (IntKind.wrap .i64 (1 + Int.tmod (IntKind.wrap .i64 v0) 9)) 2)) (IntKind.wrap .i64 (1 + Int.tmod (IntKind.wrap .i64 v0) 9))) fun v7 =>
        if (!v7) = true then
          bnd1 (law26_awake k) fun v8 =>
          some v8
        else
          some false
      else
        some false
    else
      some false
  else
    if IntKind.wrap .i64 (1 + Int.tmod (IntKind.wrap .i64 v0) 9) < IntKind.wrap .i64 (2 * Int.tmod (IntKind.wrap .i64 v1) (IntKind.wrap .i64 (IntKind.wrap .i64 (1 + Int.tmod (IntKind.wrap .i64 v0) 9) + 1))) then
      bnd1 (committee_Enough k (IntKind.wrap .i64 (1 + Int.tmod (IntKind.wrap .i64 v0) 9)) (IntKind.wrap .i64 (1 + Int.tmod (IntKind.wrap .i64 v0) 9))) fun v9 =>
      if v9 = true then
        bnd1 (committee_Enough k 0 (IntKind.wrap .i64 (1 + Int.tmod (IntKind.wrap .i64 v0) 9))) fun v10 =>
        if (!v10) = true then
          bnd1 (committee_Enough k (IntKind.wrap .i64 (Int.tdiv (IntKind.wrap .i64 (1 + Int.tmod (IntKind.wrap .i64 v0) 9)) 2)) (IntKind.wrap .i64 (1 + Int.tmod (IntKind.wrap .i64 v0) 9))) fun v11 =>
          if (!v11) = true then
            bnd1 (law26_awake k) fun v12 =>
            some v12
          else
            some false
        else
          some false
      else
        some false
    else
      some false
def law26_CommitteeMajority (k : Nat) (v0 : Int) (v1 : Int) (v2 : Int) : Option Bool :=
  chk (IntKind.wrap .i64 (IntKind.wrap .i64 (1 + Int.tmod (IntKind.wrap .i64 v0) 9) + 1) ≠ (0 : Int)) <|
  chk (IntKind.wrap .i64 (IntKind.wrap .i64 (IntKind.wrap .i64 (1 + Int.tmod (IntKind.wrap .i64 v0) 9) - Int.tmod (IntKind.wrap .i64 v1) (IntKind.wrap .i64 (IntKind.wrap .i64 (1 + Int.tmod (IntKind.wrap .i64 v0) 9) + 1))) + 1) ≠ (0 : Int)) <|
  bnd1 (committee_Enough k (IntKind.wrap .i64 (Int.tmod (IntKind.wrap .i64 v2) (IntKind.wrap .i64 (IntKind.wrap .i64 (IntKind.wrap .i64 (1 + Int.tmod (IntKind.wrap .i64 v0) 9) - Int.tmod (IntKind.wrap .i64 v1) (IntKind.wrap .i64 (IntKind.wrap .i64 (1 + Int.tmod (IntKind.wrap .i64 v0) 9) + 1))) + 1)) + Int.tmod (IntKind.wrap .i64 v1) (IntKind.wrap .i64 (IntKind.wrap .i64 (1 + Int.tmod (IntKind.wrap .i64 v0) 9) + 1)))) (IntKind.wrap .i64 (1 + Int.tmod (IntKind.wrap .i64 v0) 9))) fun v13 =>
  if v13 = true then
    bnd1 (committee_Enough k (IntKind.wrap .i64 (IntKind.wrap .i64 (IntKind.wrap .i64 (IntKind.wrap .i64 (1 + Int.tmod (IntKind.wrap .i64 v0) 9) - Int.tmod (IntKind.wrap .i64 v1) (IntKind.wrap .i64 (IntKind.wrap .i64 (1 + Int.tmod (IntKind.wrap .i64 v0) 9) + 1))) - Int.tmod (IntKind.wrap .i64 v2) (IntKind.wrap .i64 (IntKind.wrap .i64 (IntKind.wrap .i64 (1 + Int.tmod (IntKind.wrap .i64 v0) 9) - Int.tmod (IntKind.wrap .i64 v1) (IntKind.wrap .i64 (IntKind.wrap .i64 (1 + Int.tmod (IntKind.wrap .i64 v0) 9) + 1))) + 1))) + Int.tmod (IntKind.wrap .i64 v1) (IntKind.wrap .i64 (IntKind.wrap .i64 (1 + Int.tmod (IntKind.wrap .i64 v0) 9) + 1)))) (IntKind.wrap .i64 (1 + Int.tmod (IntKind.wrap .i64 v0) 9))) fun v14 =>
    law26_CommitteeMajority.J1 k v0 v1 v14
  else
    law26_CommitteeMajority.J1 k v0 v1 false
def digest_rounds (k : Nat) : Option (List Int) :=
  chk ((List.replicate 64 0).length = 64 ∧ ([1116352408, 1899447441, 3049323471, 3921009573, 961987163, 1508970993, 2453635748, 2870763221, 3624381080, 310598401, 607225278, 1426881987, 1925078388, 2162078206, 2614888103, 3248222580, 3835390401, 4022224774, 264347078, 604807628, 770255983, 1249150122, 1555081692, 1996064986, 2554220882, 2821834349, 2952996808, 3210313671, 3336571891, 3584528711, 113926993, 338241895, 666307205, 773529912, 1294757372, 1396182291, 1695183700, 1986661051, 2177026350, 2456956037, 2730485921, 2820302411, 3259730800, 3345764771, 3516065817, 3600352804, 4094571909, 275423344, 430227734, 506948616, 659060556, 883997877, 958139571, 1322822218, 1537002063, 1747873779, 1955562222, 2024104815, 2227730452, 2361852424, 2428436474, 2756734187, 3204031479, 3329325298] : List Int).length = 64) <|
  chk (([1116352408, 1899447441, 3049323471, 3921009573, 961987163, 1508970993, 2453635748, 2870763221, 3624381080, 310598401, 607225278, 1426881987, 1925078388, 2162078206, 2614888103, 3248222580, 3835390401, 4022224774, 264347078, 604807628, 770255983, 1249150122, 1555081692, 1996064986, 2554220882, 2821834349, 2952996808, 3210313671, 3336571891, 3584528711, 113926993, 338241895, 666307205, 773529912, 1294757372, 1396182291, 1695183700, 1986661051, 2177026350, 2456956037, 2730485921, 2820302411, 3259730800, 3345764771, 3516065817, 3600352804, 4094571909, 275423344, 430227734, 506948616, 659060556, 883997877, 958139571, 1322822218, 1537002063, 1747873779, 1955562222, 2024104815, 2227730452, 2361852424, 2428436474, 2756734187, 3204031479, 3329325298] : List Int).length = 64) <|
  some ([1116352408, 1899447441, 3049323471, 3921009573, 961987163, 1508970993, 2453635748, 2870763221, 3624381080, 310598401, 607225278, 1426881987, 1925078388, 2162078206, 2614888103, 3248222580, 3835390401, 4022224774, 264347078, 604807628, 770255983, 1249150122, 1555081692, 1996064986, 2554220882, 2821834349, 2952996808, 3210313671, 3336571891, 3584528711, 113926993, 338241895, 666307205, 773529912, 1294757372, 1396182291, 1695183700, 1986661051, 2177026350, 2456956037, 2730485921, 2820302411, 3259730800, 3345764771, 3516065817, 3600352804, 4094571909, 275423344, 430227734, 506948616, 659060556, 883997877, 958139571, 1322822218, 1537002063, 1747873779, 1955562222, 2024104815, 2227730452, 2361852424, 2428436474, 2756734187, 3204031479, 3329325298] : List Int)
def roster_Join_1 (k : Nat) (v0 : Int) (v1 : (List Bool)) (v2 : (List Bool)) : Option Bool :=
  chk ((0 : Int) ≤ v0 ∧ v0 < 64 ∧ (v0).toNat < v1.length) <|
  idx v1 v0 fun v4 =>
  if v4 = true then
    some true
  else
    chk ((0 : Int) ≤ v0 ∧ v0 < 64 ∧ (v0).toNat < v2.length) <|
    idx v2 v0 fun v5 =>
    some v5
def roster_keys_Join_1.J2 (k : Nat) (v3 : Int) (kb1 : Int → (List Int) → Option (List Int)) (v5 : (List Int)) : Option (List Int) :=
  kb1 (IntKind.wrap .i64 (v3 + 1)) v5
def roster_keys_Join_1.L1 (k : Nat) (v0 : (List Bool)) (v1 : (List Bool)) : Nat → Int → (List Int) → Option (List Int)
  | 0, _, _ => none
  | n + 1, v3, v4 =>
    if v3 < 64 then
      bnd1 (roster_Join_1 k v3 v0 v1) fun v6 =>
      if v6 = true then
        chk ((v4.length + ([v3] : List Int).length) * 8 ≤ 140737488355328) <|
        roster_keys_Join_1.J2 k v3 (fun v3_ v4_ => roster_keys_Join_1.L1 k v0 v1 n v3_ v4_) (v4 ++ ([v3] : List Int))
      else
        roster_keys_Join_1.J2 k v3 (fun v3_ v4_ => roster_keys_Join_1.L1 k v0 v1 n v3_ v4_) v4
    else
      some v4
def roster_keys_Join_1 (k : Nat) (v0 : (List Bool)) (v1 : (List Bool)) : Option (List Int) :=
  roster_keys_Join_1.L1 k v0 v1 k 0 ([] : List Int)
def roster_Join (k : Nat) (v0 : (List Int)) (v1 : (List Int)) : Option (List Int) :=
  bnd1 (roster_of k v0) fun v3 =>
  bnd1 (roster_of k v1) fun v4 =>
  chk ((List.replicate 64 false).length = 64 ∧ v3.length = 64) <|
  chk ((List.replicate 64 false).length = 64 ∧ v4.length = 64) <|
  bnd1 (roster_keys_Join_1 k v3 v4) fun v5 =>
  some v5
def roster_Minus_1 (k : Nat) (v0 : Int) (v1 : (List Bool)) (v2 : (List Bool)) : Option Bool :=
  chk ((0 : Int) ≤ v0 ∧ v0 < 64 ∧ (v0).toNat < v1.length) <|
  idx v1 v0 fun v4 =>
  if v4 = true then
    chk ((0 : Int) ≤ v0 ∧ v0 < 64 ∧ (v0).toNat < v2.length) <|
    idx v2 v0 fun v5 =>
    some (!v5)
  else
    some false
def roster_keys_Minus_1.J2 (k : Nat) (v3 : Int) (kb1 : Int → (List Int) → Option (List Int)) (v5 : (List Int)) : Option (List Int) :=
  kb1 (IntKind.wrap .i64 (v3 + 1)) v5
def roster_keys_Minus_1.L1 (k : Nat) (v0 : (List Bool)) (v1 : (List Bool)) : Nat → Int → (List Int) → Option (List Int)
  | 0, _, _ => none
  | n + 1, v3, v4 =>
    if v3 < 64 then
      bnd1 (roster_Minus_1 k v3 v0 v1) fun v6 =>
      if v6 = true then
        chk ((v4.length + ([v3] : List Int).length) * 8 ≤ 140737488355328) <|
        roster_keys_Minus_1.J2 k v3 (fun v3_ v4_ => roster_keys_Minus_1.L1 k v0 v1 n v3_ v4_) (v4 ++ ([v3] : List Int))
      else
        roster_keys_Minus_1.J2 k v3 (fun v3_ v4_ => roster_keys_Minus_1.L1 k v0 v1 n v3_ v4_) v4
    else
      some v4
def roster_keys_Minus_1 (k : Nat) (v0 : (List Bool)) (v1 : (List Bool)) : Option (List Int) :=
  roster_keys_Minus_1.L1 k v0 v1 k 0 ([] : List Int)
def roster_Minus (k : Nat) (v0 : (List Int)) (v1 : (List Int)) : Option (List Int) :=
  bnd1 (roster_of k v0) fun v3 =>
  bnd1 (roster_of k v1) fun v4 =>
  chk ((List.replicate 64 false).length = 64 ∧ v3.length = 64) <|
  chk ((List.replicate 64 false).length = 64 ∧ v4.length = 64) <|
  bnd1 (roster_keys_Minus_1 k v3 v4) fun v5 =>
  some v5
def law24_RosterSets (k : Nat) (v0 : (List Int)) (v1 : (List Int)) (v2 : (List Int)) : Option Bool :=
  if 200 < IntKind.wrap .i64 (IntKind.wrap .i64 ((v0.length : Int) + (v1.length : Int)) + (v2.length : Int)) then
    bnd1 (law24_awake k) fun v4 =>
    some v4
  else
    bnd1 (roster_Join k v0 v1) fun v5 =>
    bnd1 (roster_Join k v5 v2) fun v6 =>
    bnd1 (roster_Join k v2 v1) fun v7 =>
    bnd1 (roster_Join k v0 v7) fun v8 =>
    bnd1 (roster_Join k v1 v2) fun v9 =>
    bnd1 (roster_Minus k v0 v9) fun v10 =>
    bnd1 (roster_Minus k v0 v1) fun v11 =>
    bnd1 (roster_Minus k v11 v2) fun v12 =>
    bnd1 (roster_Minus k v0 v2) fun v13 =>
    bnd1 (roster_Minus k v1 v2) fun v14 =>
    bnd1 (roster_Join k v13 v14) fun v15 =>
    bnd1 (roster_Join k v0 v1) fun v16 =>
    bnd1 (roster_Minus k v16 v2) fun v17 =>
    bnd1 (roster_Minus k v0 v1) fun v18 =>
    bnd1 (roster_Minus k v0 v18) fun v19 =>
    bnd1 (roster_Minus k v1 v0) fun v20 =>
    bnd1 (roster_Minus k v1 v20) fun v21 =>
    bnd1 (ref23_SameInts k v6 v8) fun v22 =>
    if v22 = true then
      bnd1 (ref23_SameInts k v10 v12) fun v23 =>
      if v23 = true then
        bnd1 (ref23_SameInts k v15 v17) fun v24 =>
        if v24 = true then
          bnd1 (ref23_SameInts k v19 v21) fun v25 =>
          if v25 = true then
            if (v6.length : Int) ≤ 64 then
              if (v6.length : Int) = 0 then
                bnd1 (law24_awake k) fun v26 =>
                some v26
              else
                bnd1 (roster_Valid k v6) fun v27 =>
                if v27 = true then
                  bnd1 (law24_awake k) fun v28 =>
                  some v28
                else
                  some false
            else
              some false
          else
            some false
        else
          some false
      else
        some false
    else
      some false
def ref24_Encode.L1 (k : Nat) (v0 : (List Int)) : Nat → Int → (List Int) → Option ((List Int) × Int)
  | 0, _, _ => none
  | n + 1, v4, v5 =>
    if v4 < (v0.length : Int) then
      idx v0 v4 fun v6 =>
      chk ((0 : Int) ≤ (IntKind.wrap .i64 (Int.tdiv v6 32)) ∧ (IntKind.wrap .i64 (Int.tdiv v6 32)).toNat < v5.length) <|
      idx v5 (IntKind.wrap .i64 (Int.tdiv v6 32)) fun v7 =>
      chk ((0 : Int) ≤ IntKind.wrap .u64 (Int.tmod v6 32)) <|
      chk ((0 : Int) ≤ (IntKind.wrap .i64 (Int.tdiv v6 32)) ∧ (IntKind.wrap .i64 (Int.tdiv v6 32)).toNat < v5.length) <|
      ref24_Encode.L1 k v0 n (IntKind.wrap .i64 (v4 + 1)) (v5.set (IntKind.wrap .i64 (Int.tdiv v6 32)).toNat (bitsV .or .i64 v7 (IntKind.wrap .i64 (1 * 2 ^ (min ((IntKind.wrap .u64 (Int.tmod v6 32)).toNat) 64)))))
    else
      some (v5, 0)
def ref24_Encode (k : Nat) (v0 : (List Int)) : Option ((List Int) × Int) :=
  bnd1 (ref24_Valid k v0) fun v3 =>
  if (!v3) = true then
    some (([] : List Int), 43)
  else
    ref24_Encode.L1 k v0 k 0 ([0, 0] : List Int)
def ref24_Decode.J3 (k : Nat) (v3 : Int) (kb2 : Int → (List Int) → Option ((List Int) × Int)) (v5 : (List Int)) : Option ((List Int) × Int) :=
  kb2 (IntKind.wrap .i64 (v3 + 1)) v5
def ref24_Decode.L2 (k : Nat) (v0 : (List Int)) : Nat → Int → (List Int) → Option ((List Int) × Int)
  | 0, _, _ => none
  | n + 1, v3, v4 =>
    if v3 < 64 then
      idx v0 (IntKind.wrap .i64 (Int.tdiv v3 32)) fun v6 =>
      chk ((0 : Int) ≤ IntKind.wrap .u64 (Int.tmod v3 32)) <|
      if (bitsV .and .i64 (Int.fdiv v6 (2 ^ (min ((IntKind.wrap .u64 (Int.tmod v3 32)).toNat) 64))) 1) = 1 then
        chk ((v4.length + ([v3] : List Int).length) * 8 ≤ 140737488355328) <|
        ref24_Decode.J3 k v3 (fun v3_ v4_ => ref24_Decode.L2 k v0 n v3_ v4_) (v4 ++ ([v3] : List Int))
      else
        ref24_Decode.J3 k v3 (fun v3_ v4_ => ref24_Decode.L2 k v0 n v3_ v4_) v4
    else
      some (v4, 0)
def ref24_Decode.J1 (k : Nat) (v0 : (List Int)) : Option ((List Int) × Int) :=
  ref24_Decode.L2 k v0 k 0 ([] : List Int)
def ref24_Decode (k : Nat) (v0 : (List Int)) : Option ((List Int) × Int) :=
  if (v0.length : Int) ≠ 2 then
    some (([] : List Int), 43)
  else
    idx v0 0 fun v7 =>
    if v7 < 0 then
      some (([] : List Int), 43)
    else
      if 4294967296 ≤ v7 then
        some (([] : List Int), 43)
      else
        idx v0 1 fun v8 =>
        if v8 < 0 then
          some (([] : List Int), 43)
        else
          if 4294967296 ≤ v8 then
            some (([] : List Int), 43)
          else
            if v7 = 0 then
              if v8 = 0 then
                some (([] : List Int), 43)
              else
                ref24_Decode.J1 k v0
            else
              ref24_Decode.J1 k v0
def slices_Index_int_int.L1 (k : Nat) (v0 : (List Int)) (v1 : Int) : Nat → Int → Option Int
  | 0, _ => none
  | n + 1, v3 =>
    if v3 < (v0.length : Int) then
      idx v0 v3 fun v4 =>
      if v1 = v4 then
        some v3
      else
        slices_Index_int_int.L1 k v0 v1 n (IntKind.wrap .i64 (v3 + 1))
    else
      some (-1)
def slices_Index_int_int (k : Nat) (v0 : (List Int)) (v1 : Int) : Option Int :=
  slices_Index_int_int.L1 k v0 v1 k 0
def slices_Contains_int_int (k : Nat) (v0 : (List Int)) (v1 : Int) : Option Bool :=
  bnd1 (slices_Index_int_int k v0 v1) fun v3 =>
  some (decide (0 ≤ v3))
def roster_Has (k : Nat) (v0 : (List Int)) (v1 : Int) : Option Bool :=
  bnd1 (slices_Contains_int_int k v0 v1) fun v3 =>
  some v3
def law24_RosterRaw.L1 (k : Nat) (v1 : (List Int)) (v2 : Int) : Nat → (List Int) → Int → Option Bool
  | 0, _, _ => none
  | n + 1, v6, v7 =>
    if v7 < 2 then
      bnd2 (roster_Encode k v6) fun v8 v9 =>
      bnd2 (ref24_Encode k v6) fun v10 v11 =>
      bnd2 (roster_Decode k v6) fun v12 v13 =>
      bnd2 (ref24_Decode k v6) fun v14 v15 =>
      if v9 ≠ v11 then
        some false
      else
        if v13 ≠ v15 then
          some false
        else
          bnd1 (ref23_SameInts k v8 v10) fun v16 =>
          if (!v16) = true then
            some false
          else
            bnd1 (ref23_SameInts k v12 v14) fun v17 =>
            if (!v17) = true then
              some false
            else
              bnd1 (roster_Valid k v6) fun v18 =>
              bnd1 (ref24_Valid k v6) fun v19 =>
              if (v18 != v19) = true then
                some false
              else
                bnd1 (roster_Has k v6 v2) fun v20 =>
                bnd1 (ref24_Has k v6 v2) fun v21 =>
                if (v20 != v21) = true then
                  some false
                else
                  bnd1 (roster_Join k v6 v1) fun v22 =>
                  bnd1 (ref24_Join k v6 v1) fun v23 =>
                  bnd1 (ref23_SameInts k v22 v23) fun v24 =>
                  if (!v24) = true then
                    some false
                  else
                    bnd1 (roster_Minus k v6 v1) fun v25 =>
                    bnd1 (ref24_Minus k v6 v1) fun v26 =>
                    bnd1 (ref23_SameInts k v25 v26) fun v27 =>
                    if (!v27) = true then
                      some false
                    else
                      bnd1 (ref24_Join k v6 ([] : List Int)) fun v28 =>
                      law24_RosterRaw.L1 k v1 v2 n v28 (IntKind.wrap .i64 (v7 + 1))
    else
      bnd1 (law24_awake k) fun v29 =>
      some v29
def law24_RosterRaw (k : Nat) (v0 : (List Int)) (v1 : (List Int)) (v2 : Int) : Option Bool :=
  if 200 < (v0.length : Int) then
    bnd1 (law24_awake k) fun v4 =>
    some v4
  else
    if 200 < (v1.length : Int) then
      bnd1 (law24_awake k) fun v5 =>
      some v5
    else
      law24_RosterRaw.L1 k v1 v2 k v0 0
end Go.TF
