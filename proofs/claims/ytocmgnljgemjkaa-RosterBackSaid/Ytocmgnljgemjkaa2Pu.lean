/- The Go functions as Lean functions (printed by a program of our own). -/
import Derived.Test.Ytocmgnljgemjkaa2AbsV
set_option linter.unusedVariables false
set_option maxRecDepth 100000
namespace Go.TF
open Go Go.Abs

def roster_Decode_1 (k : Nat) (v0 : Int) : Option Bool :=
  if v0 < 0 then
    some true
  else
    some (decide (4294967296 ≤ v0))
def slices_IndexFunc_int_int_Decode_1.L1 (k : Nat) (v0 : (List Int)) : Nat → Int → Option Int
  | 0, _ => none
  | n + 1, v2 =>
    if v2 < (v0.length : Int) then
      idx v0 v2 fun v3 =>
      bnd1 (roster_Decode_1 k v3) fun v4 =>
      if v4 = true then
        some v2
      else
        slices_IndexFunc_int_int_Decode_1.L1 k v0 n (IntKind.wrap .i64 (v2 + 1))
    else
      some (-1)
def slices_IndexFunc_int_int_Decode_1 (k : Nat) (v0 : (List Int)) : Option Int :=
  slices_IndexFunc_int_int_Decode_1.L1 k v0 k 0
def slices_ContainsFunc_int_int_Decode_1 (k : Nat) (v0 : (List Int)) : Option Bool :=
  bnd1 (slices_IndexFunc_int_int_Decode_1 k v0) fun v2 =>
  some (decide (0 ≤ v2))
def roster_Decode.J3 (k : Nat) (v3 : Int) (kb2 : Int → (List Int) → Option ((List Int) × Int)) (v5 : (List Int)) : Option ((List Int) × Int) :=
  kb2 (IntKind.wrap .i64 (v3 + 1)) v5
def roster_Decode.L2 (k : Nat) (v0 : (List Int)) : Nat → Int → (List Int) → Option ((List Int) × Int)
  | 0, _, _ => none
  | n + 1, v3, v4 =>
    if v3 < 64 then
      idx v0 (IntKind.wrap .i64 (Int.tdiv v3 32)) fun v6 =>
      chk ((0 : Int) ≤ Int.tmod v3 32) <|
      if (bitsV .and .i64 (Int.fdiv v6 (2 ^ (min ((Int.tmod v3 32).toNat) 64))) 1) = 1 then
        chk ((v4.length + ([v3] : List Int).length) * 8 ≤ 140737488355328) <|
        roster_Decode.J3 k v3 (fun v3_ v4_ => roster_Decode.L2 k v0 n v3_ v4_) (v4 ++ ([v3] : List Int))
      else
        roster_Decode.J3 k v3 (fun v3_ v4_ => roster_Decode.L2 k v0 n v3_ v4_) v4
    else
      some (v4, 0)
def roster_Decode.J1 (k : Nat) (v0 : (List Int)) : Option ((List Int) × Int) :=
  roster_Decode.L2 k v0 k 0 ([] : List Int)
def roster_Decode (k : Nat) (v0 : (List Int)) : Option ((List Int) × Int) :=
  if (v0.length : Int) ≠ 2 then
    some (([] : List Int), 43)
  else
    bnd1 (slices_ContainsFunc_int_int_Decode_1 k v0) fun v7 =>
    if v7 = true then
      some (([] : List Int), 43)
    else
      idx v0 0 fun v8 =>
      if v8 = 0 then
        idx v0 1 fun v9 =>
        if v9 = 0 then
          some (([] : List Int), 43)
        else
          roster_Decode.J1 k v0
      else
        roster_Decode.J1 k v0
def roster_key (k : Nat) (v0 : Int) : Option Bool :=
  if 0 ≤ v0 then
    some (decide (v0 < 64))
  else
    some false
def roster_of.J2 (k : Nat) (v2 : Int) (kb1 : Int → (List Bool) → Option (List Bool)) (v4 : (List Bool)) : Option (List Bool) :=
  kb1 (IntKind.wrap .i64 (v2 + 1)) v4
def roster_of.L1 (k : Nat) (v0 : (List Int)) : Nat → Int → (List Bool) → Option (List Bool)
  | 0, _, _ => none
  | n + 1, v2, v3 =>
    if v2 < (v0.length : Int) then
      idx v0 v2 fun v5 =>
      bnd1 (roster_key k v5) fun v6 =>
      if v6 = true then
        chk ((0 : Int) ≤ v5 ∧ v5 < 64 ∧ (v5).toNat < v3.length) <|
        roster_of.J2 k v2 (fun v2_ v3_ => roster_of.L1 k v0 n v2_ v3_) (v3.set (v5).toNat true)
      else
        roster_of.J2 k v2 (fun v2_ v3_ => roster_of.L1 k v0 n v2_ v3_) v3
    else
      chk (v3.length = 64) <|
      chk ((List.replicate 64 false).length = 64 ∧ v3.length = 64) <|
      chk (v3.length = 64) <|
      some v3
def roster_of (k : Nat) (v0 : (List Int)) : Option (List Bool) :=
  roster_of.L1 k v0 k 0 (List.replicate 64 false)
def roster_Valid.J2 (k : Nat) (v2 : Int) (kb1 : Int → Option Bool) : Option Bool :=
  kb1 (IntKind.wrap .i64 (v2 + 1))
def roster_Valid.L1 (k : Nat) (v0 : (List Int)) : Nat → Int → Option Bool
  | 0, _ => none
  | n + 1, v2 =>
    if v2 < (v0.length : Int) then
      idx v0 v2 fun v3 =>
      bnd1 (roster_key k v3) fun v4 =>
      if (!v4) = true then
        some false
      else
        if 0 < v2 then
          idx v0 (IntKind.wrap .i64 (v2 - 1)) fun v5 =>
          if v3 ≤ v5 then
            some false
          else
            roster_Valid.J2 k v2 (fun v2_ => roster_Valid.L1 k v0 n v2_)
        else
          roster_Valid.J2 k v2 (fun v2_ => roster_Valid.L1 k v0 n v2_)
    else
      bnd1 (roster_of k v0) fun v6 =>
      chk (v6.length = 64) <|
      some (v6 != (List.replicate 64 false))
def roster_Valid (k : Nat) (v0 : (List Int)) : Option Bool :=
  roster_Valid.L1 k v0 k 0
def roster_Encode.L1 (k : Nat) (v0 : (List Int)) : Nat → Int → (List Int) → Option ((List Int) × Int)
  | 0, _, _ => none
  | n + 1, v4, v5 =>
    if v4 < (v0.length : Int) then
      idx v0 v4 fun v6 =>
      chk ((0 : Int) ≤ (IntKind.wrap .i64 (Int.tdiv v6 32)) ∧ (IntKind.wrap .i64 (Int.tdiv v6 32)).toNat < v5.length) <|
      idx v5 (IntKind.wrap .i64 (Int.tdiv v6 32)) fun v7 =>
      chk ((0 : Int) ≤ Int.tmod v6 32) <|
      chk ((0 : Int) ≤ (IntKind.wrap .i64 (Int.tdiv v6 32)) ∧ (IntKind.wrap .i64 (Int.tdiv v6 32)).toNat < v5.length) <|
      roster_Encode.L1 k v0 n (IntKind.wrap .i64 (v4 + 1)) (v5.set (IntKind.wrap .i64 (Int.tdiv v6 32)).toNat (bitsV .or .i64 v7 (IntKind.wrap .i64 (1 * 2 ^ (min ((Int.tmod v6 32).toNat) 64)))))
    else
      some (v5, 0)
def roster_Encode (k : Nat) (v0 : (List Int)) : Option ((List Int) × Int) :=
  bnd1 (roster_Valid k v0) fun v3 =>
  if (!v3) = true then
    some (([] : List Int), 43)
  else
    roster_Encode.L1 k v0 k 0 ([0, 0] : List Int)
def ref23_SameInts.L1 (k : Nat) (v0 : (List Int)) (v1 : (List Int)) : Nat → Int → Option Bool
  | 0, _ => none
  | n + 1, v3 =>
    if v3 < (v0.length : Int) then
      idx v0 v3 fun v4 =>
      idx v1 v3 fun v5 =>
      if v4 ≠ v5 then
        some false
      else
        ref23_SameInts.L1 k v0 v1 n (IntKind.wrap .i64 (v3 + 1))
    else
      some true
def ref23_SameInts (k : Nat) (v0 : (List Int)) (v1 : (List Int)) : Option Bool :=
  if (v0.length : Int) ≠ (v1.length : Int) then
    some false
  else
    ref23_SameInts.L1 k v0 v1 k 0
def law24_awake (k : Nat) : Option Bool :=
  bnd2 (roster_Encode k ([0, 3, 33] : List Int)) fun v1 v2 =>
  bnd2 (roster_Decode k v1) fun v3 v4 =>
  if v2 = 0 then
    if v4 = 0 then
      bnd1 (ref23_SameInts k v1 ([9, 2] : List Int)) fun v5 =>
      if v5 = true then
        bnd1 (ref23_SameInts k v3 ([0, 3, 33] : List Int)) fun v6 =>
        some v6
      else
        some false
    else
      some false
  else
    some false
def law24_RosterNumbers.J1 (k : Nat) (v0 : Int) (v1 : Int) (v3 : (List Int)) (v4 : Int) (v5 : (List Int)) (v6 : Int) : Option Bool :=
  bnd2 (roster_Decode k ([IntKind.wrap .i64 v0, IntKind.wrap .i64 (4294967296 + IntKind.wrap .i64 v1)] : List Int)) fun v7 v8 =>
  bnd2 (roster_Decode k ([IntKind.wrap .i64 (IntKind.wrap .i64 (0 - (IntKind.wrap .i64 v0)) - 1), IntKind.wrap .i64 v1] : List Int)) fun v9 v10 =>
  chk ((([IntKind.wrap .i64 v0, IntKind.wrap .i64 v1] : List Int).length + ([0] : List Int).length) * 8 ≤ 140737488355328) <|
  bnd2 (roster_Decode k (([IntKind.wrap .i64 v0, IntKind.wrap .i64 v1] : List Int) ++ ([0] : List Int))) fun v11 v12 =>
  if v4 = 0 then
    if v6 = 0 then
      bnd1 (ref23_SameInts k ([IntKind.wrap .i64 v0, IntKind.wrap .i64 v1] : List Int) v5) fun v13 =>
      if v13 = true then
        bnd1 (roster_Valid k v3) fun v14 =>
        if v14 = true then
          if v8 = 43 then
            if v10 = 43 then
              if v12 = 43 then
                bnd1 (law24_awake k) fun v15 =>
                some v15
              else
                some false
            else
              some false
          else
            some false
        else
          some false
      else
        some false
    else
      some false
  else
    some false
def law24_RosterNumbers (k : Nat) (v0 : Int) (v1 : Int) : Option Bool :=
  bnd2 (roster_Decode k ([IntKind.wrap .i64 v0, IntKind.wrap .i64 v1] : List Int)) fun v3 v4 =>
  bnd2 (roster_Encode k v3) fun v5 v6 =>
  if v0 = 0 then
    if v1 = 0 then
      if v4 = 43 then
        if v6 = 43 then
          bnd1 (law24_awake k) fun v16 =>
          some v16
        else
          some false
      else
        some false
    else
      law24_RosterNumbers.J1 k v0 v1 v3 v4 v5 v6
  else
    law24_RosterNumbers.J1 k v0 v1 v3 v4 v5 v6
def roster_Join_1 (k : Nat) (v0 : Int) (v1 : (List Bool)) (v2 : (List Bool)) : Option Bool :=
  chk ((0 : Int) ≤ v0 ∧ v0 < 64 ∧ (v0).toNat < v1.length) <|
  idx v1 v0 fun v4 =>
  if v4 = true then
    some true
  else
    chk ((0 : Int) ≤ v0 ∧ v0 < 64 ∧ (v0).toNat < v2.length) <|
    idx v2 v0 fun v5 =>
    some v5
def roster_keys_Join_1.J2 (k : Nat) (v3 : Int) (kb1 : Int → (List Int) → Option (List Int)) (v5 : (List Int)) : Option (List Int) :=
  kb1 (IntKind.wrap .i64 (v3 + 1)) v5
def roster_keys_Join_1.L1 (k : Nat) (v0 : (List Bool)) (v1 : (List Bool)) : Nat → Int → (List Int) → Option (List Int)
  | 0, _, _ => none
  | n + 1, v3, v4 =>
    if v3 < 64 then
      bnd1 (roster_Join_1 k v3 v0 v1) fun v6 =>
      if v6 = true then
        chk ((v4.length + ([v3] : List Int).length) * 8 ≤ 140737488355328) <|
        roster_keys_Join_1.J2 k v3 (fun v3_ v4_ => roster_keys_Join_1.L1 k v0 v1 n v3_ v4_) (v4 ++ ([v3] : List Int))
      else
        roster_keys_Join_1.J2 k v3 (fun v3_ v4_ => roster_keys_Join_1.L1 k v0 v1 n v3_ v4_) v4
    else
      some v4
def roster_keys_Join_1 (k : Nat) (v0 : (List Bool)) (v1 : (List Bool)) : Option (List Int) :=
  roster_keys_Join_1.L1 k v0 v1 k 0 ([] : List Int)
def roster_Join (k : Nat) (v0 : (List Int)) (v1 : (List Int)) : Option (List Int) :=
  bnd1 (roster_of k v0) fun v3 =>
  bnd1 (roster_of k v1) fun v4 =>
  chk ((List.replicate 64 false).length = 64 ∧ v3.length = 64) <|
  chk ((List.replicate 64 false).length = 64 ∧ v4.length = 64) <|
  bnd1 (roster_keys_Join_1 k v3 v4) fun v5 =>
  some v5
def roster_Minus_1 (k : Nat) (v0 : Int) (v1 : (List Bool)) (v2 : (List Bool)) : Option Bool :=
  chk ((0 : Int) ≤ v0 ∧ v0 < 64 ∧ (v0).toNat < v1.length) <|
  idx v1 v0 fun v4 =>
  if v4 = true then
    chk ((0 : Int) ≤ v0 ∧ v0 < 64 ∧ (v0).toNat < v2.length) <|
    idx v2 v0 fun v5 =>
    some (!v5)
  else
    some false
def roster_keys_Minus_1.J2 (k : Nat) (v3 : Int) (kb1 : Int → (List Int) → Option (List Int)) (v5 : (List Int)) : Option (List Int) :=
  kb1 (IntKind.wrap .i64 (v3 + 1)) v5
def roster_keys_Minus_1.L1 (k : Nat) (v0 : (List Bool)) (v1 : (List Bool)) : Nat → Int → (List Int) → Option (List Int)
  | 0, _, _ => none
  | n + 1, v3, v4 =>
    if v3 < 64 then
      bnd1 (roster_Minus_1 k v3 v0 v1) fun v6 =>
      if v6 = true then
        chk ((v4.length + ([v3] : List Int).length) * 8 ≤ 140737488355328) <|
        roster_keys_Minus_1.J2 k v3 (fun v3_ v4_ => roster_keys_Minus_1.L1 k v0 v1 n v3_ v4_) (v4 ++ ([v3] : List Int))
      else
        roster_keys_Minus_1.J2 k v3 (fun v3_ v4_ => roster_keys_Minus_1.L1 k v0 v1 n v3_ v4_) v4
    else
      some v4
def roster_keys_Minus_1 (k : Nat) (v0 : (List Bool)) (v1 : (List Bool)) : Option (List Int) :=
  roster_keys_Minus_1.L1 k v0 v1 k 0 ([] : List Int)
def roster_Minus (k : Nat) (v0 : (List Int)) (v1 : (List Int)) : Option (List Int) :=
  bnd1 (roster_of k v0) fun v3 =>
  bnd1 (roster_of k v1) fun v4 =>
  chk ((List.replicate 64 false).length = 64 ∧ v3.length = 64) <|
  chk ((List.replicate 64 false).length = 64 ∧ v4.length = 64) <|
  bnd1 (roster_keys_Minus_1 k v3 v4) fun v5 =>
  some v5
def law24_RosterSets (k : Nat) (v0 : (List Int)) (v1 : (List Int)) (v2 : (List Int)) : Option Bool :=
  if 200 < IntKind.wrap .i64 (IntKind.wrap .i64 ((v0.length : Int) + (v1.length : Int)) + (v2.length : Int)) then
    bnd1 (law24_awake k) fun v4 =>
    some v4
  else
    bnd1 (roster_Join k v0 v1) fun v5 =>
    bnd1 (roster_Join k v5 v2) fun v6 =>
    bnd1 (roster_Join k v2 v1) fun v7 =>
    bnd1 (roster_Join k v0 v7) fun v8 =>
    bnd1 (roster_Join k v1 v2) fun v9 =>
    bnd1 (roster_Minus k v0 v9) fun v10 =>
    bnd1 (roster_Minus k v0 v1) fun v11 =>
    bnd1 (roster_Minus k v11 v2) fun v12 =>
    bnd1 (roster_Minus k v0 v2) fun v13 =>
    bnd1 (roster_Minus k v1 v2) fun v14 =>
    bnd1 (roster_Join k v13 v14) fun v15 =>
    bnd1 (roster_Join k v0 v1) fun v16 =>
    bnd1 (roster_Minus k v16 v2) fun v17 =>
    bnd1 (roster_Minus k v0 v1) fun v18 =>
    bnd1 (roster_Minus k v0 v18) fun v19 =>
    bnd1 (roster_Minus k v1 v0) fun v20 =>
    bnd1 (roster_Minus k v1 v20) fun v21 =>
    bnd1 (ref23_SameInts k v6 v8) fun v22 =>
    if v22 = true then
      bnd1 (ref23_SameInts k v10 v12) fun v23 =>
      if v23 = true then
        bnd1 (ref23_SameInts k v15 v17) fun v24 =>
        if v24 = true then
          bnd1 (ref23_SameInts k v19 v21) fun v25 =>
          if v25 = true then
            if (v6.length : Int) ≤ 64 then
              if (v6.length : Int) = 0 then
                bnd1 (law24_awake k) fun v26 =>
                some v26
              else
                bnd1 (roster_Valid k v6) fun v27 =>
                if v27 = true then
                  bnd1 (law24_awake k) fun v28 =>
                  some v28
                else
                  some false
            else
              some false
          else
            some false
        else
          some false
      else
        some false
    else
      some false
def ref24_Valid.J2 (k : Nat) (v2 : Int) (kb1 : Int → Option Bool) : Option Bool :=
  kb1 (IntKind.wrap .i64 (v2 + 1))
def ref24_Valid.L1 (k : Nat) (v0 : (List Int)) : Nat → Int → Option Bool
  | 0, _ => none
  | n + 1, v2 =>
    if v2 < (v0.length : Int) then
      idx v0 v2 fun v3 =>
      if v3 < 0 then
        some false
      else
        if 64 ≤ v3 then
          some false
        else
          if 0 < v2 then
            idx v0 (IntKind.wrap .i64 (v2 - 1)) fun v4 =>
            if v3 ≤ v4 then
              some false
            else
              ref24_Valid.J2 k v2 (fun v2_ => ref24_Valid.L1 k v0 n v2_)
          else
            ref24_Valid.J2 k v2 (fun v2_ => ref24_Valid.L1 k v0 n v2_)
    else
      some true
def ref24_Valid (k : Nat) (v0 : (List Int)) : Option Bool :=
  if (v0.length : Int) = 0 then
    some false
  else
    if 64 < (v0.length : Int) then
      some false
    else
      ref24_Valid.L1 k v0 k 0
def ref24_Encode.L1 (k : Nat) (v0 : (List Int)) : Nat → Int → (List Int) → Option ((List Int) × Int)
  | 0, _, _ => none
  | n + 1, v4, v5 =>
    if v4 < (v0.length : Int) then
      idx v0 v4 fun v6 =>
      chk ((0 : Int) ≤ (IntKind.wrap .i64 (Int.tdiv v6 32)) ∧ (IntKind.wrap .i64 (Int.tdiv v6 32)).toNat < v5.length) <|
      idx v5 (IntKind.wrap .i64 (Int.tdiv v6 32)) fun v7 =>
      chk ((0 : Int) ≤ IntKind.wrap .u64 (Int.tmod v6 32)) <|
      chk ((0 : Int) ≤ (IntKind.wrap .i64 (Int.tdiv v6 32)) ∧ (IntKind.wrap .i64 (Int.tdiv v6 32)).toNat < v5.length) <|
      ref24_Encode.L1 k v0 n (IntKind.wrap .i64 (v4 + 1)) (v5.set (IntKind.wrap .i64 (Int.tdiv v6 32)).toNat (bitsV .or .i64 v7 (IntKind.wrap .i64 (1 * 2 ^ (min ((IntKind.wrap .u64 (Int.tmod v6 32)).toNat) 64)))))
    else
      some (v5, 0)
def ref24_Encode (k : Nat) (v0 : (List Int)) : Option ((List Int) × Int) :=
  bnd1 (ref24_Valid k v0) fun v3 =>
  if (!v3) = true then
    some (([] : List Int), 43)
  else
    ref24_Encode.L1 k v0 k 0 ([0, 0] : List Int)
def ref24_Decode.J3 (k : Nat) (v3 : Int) (kb2 : Int → (List Int) → Option ((List Int) × Int)) (v5 : (List Int)) : Option ((List Int) × Int) :=
  kb2 (IntKind.wrap .i64 (v3 + 1)) v5
def ref24_Decode.L2 (k : Nat) (v0 : (List Int)) : Nat → Int → (List Int) → Option ((List Int) × Int)
  | 0, _, _ => none
  | n + 1, v3, v4 =>
    if v3 < 64 then
      idx v0 (IntKind.wrap .i64 (Int.tdiv v3 32)) fun v6 =>
      chk ((0 : Int) ≤ IntKind.wrap .u64 (Int.tmod v3 32)) <|
      if (bitsV .and .i64 (Int.fdiv v6 (2 ^ (min ((IntKind.wrap .u64 (Int.tmod v3 32)).toNat) 64))) 1) = 1 then
        chk ((v4.length + ([v3] : List Int).length) * 8 ≤ 140737488355328) <|
        ref24_Decode.J3 k v3 (fun v3_ v4_ => ref24_Decode.L2 k v0 n v3_ v4_) (v4 ++ ([v3] : List Int))
      else
        ref24_Decode.J3 k v3 (fun v3_ v4_ => ref24_Decode.L2 k v0 n v3_ v4_) v4
    else
      some (v4, 0)
def ref24_Decode.J1 (k : Nat) (v0 : (List Int)) : Option ((List Int) × Int) :=
  ref24_Decode.L2 k v0 k 0 ([] : List Int)
def ref24_Decode (k : Nat) (v0 : (List Int)) : Option ((List Int) × Int) :=
  if (v0.length : Int) ≠ 2 then
    some (([] : List Int), 43)
  else
    idx v0 0 fun v7 =>
    if v7 < 0 then
      some (([] : List Int), 43)
    else
      if 4294967296 ≤ v7 then
        some (([] : List Int), 43)
      else
        idx v0 1 fun v8 =>
        if v8 < 0 then
          some (([] : List Int), 43)
        else
          if 4294967296 ≤ v8 then
            some (([] : List Int), 43)
          else
            if v7 = 0 then
              if v8 = 0 then
                some (([] : List Int), 43)
              else
                ref24_Decode.J1 k v0
            else
              ref24_Decode.J1 k v0
def slices_Index_int_int.L1 (k : Nat) (v0 : (List Int)) (v1 : Int) : Nat → Int → Option Int
  | 0, _ => none
  | n + 1, v3 =>
    if v3 < (v0.length : Int) then
      idx v0 v3 fun v4 =>
      if v1 = v4 then
        some v3
      else
        slices_Index_int_int.L1 k v0 v1 n (IntKind.wrap .i64 (v3 + 1))
    else
      some (-1)
def slices_Index_int_int (k : Nat) (v0 : (List Int)) (v1 : Int) : Option Int :=
  slices_Index_int_int.L1 k v0 v1 k 0
def slices_Contains_int_int (k : Nat) (v0 : (List Int)) (v1 : Int) : Option Bool :=
  bnd1 (slices_Index_int_int k v0 v1) fun v3 =>
  some (decide (0 ≤ v3))
def roster_Has (k : Nat) (v0 : (List Int)) (v1 : Int) : Option Bool :=
  bnd1 (slices_Contains_int_int k v0 v1) fun v3 =>
  some v3
def ref24_Has.L1 (k : Nat) (v0 : (List Int)) (v1 : Int) : Nat → Int → Option Bool
  | 0, _ => none
  | n + 1, v3 =>
    if v3 < (v0.length : Int) then
      idx v0 v3 fun v4 =>
      if v4 = v1 then
        some true
      else
        ref24_Has.L1 k v0 v1 n (IntKind.wrap .i64 (v3 + 1))
    else
      some false
def ref24_Has (k : Nat) (v0 : (List Int)) (v1 : Int) : Option Bool :=
  ref24_Has.L1 k v0 v1 k 0
def ref24_Join.J2 (k : Nat) (v3 : Int) (kb1 : Int → (List Int) → Option (List Int)) (v5 : (List Int)) : Option (List Int) :=
  kb1 (IntKind.wrap .i64 (v3 + 1)) v5
def ref24_Join.L1 (k : Nat) (v0 : (List Int)) (v1 : (List Int)) : Nat → Int → (List Int) → Option (List Int)
  | 0, _, _ => none
  | n + 1, v3, v4 =>
    if v3 < 64 then
      bnd1 (ref24_Has k v0 v3) fun v6 =>
      if v6 = true then
        chk ((v4.length + ([v3] : List Int).length) * 8 ≤ 140737488355328) <|
        ref24_Join.J2 k v3 (fun v3_ v4_ => ref24_Join.L1 k v0 v1 n v3_ v4_) (v4 ++ ([v3] : List Int))
      else
        bnd1 (ref24_Has k v1 v3) fun v7 =>
        if v7 = true then
          chk ((v4.length + ([v3] : List Int).length) * 8 ≤ 140737488355328) <|
          ref24_Join.J2 k v3 (fun v3_ v4_ => ref24_Join.L1 k v0 v1 n v3_ v4_) (v4 ++ ([v3] : List Int))
        else
          ref24_Join.J2 k v3 (fun v3_ v4_ => ref24_Join.L1 k v0 v1 n v3_ v4_) v4
    else
      some v4
def ref24_Join (k : Nat) (v0 : (List Int)) (v1 : (List Int)) : Option (List Int) :=
  ref24_Join.L1 k v0 v1 k 0 ([] : List Int)
def ref24_Minus.J2 (k : Nat) (v3 : Int) (kb1 : Int → (List Int) → Option (List Int)) (v5 : (List Int)) : Option (List Int) :=
  kb1 (IntKind.wrap .i64 (v3 + 1)) v5
def ref24_Minus.L1 (k : Nat) (v0 : (List Int)) (v1 : (List Int)) : Nat → Int → (List Int) → Option (List Int)
  | 0, _, _ => none
  | n + 1, v3, v4 =>
    if v3 < 64 then
      bnd1 (ref24_Has k v0 v3) fun v6 =>
      if v6 = true then
        bnd1 (ref24_Has k v1 v3) fun v7 =>
        if (!v7) = true then
          chk ((v4.length + ([v3] : List Int).length) * 8 ≤ 140737488355328) <|
          ref24_Minus.J2 k v3 (fun v3_ v4_ => ref24_Minus.L1 k v0 v1 n v3_ v4_) (v4 ++ ([v3] : List Int))
        else
          ref24_Minus.J2 k v3 (fun v3_ v4_ => ref24_Minus.L1 k v0 v1 n v3_ v4_) v4
      else
        ref24_Minus.J2 k v3 (fun v3_ v4_ => ref24_Minus.L1 k v0 v1 n v3_ v4_) v4
    else
      some v4
def ref24_Minus (k : Nat) (v0 : (List Int)) (v1 : (List Int)) : Option (List Int) :=
  ref24_Minus.L1 k v0 v1 k 0 ([] : List Int)
def law24_RosterRaw.L1 (k : Nat) (v1 : (List Int)) (v2 : Int) : Nat → (List Int) → Int → Option Bool
  | 0, _, _ => none
  | n + 1, v6, v7 =>
    if v7 < 2 then
      bnd2 (roster_Encode k v6) fun v8 v9 =>
      bnd2 (ref24_Encode k v6) fun v10 v11 =>
      bnd2 (roster_Decode k v6) fun v12 v13 =>
      bnd2 (ref24_Decode k v6) fun v14 v15 =>
      if v9 ≠ v11 then
        some false
      else
        if v13 ≠ v15 then
          some false
        else
          bnd1 (ref23_SameInts k v8 v10) fun v16 =>
          if (!v16) = true then
            some false
          else
            bnd1 (ref23_SameInts k v12 v14) fun v17 =>
            if (!v17) = true then
              some false
            else
              bnd1 (roster_Valid k v6) fun v18 =>
              bnd1 (ref24_Valid k v6) fun v19 =>
              if (v18 != v19) = true then
                some false
              else
                bnd1 (roster_Has k v6 v2) fun v20 =>
                bnd1 (ref24_Has k v6 v2) fun v21 =>
                if (v20 != v21) = true then
                  some false
                else
                  bnd1 (roster_Join k v6 v1) fun v22 =>
                  bnd1 (ref24_Join k v6 v1) fun v23 =>
                  bnd1 (ref23_SameInts k v22 v23) fun v24 =>
                  if (!v24) = true then
                    some false
                  else
                    bnd1 (roster_Minus k v6 v1) fun v25 =>
                    bnd1 (ref24_Minus k v6 v1) fun v26 =>
                    bnd1 (ref23_SameInts k v25 v26) fun v27 =>
                    if (!v27) = true then
                      some false
                    else
                      bnd1 (ref24_Join k v6 ([] : List Int)) fun v28 =>
                      law24_RosterRaw.L1 k v1 v2 n v28 (IntKind.wrap .i64 (v7 + 1))
    else
      bnd1 (law24_awake k) fun v29 =>
      some v29
def law24_RosterRaw (k : Nat) (v0 : (List Int)) (v1 : (List Int)) (v2 : Int) : Option Bool :=
  if 200 < (v0.length : Int) then
    bnd1 (law24_awake k) fun v4 =>
    some v4
  else
    if 200 < (v1.length : Int) then
      bnd1 (law24_awake k) fun v5 =>
      some v5
    else
      law24_RosterRaw.L1 k v1 v2 k v0 0
def law24_RosterBack.J2 (k : Nat) (v3 : Int) (kb1 : Int → (List Int) → (List Int) → Option Bool) (v6 : (List Int)) (v7 : (List Int)) : Option Bool :=
  kb1 (IntKind.wrap .i64 (v3 + 1)) v6 v7
def law24_RosterBack.J3 (k : Nat) (v1 : Int) (v3 : Int) (v5 : (List Int)) (kb1 : Int → (List Int) → (List Int) → Option Bool) (v8 : (List Int)) : Option Bool :=
  chk ((0 : Int) ≤ IntKind.wrap .u64 v3) <|
  if (bitsV .and .u64 (Int.fdiv v1 (2 ^ (min ((IntKind.wrap .u64 v3).toNat) 64))) 1) = 1 then
    chk ((v5.length + ([v3] : List Int).length) * 8 ≤ 140737488355328) <|
    law24_RosterBack.J2 k v3 kb1 v8 (v5 ++ ([v3] : List Int))
  else
    law24_RosterBack.J2 k v3 kb1 v8 v5
def law24_RosterBack.J5 (k : Nat) (v19 : Int) (kb4 : Int → Option Bool) (v20 : Bool) : Option Bool :=
  if v20 = true then
    some false
  else
    kb4 (IntKind.wrap .i64 (v19 + 1))
def law24_RosterBack.L4 (k : Nat) (v0 : Int) (v1 : Int) (v4 : (List Int)) (v5 : (List Int)) (v14 : (List Int)) (v15 : (List Int)) : Nat → Int → Option Bool
  | 0, _ => none
  | n + 1, v19 =>
    if v19 < 64 then
      chk ((0 : Int) ≤ IntKind.wrap .u64 v19) <|
      chk ((0 : Int) ≤ IntKind.wrap .u64 v19) <|
      bnd1 (roster_Has k v14 v19) fun v21 =>
      if (bitsV .and .u64 (Int.fdiv v0 (2 ^ (min ((IntKind.wrap .u64 v19).toNat) 64))) 1) = 1 then
        if (v21 != true) = true then
          law24_RosterBack.J5 k v19 (fun v19_ => law24_RosterBack.L4 k v0 v1 v4 v5 v14 v15 n v19_) true
        else
          bnd1 (roster_Has k v15 v19) fun v22 =>
          if (v22 == ((bitsV .and .u64 (Int.fdiv v1 (2 ^ (min ((IntKind.wrap .u64 v19).toNat) 64))) 1) == 1)) = true then
            law24_RosterBack.J5 k v19 (fun v19_ => law24_RosterBack.L4 k v0 v1 v4 v5 v14 v15 n v19_) true
          else
            bnd1 (roster_Has k v4 v19) fun v23 =>
            law24_RosterBack.J5 k v19 (fun v19_ => law24_RosterBack.L4 k v0 v1 v4 v5 v14 v15 n v19_) (v23 != true)
      else
        if (v21 != ((bitsV .and .u64 (Int.fdiv v1 (2 ^ (min ((IntKind.wrap .u64 v19).toNat) 64))) 1) == 1)) = true then
          law24_RosterBack.J5 k v19 (fun v19_ => law24_RosterBack.L4 k v0 v1 v4 v5 v14 v15 n v19_) true
        else
          bnd1 (roster_Has k v15 v19) fun v24 =>
          if (v24 != false) = true then
            law24_RosterBack.J5 k v19 (fun v19_ => law24_RosterBack.L4 k v0 v1 v4 v5 v14 v15 n v19_) true
          else
            bnd1 (roster_Has k v4 v19) fun v25 =>
            law24_RosterBack.J5 k v19 (fun v19_ => law24_RosterBack.L4 k v0 v1 v4 v5 v14 v15 n v19_) (v25 != false)
    else
      bnd1 (roster_Join k v15 v5) fun v26 =>
      bnd1 (ref23_SameInts k v26 v14) fun v27 =>
      if v27 = true then
        bnd1 (law24_awake k) fun v28 =>
        some v28
      else
        some false
def law24_RosterBack.L1 (k : Nat) (v0 : Int) (v1 : Int) : Nat → Int → (List Int) → (List Int) → Option Bool
  | 0, _, _, _ => none
  | n + 1, v3, v4, v5 =>
    if v3 < 64 then
      chk ((0 : Int) ≤ IntKind.wrap .u64 v3) <|
      if (bitsV .and .u64 (Int.fdiv v0 (2 ^ (min ((IntKind.wrap .u64 v3).toNat) 64))) 1) = 1 then
        chk ((v4.length + ([v3] : List Int).length) * 8 ≤ 140737488355328) <|
        law24_RosterBack.J3 k v1 v3 v5 (fun v3_ v4_ v5_ => law24_RosterBack.L1 k v0 v1 n v3_ v4_ v5_) (v4 ++ ([v3] : List Int))
      else
        law24_RosterBack.J3 k v1 v3 v5 (fun v3_ v4_ v5_ => law24_RosterBack.L1 k v0 v1 n v3_ v4_ v5_) v4
    else
      bnd2 (roster_Encode k v4) fun v9 v10 =>
      bnd2 (roster_Decode k v9) fun v11 v12 =>
      if v0 = 0 then
        if v10 = 43 then
          if v12 = 43 then
            bnd1 (law24_awake k) fun v13 =>
            some v13
          else
            some false
        else
          some false
      else
        bnd1 (roster_Join k v4 v5) fun v14 =>
        bnd1 (roster_Minus k v4 v5) fun v15 =>
        if v10 ≠ 0 then
          some false
        else
          if v12 ≠ 0 then
            some false
          else
            bnd1 (ref23_SameInts k v4 v11) fun v16 =>
            if (!v16) = true then
              some false
            else
              if (v9.length : Int) ≠ 2 then
                some false
              else
                idx v9 0 fun v17 =>
                idx v9 1 fun v18 =>
                if (bitsV .or .u64 (IntKind.wrap .u64 v17) (IntKind.wrap .u64 ((IntKind.wrap .u64 v18) * 2 ^ (32)))) ≠ v0 then
                  some false
                else
                  law24_RosterBack.L4 k v0 v1 v4 v5 v14 v15 k 0
def law24_RosterBack (k : Nat) (v0 : Int) (v1 : Int) : Option Bool :=
  law24_RosterBack.L1 k v0 v1 k 0 ([] : List Int) ([] : List Int)
end Go.TF
