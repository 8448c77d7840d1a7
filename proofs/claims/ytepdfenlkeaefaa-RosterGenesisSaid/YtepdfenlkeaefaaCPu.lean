/- The Go functions as Lean functions (printed by a program of our own). -/
import Derived.Test.YtepdfenlkeaefaaAbsX
set_option linter.unusedVariables false
set_option maxRecDepth 100000
namespace Go.TF
open Go Go.Abs
structure api_Edge where
  From : Int
  To : Int
  Level : Int
@[simp] def api_Edge.av (x : api_Edge) : AV := AV.agg [AV.int .i64 x.From, AV.int .i64 x.To, AV.int .i64 x.Level]
@[simp] theorem api_Edge.okEls (l : List api_Edge) : okEls 3 (l.map api_Edge.av) ↔ True := iff_true_intro (okEls_iff.2 fun x hx => by
  simp only [List.mem_map] at hx
  obtain ⟨b, _, rfl⟩ := hx
  simp)
@[simp] theorem api_Edge.gdF (S : Nat → Prop) (l : List api_Edge) : gdL S (flatA (l.map api_Edge.av)) ↔ True := iff_true_intro (gdL_flat (by simp) l)
@[simp] theorem api_Edge.frF (l : List api_Edge) : freshL (flatA (l.map api_Edge.av)) = true := freshL_flat (by simp) l
@[simp] theorem api_Edge.renF (σ : Nat → Nat) (l : List api_Edge) : renL σ (flatA (l.map api_Edge.av)) = flatA (l.map api_Edge.av) := renL_flat (by simp) l
@[simp] theorem api_Edge.ids (S : Nat → Prop) (l : List api_Edge) : idsInL S (l.map api_Edge.av) ↔ True := iff_true_intro (ids_map_of (by simp) l)
def mill_Light (k : Nat) (v0 : (List Int)) : Option Bool :=
  some (decide ((v0.length : Int) ≤ 400))
def roster_key (k : Nat) (v0 : Int) : Option Bool :=
  if 0 ≤ v0 then
    some (decide (v0 < 64))
  else
    some false
def roster_of.J2 (k : Nat) (v2 : Int) (kb1 : Int → (List Bool) → Option (List Bool)) (v4 : (List Bool)) : Option (List Bool) :=
  kb1 (IntKind.wrap .i64 (v2 + 1)) v4
def roster_of.L1 (k : Nat) (v0 : (List Int)) : Nat → Int → (List Bool) → Option (List Bool)
  | 0, _, _ => none
  | n + 1, v2, v3 =>
    if v2 < (v0.length : Int) then
      idx v0 v2 fun v5 =>
      bnd1 (roster_key k v5) fun v6 =>
      if v6 = true then
        chk ((0 : Int) ≤ v5 ∧ v5 < 64 ∧ (v5).toNat < v3.length) <|
        roster_of.J2 k v2 (fun v2_ v3_ => roster_of.L1 k v0 n v2_ v3_) (v3.set (v5).toNat true)
      else
        roster_of.J2 k v2 (fun v2_ v3_ => roster_of.L1 k v0 n v2_ v3_) v3
    else
      chk (v3.length = 64) <|
      chk ((List.replicate 64 false).length = 64 ∧ v3.length = 64) <|
      chk (v3.length = 64) <|
      some v3
def roster_of (k : Nat) (v0 : (List Int)) : Option (List Bool) :=
  roster_of.L1 k v0 k 0 (List.replicate 64 false)
def roster_Valid.J2 (k : Nat) (v2 : Int) (kb1 : Int → Option Bool) : Option Bool :=
  kb1 (IntKind.wrap .i64 (v2 + 1))
def roster_Valid.L1 (k : Nat) (v0 : (List Int)) : Nat → Int → Option Bool
  | 0, _ => none
  | n + 1, v2 =>
    if v2 < (v0.length : Int) then
      idx v0 v2 fun v3 =>
      bnd1 (roster_key k v3) fun v4 =>
      if (!v4) = true then
        some false
      else
        if 0 < v2 then
          idx v0 (IntKind.wrap .i64 (v2 - 1)) fun v5 =>
          if v3 ≤ v5 then
            some false
          else
            roster_Valid.J2 k v2 (fun v2_ => roster_Valid.L1 k v0 n v2_)
        else
          roster_Valid.J2 k v2 (fun v2_ => roster_Valid.L1 k v0 n v2_)
    else
      bnd1 (roster_of k v0) fun v6 =>
      chk (v6.length = 64) <|
      some (v6 != (List.replicate 64 false))
def roster_Valid (k : Nat) (v0 : (List Int)) : Option Bool :=
  roster_Valid.L1 k v0 k 0
def roster_Encode.L1 (k : Nat) (v0 : (List Int)) : Nat → Int → (List Int) → Option ((List Int) × Int)
  | 0, _, _ => none
  | n + 1, v4, v5 =>
    if v4 < (v0.length : Int) then
      idx v0 v4 fun v6 =>
      chk ((0 : Int) ≤ (IntKind.wrap .i64 (Int.tdiv v6 32)) ∧ (IntKind.wrap .i64 (Int.tdiv v6 32)).toNat < v5.length) <|
      idx v5 (IntKind.wrap .i64 (Int.tdiv v6 32)) fun v7 =>
      chk ((0 : Int) ≤ Int.tmod v6 32) <|
      chk ((0 : Int) ≤ (IntKind.wrap .i64 (Int.tdiv v6 32)) ∧ (IntKind.wrap .i64 (Int.tdiv v6 32)).toNat < v5.length) <|
      roster_Encode.L1 k v0 n (IntKind.wrap .i64 (v4 + 1)) (v5.set (IntKind.wrap .i64 (Int.tdiv v6 32)).toNat (bitsV .or .i64 v7 (IntKind.wrap .i64 (1 * 2 ^ (min ((Int.tmod v6 32).toNat) 64)))))
    else
      some (v5, 0)
def roster_Encode (k : Nat) (v0 : (List Int)) : Option ((List Int) × Int) :=
  bnd1 (roster_Valid k v0) fun v3 =>
  if (!v3) = true then
    some (([] : List Int), 43)
  else
    roster_Encode.L1 k v0 k 0 ([0, 0] : List Int)
def roster_Decode_1 (k : Nat) (v0 : Int) : Option Bool :=
  if v0 < 0 then
    some true
  else
    some (decide (4294967296 ≤ v0))
def slices_IndexFunc_int_int_Decode_1.L1 (k : Nat) (v0 : (List Int)) : Nat → Int → Option Int
  | 0, _ => none
  | n + 1, v2 =>
    if v2 < (v0.length : Int) then
      idx v0 v2 fun v3 =>
      bnd1 (roster_Decode_1 k v3) fun v4 =>
      if v4 = true then
        some v2
      else
        slices_IndexFunc_int_int_Decode_1.L1 k v0 n (IntKind.wrap .i64 (v2 + 1))
    else
      some (-1)
def slices_IndexFunc_int_int_Decode_1 (k : Nat) (v0 : (List Int)) : Option Int :=
  slices_IndexFunc_int_int_Decode_1.L1 k v0 k 0
def slices_ContainsFunc_int_int_Decode_1 (k : Nat) (v0 : (List Int)) : Option Bool :=
  bnd1 (slices_IndexFunc_int_int_Decode_1 k v0) fun v2 =>
  some (decide (0 ≤ v2))
def roster_Decode.J3 (k : Nat) (v3 : Int) (kb2 : Int → (List Int) → Option ((List Int) × Int)) (v5 : (List Int)) : Option ((List Int) × Int) :=
  kb2 (IntKind.wrap .i64 (v3 + 1)) v5
def roster_Decode.L2 (k : Nat) (v0 : (List Int)) : Nat → Int → (List Int) → Option ((List Int) × Int)
  | 0, _, _ => none
  | n + 1, v3, v4 =>
    if v3 < 64 then
      idx v0 (IntKind.wrap .i64 (Int.tdiv v3 32)) fun v6 =>
      chk ((0 : Int) ≤ Int.tmod v3 32) <|
      if (bitsV .and .i64 (Int.fdiv v6 (2 ^ (min ((Int.tmod v3 32).toNat) 64))) 1) = 1 then
        chk ((v4.length + ([v3] : List Int).length) * 8 ≤ 140737488355328) <|
        roster_Decode.J3 k v3 (fun v3_ v4_ => roster_Decode.L2 k v0 n v3_ v4_) (v4 ++ ([v3] : List Int))
      else
        roster_Decode.J3 k v3 (fun v3_ v4_ => roster_Decode.L2 k v0 n v3_ v4_) v4
    else
      some (v4, 0)
def roster_Decode.J1 (k : Nat) (v0 : (List Int)) : Option ((List Int) × Int) :=
  roster_Decode.L2 k v0 k 0 ([] : List Int)
def roster_Decode (k : Nat) (v0 : (List Int)) : Option ((List Int) × Int) :=
  if (v0.length : Int) ≠ 2 then
    some (([] : List Int), 43)
  else
    bnd1 (slices_ContainsFunc_int_int_Decode_1 k v0) fun v7 =>
    if v7 = true then
      some (([] : List Int), 43)
    else
      idx v0 0 fun v8 =>
      if v8 = 0 then
        idx v0 1 fun v9 =>
        if v9 = 0 then
          some (([] : List Int), 43)
        else
          roster_Decode.J1 k v0
      else
        roster_Decode.J1 k v0
def ref23_SameInts.L1 (k : Nat) (v0 : (List Int)) (v1 : (List Int)) : Nat → Int → Option Bool
  | 0, _ => none
  | n + 1, v3 =>
    if v3 < (v0.length : Int) then
      idx v0 v3 fun v4 =>
      idx v1 v3 fun v5 =>
      if v4 ≠ v5 then
        some false
      else
        ref23_SameInts.L1 k v0 v1 n (IntKind.wrap .i64 (v3 + 1))
    else
      some true
def ref23_SameInts (k : Nat) (v0 : (List Int)) (v1 : (List Int)) : Option Bool :=
  if (v0.length : Int) ≠ (v1.length : Int) then
    some false
  else
    ref23_SameInts.L1 k v0 v1 k 0
def law24_awake (k : Nat) : Option Bool :=
  bnd2 (roster_Encode k ([0, 3, 33] : List Int)) fun v1 v2 =>
  bnd2 (roster_Decode k v1) fun v3 v4 =>
  if v2 = 0 then
    if v4 = 0 then
      bnd1 (ref23_SameInts k v1 ([9, 2] : List Int)) fun v5 =>
      if v5 = true then
        bnd1 (ref23_SameInts k v3 ([0, 3, 33] : List Int)) fun v6 =>
        some v6
      else
        some false
    else
      some false
  else
    some false
def made_Roll (k : Nat) (v0 : (List Int)) : Option ((List Int) × Int) :=
  some (v0, 0)
def mill_Roll (k : Nat) (v0 : (List Int)) : Option ((List Int) × Int) :=
  bnd2 (made_Roll k v0) fun v3 v4 =>
  some (v3, v4)
def made_Mod.J1 (k : Nat) (v3 : Int) : Option Int :=
  some v3
def made_Mod (k : Nat) (v0 : Int) (v1 : Int) : Option Int :=
  if v1 < 1 then
    some 0
  else
    chk (v1 ≠ (0 : Int)) <|
    if Int.tmod v0 v1 < 0 then
      made_Mod.J1 k (IntKind.wrap .i64 (Int.tmod v0 v1 + v1))
    else
      made_Mod.J1 k (Int.tmod v0 v1)
def made_Dice_Next (k : Nat) (v0 : (List Int)) (v1 : Int) (v2 : Int) : Option (Int × Int) :=
  if (v0.length : Int) ≤ v1 then
    some (0, v1)
  else
    idx v0 (IntKind.wrap .i64 (IntKind.wrap .i64 (v1 + 1) - 1)) fun v5 =>
    bnd1 (made_Mod k v5 v2) fun v6 =>
    some (v6, IntKind.wrap .i64 (v1 + 1))
def made_Dice_Of (k : Nat) (v0 : (List Int)) (v1 : Int) (v2 : (List Int)) : Option (Int × Int) :=
  bnd2 (made_Dice_Next k v0 v1 (v2.length : Int)) fun v5 v6 =>
  idx v2 v5 fun v7 =>
  some (v7, v6)
def made_Dice_One (k : Nat) (v0 : (List Int)) (v1 : Int) (v2 : Int) : Option (Bool × Int) :=
  bnd2 (made_Dice_Next k v0 v1 v2) fun v5 v6 =>
  some ((v5 == (IntKind.wrap .i64 (v2 - 1))), v6)
def mill_Rules.J1 (k : Nat) (v10 : Int) (v12 : Int) (v14 : Int) (v16 : Int) (v18 : Int) (v20 : Int) (v22 : Int) (v24 : (List Int)) (v25 : Int) : Option ((List Int) × (List Int) × (List Int) × Int × Int × Int × Int × Int) :=
  chk ((0 : Int) ≤ 0 ∧ (0 : Int).toNat < ([IntKind.wrap .i64 (1 + v18), IntKind.wrap .i64 (1 + v20)] : List Int).length) <|
  idx ([IntKind.wrap .i64 (1 + v18), IntKind.wrap .i64 (1 + v20)] : List Int) (0 : Int) fun v26 =>
  chk ((0 : Int) ≤ 1 ∧ (1 : Int).toNat < ([IntKind.wrap .i64 (1 + v18), IntKind.wrap .i64 (1 + v20)] : List Int).length) <|
  idx ([IntKind.wrap .i64 (1 + v18), IntKind.wrap .i64 (1 + v20)] : List Int) (1 : Int) fun v27 =>
  let1 (if v27 < v26 then v27 else v26) fun v28 =>
  chk ((0 : Int) ≤ 1 ∧ (1 : Int).toNat < ([IntKind.wrap .i64 (1 + v18), IntKind.wrap .i64 (1 + v20)] : List Int).length) <|
  some (([0, 1, 2, 3, 4, 5, 6] : List Int).take (IntKind.wrap .i64 (2 + v16)).toNat, v24, ([IntKind.wrap .i64 (1 + v18), IntKind.wrap .i64 (1 + v20)] : List Int).set (1 : Int).toNat v28, v22, v10, v12, v14, v25)
def mill_Rules (k : Nat) (v0 : (List Int)) (v1 : Int) : Option ((List Int) × (List Int) × (List Int) × Int × Int × Int × Int × Int) :=
  bnd2 (made_Dice_Of k v0 v1 ([3, 1, 4, 5, 2] : List Int)) fun v10 v11 =>
  bnd2 (made_Dice_Of k v0 v11 ([10, 20, 5, 1] : List Int)) fun v12 v13 =>
  bnd2 (made_Dice_Of k v0 v13 ([1, 2, 0, 5] : List Int)) fun v14 v15 =>
  bnd2 (made_Dice_Next k v0 v15 5) fun v16 v17 =>
  chk ((0 : Int) ≤ IntKind.wrap .i64 (2 + v16) ∧ (IntKind.wrap .i64 (2 + v16) : Int) ≤ (([0, 1, 2, 3, 4, 5, 6] : List Int).length : Int)) <|
  bnd2 (made_Dice_Of k v0 v17 ([4, 8, 2] : List Int)) fun v18 v19 =>
  bnd2 (made_Dice_Of k v0 v19 ([2, 1, 0] : List Int)) fun v20 v21 =>
  bnd2 (made_Dice_Of k v0 v21 ([1, 1, 2] : List Int)) fun v22 v23 =>
  bnd2 (made_Dice_One k v0 v23 3) fun v29 v30 =>
  if v29 = true then
    mill_Rules.J1 k v10 v12 v14 v16 v18 v20 v22 ([0, 1] : List Int) v30
  else
    mill_Rules.J1 k v10 v12 v14 v16 v18 v20 v22 ([0] : List Int) v30
def mill_Rules_o.J1 (k : Nat) (v10 : Int) (v12 : Int) (v14 : Int) (v16 : Int) (v18 : Int) (v20 : Int) (v22 : Int) (v24 : (List Int)) (v25 : Int) : Option ((List Int) × (List Int) × (List Int) × Int × Int × Int × Int × Int) :=
  chk ((0 : Int) ≤ 0 ∧ (0 : Int).toNat < ([IntKind.wrap .i64 (1 + v18), IntKind.wrap .i64 (1 + v20)] : List Int).length) <|
  idx ([IntKind.wrap .i64 (1 + v18), IntKind.wrap .i64 (1 + v20)] : List Int) (0 : Int) fun v26 =>
  chk ((0 : Int) ≤ 1 ∧ (1 : Int).toNat < ([IntKind.wrap .i64 (1 + v18), IntKind.wrap .i64 (1 + v20)] : List Int).length) <|
  idx ([IntKind.wrap .i64 (1 + v18), IntKind.wrap .i64 (1 + v20)] : List Int) (1 : Int) fun v27 =>
  let1 (if v27 < v26 then v27 else v26) fun v28 =>
  chk ((0 : Int) ≤ 1 ∧ (1 : Int).toNat < ([IntKind.wrap .i64 (1 + v18), IntKind.wrap .i64 (1 + v20)] : List Int).length) <|
  some (([0, 1, 2, 3, 4, 5, 6] : List Int).take (IntKind.wrap .i64 (2 + v16)).toNat, v24, ([IntKind.wrap .i64 (1 + v18), IntKind.wrap .i64 (1 + v20)] : List Int).set (1 : Int).toNat v28, v22, v10, v12, v14, v25)
def mill_Rules_o (k : Nat) (v0 : (List Int)) (v1 : Int) : Option ((List Int) × (List Int) × (List Int) × Int × Int × Int × Int × Int) :=
  bnd2 (made_Dice_Of k v0 v1 ([3, 1, 4, 5, 2] : List Int)) fun v10 v11 =>
  bnd2 (made_Dice_Of k v0 v11 ([10, 20, 5, 1] : List Int)) fun v12 v13 =>
  bnd2 (made_Dice_Of k v0 v13 ([1, 2, 0, 5] : List Int)) fun v14 v15 =>
  bnd2 (made_Dice_Next k v0 v15 5) fun v16 v17 =>
  chk ((0 : Int) ≤ IntKind.wrap .i64 (2 + v16) ∧ (IntKind.wrap .i64 (2 + v16) : Int) ≤ (([0, 1, 2, 3, 4, 5, 6] : List Int).length : Int)) <|
  bnd2 (made_Dice_Of k v0 v17 ([4, 8, 2] : List Int)) fun v18 v19 =>
  bnd2 (made_Dice_Of k v0 v19 ([2, 1, 0] : List Int)) fun v20 v21 =>
  bnd2 (made_Dice_Of k v0 v21 ([1, 1, 2] : List Int)) fun v22 v23 =>
  bnd2 (made_Dice_One k v0 v23 3) fun v29 v30 =>
  if v29 = true then
    mill_Rules_o.J1 k v10 v12 v14 v16 v18 v20 v22 ([0, 1] : List Int) v30
  else
    mill_Rules_o.J1 k v10 v12 v14 v16 v18 v20 v22 ([0] : List Int) v30
def lists_In (k : Nat) (v0 : Int) (v1 : Int) (v2 : Int) : Option Bool :=
  if v1 ≤ v0 then
    some (decide (v0 ≤ v2))
  else
    some false
def lists_Rising.J2 (k : Nat) (v4 : Int) (kb1 : Int → Option Bool) : Option Bool :=
  kb1 (IntKind.wrap .i64 (v4 + 1))
def lists_Rising.L1 (k : Nat) (v0 : (List Int)) (v1 : Int) (v2 : Int) : Nat → Int → Option Bool
  | 0, _ => none
  | n + 1, v4 =>
    if v4 < (v0.length : Int) then
      idx v0 v4 fun v5 =>
      if v5 < v1 then
        some false
      else
        if v2 < v5 then
          some false
        else
          if 0 < v4 then
            idx v0 (IntKind.wrap .i64 (v4 - 1)) fun v6 =>
            if v5 ≤ v6 then
              some false
            else
              lists_Rising.J2 k v4 (fun v4_ => lists_Rising.L1 k v0 v1 v2 n v4_)
          else
            lists_Rising.J2 k v4 (fun v4_ => lists_Rising.L1 k v0 v1 v2 n v4_)
    else
      some true
def lists_Rising (k : Nat) (v0 : (List Int)) (v1 : Int) (v2 : Int) : Option Bool :=
  lists_Rising.L1 k v0 v1 v2 k 0
def slices_Index_int_int.L1 (k : Nat) (v0 : (List Int)) (v1 : Int) : Nat → Int → Option Int
  | 0, _ => none
  | n + 1, v3 =>
    if v3 < (v0.length : Int) then
      idx v0 v3 fun v4 =>
      if v1 = v4 then
        some v3
      else
        slices_Index_int_int.L1 k v0 v1 n (IntKind.wrap .i64 (v3 + 1))
    else
      some (-1)
def slices_Index_int_int (k : Nat) (v0 : (List Int)) (v1 : Int) : Option Int :=
  slices_Index_int_int.L1 k v0 v1 k 0
def slices_Contains_int_int (k : Nat) (v0 : (List Int)) (v1 : Int) : Option Bool :=
  bnd1 (slices_Index_int_int k v0 v1) fun v3 =>
  some (decide (0 ≤ v3))
def graph_fits (k : Nat) (v0 : Int) (v1 : (List api_Edge)) (v2 : (List Int)) (v3 : Int) (v4 : Int) (v5 : Int) : Option Bool :=
  bnd1 (lists_In k v3 0 (IntKind.wrap .i64 (v0 - 1))) fun v7 =>
  if v7 = true then
    bnd1 (lists_In k v4 0 (IntKind.wrap .i64 (v0 - 1))) fun v8 =>
    if v8 = true then
      if v3 ≠ v4 then
        bnd1 (slices_Contains_int_int k v2 v3) fun v9 =>
        if (!v9) = true then
          bnd1 (slices_Contains_int_int k v2 v4) fun v10 =>
          some (!v10)
        else
          some false
      else
        some false
    else
      some false
  else
    some false
def cmp_isNaN_int (k : Nat) (v0 : Int) : Option Bool :=
  some (v0 != v0)
def cmp_Compare_int (k : Nat) (v0 : Int) (v1 : Int) : Option Int :=
  bnd1 (cmp_isNaN_int k v0) fun v3 =>
  bnd1 (cmp_isNaN_int k v1) fun v4 =>
  if v3 = true then
    if v4 = true then
      some 0
    else
      some (-1)
  else
    if v4 = true then
      some 1
    else
      if v0 < v1 then
        some (-1)
      else
        if v1 < v0 then
          some 1
        else
          some 0
def cmp_Or_int.L1 (k : Nat) (v0 : (List Int)) : Nat → Int → Option Int
  | 0, _ => none
  | n + 1, v2 =>
    if v2 < (v0.length : Int) then
      idx v0 v2 fun v3 =>
      if v3 ≠ 0 then
        some v3
      else
        cmp_Or_int.L1 k v0 n (IntKind.wrap .i64 (v2 + 1))
    else
      some 0
def cmp_Or_int (k : Nat) (v0 : (List Int)) : Option Int :=
  cmp_Or_int.L1 k v0 k 0
def graph_compare (k : Nat) (v0 : Int) (v1 : Int) (v2 : Int) (v3 : Int) (v4 : Int) (v5 : Int) : Option Int :=
  bnd1 (cmp_Compare_int k v0 v3) fun v7 =>
  bnd1 (cmp_Compare_int k v1 v4) fun v8 =>
  bnd1 (cmp_Or_int k ([v7, v8] : List Int)) fun v9 =>
  some v9
def graph_Check.J2 (k : Nat) (v6 : Int) (kb1 : Int → Option Int) : Option Int :=
  kb1 (IntKind.wrap .i64 (v6 + 1))
def graph_Check.L1 (k : Nat) (v0 : Int) (v1 : (List api_Edge)) (v2 : (List Int)) : Nat → Int → Option Int
  | 0, _ => none
  | n + 1, v6 =>
    if v6 < (v1.length : Int) then
      idx v1 v6 fun v7 =>
      bnd1 (graph_fits k v0 v1 v2 v7.From v7.To v7.Level) fun v8 =>
      if (!v8) = true then
        some 14
      else
        bnd1 (lists_In k v7.Level 1 3) fun v9 =>
        if (!v9) = true then
          some 14
        else
          if 0 < v6 then
            idx v1 (IntKind.wrap .i64 (v6 - 1)) fun v10 =>
            bnd1 (graph_compare k v10.From v10.To v10.Level v7.From v7.To v7.Level) fun v11 =>
            if 0 ≤ v11 then
              some 14
            else
              graph_Check.J2 k v6 (fun v6_ => graph_Check.L1 k v0 v1 v2 n v6_)
          else
            graph_Check.J2 k v6 (fun v6_ => graph_Check.L1 k v0 v1 v2 n v6_)
    else
      some 0
def graph_Check (k : Nat) (v0 : Int) (v1 : (List api_Edge)) (v2 : (List Int)) : Option Int :=
  bnd1 (lists_In k v0 0 64) fun v4 =>
  if (!v4) = true then
    some 14
  else
    if 500 < (v1.length : Int) then
      some 14
    else
      bnd1 (lists_Rising k v2 0 (IntKind.wrap .i64 (v0 - 1))) fun v5 =>
      if (!v5) = true then
        some 14
      else
        graph_Check.L1 k v0 v1 v2 k 0
def capacity_Check.J2 (k : Nat) (v11 : Int) (kb1 : Int → Option Int) : Option Int :=
  kb1 (IntKind.wrap .i64 (v11 + 1))
def capacity_Check.L1 (k : Nat) (v4 : (List Int)) : Nat → Int → Option Int
  | 0, _ => none
  | n + 1, v11 =>
    if v11 < (v4.length : Int) then
      idx v4 v11 fun v12 =>
      bnd1 (lists_In k v12 1 1000) fun v13 =>
      if (!v13) = true then
        some 15
      else
        if 0 < v11 then
          idx v4 (IntKind.wrap .i64 (v11 - 1)) fun v14 =>
          if v14 < v12 then
            some 15
          else
            capacity_Check.J2 k v11 (fun v11_ => capacity_Check.L1 k v4 n v11_)
        else
          capacity_Check.J2 k v11 (fun v11_ => capacity_Check.L1 k v4 n v11_)
    else
      some 0
def capacity_Check (k : Nat) (v0 : Int) (v1 : (List api_Edge)) (v2 : (List Int)) (v3 : (List Int)) (v4 : (List Int)) (v5 : Int) : Option Int :=
  bnd1 (graph_Check k v0 v1 v2) fun v7 =>
  if v7 ≠ 0 then
    some v7
  else
    if (v3.length : Int) = 0 then
      some 15
    else
      bnd1 (lists_Rising k v3 0 (IntKind.wrap .i64 (v0 - 1))) fun v8 =>
      if (!v8) = true then
        some 15
      else
        bnd1 (lists_In k (v4.length : Int) 1 8) fun v9 =>
        if (!v9) = true then
          some 15
        else
          bnd1 (lists_In k v5 1 3) fun v10 =>
          if (!v10) = true then
            some 15
          else
            capacity_Check.L1 k v4 k 0
def roster_Check (k : Nat) (v0 : (List Int)) (v1 : (List Int)) (v2 : (List Int)) (v3 : Int) (v4 : Int) (v5 : Int) (v6 : Int) : Option Int :=
  bnd1 (roster_Valid k v0) fun v8 =>
  if (!v8) = true then
    some 43
  else
    bnd1 (capacity_Check k 64 ([] : List api_Edge) ([] : List Int) v1 v2 v3) fun v9 =>
    if v9 ≠ 0 then
      some v9
    else
      if v4 < 1 then
        some 40
      else
        if 9 < v4 then
          some 40
        else
          if v5 < 1 then
            some 40
          else
            if 1000000 < v5 then
              some 40
            else
              if v6 < 0 then
                some 40
              else
                if 64 < v6 then
                  some 40
                else
                  some 0
def law24_RosterGenesis.J2 (k : Nat) (v15 : Int) (kb1 : Int → (List Int) → Option Bool) (v17 : (List Int)) : Option Bool :=
  kb1 (IntKind.wrap .i64 (v15 + 1)) v17
def law24_RosterGenesis.L1 (k : Nat) (v1 : Int) (v8 : (List Int)) (v9 : (List Int)) (v10 : Int) (v11 : Int) (v12 : Int) (v13 : Int) : Nat → Int → (List Int) → Option Bool
  | 0, _, _ => none
  | n + 1, v15, v16 =>
    if v15 < 64 then
      chk ((0 : Int) ≤ IntKind.wrap .u64 v15) <|
      if (bitsV .and .u64 (Int.fdiv v1 (2 ^ (min ((IntKind.wrap .u64 v15).toNat) 64))) 1) = 1 then
        chk ((v16.length + ([v15] : List Int).length) * 8 ≤ 140737488355328) <|
        law24_RosterGenesis.J2 k v15 (fun v15_ v16_ => law24_RosterGenesis.L1 k v1 v8 v9 v10 v11 v12 v13 n v15_ v16_) (v16 ++ ([v15] : List Int))
      else
        law24_RosterGenesis.J2 k v15 (fun v15_ v16_ => law24_RosterGenesis.L1 k v1 v8 v9 v10 v11 v12 v13 n v15_ v16_) v16
    else
      chk (v16.length * 8 ≤ 140737488355328) <|
      chk ((v16.length + ([-1] : List Int).length) * 8 ≤ 140737488355328) <|
      bnd1 (roster_Check k v16 v8 v9 v10 v11 v12 v13) fun v18 =>
      if ((v18 == 0) == (v1 != 0)) = true then
        bnd1 (roster_Check k (v16 ++ ([-1] : List Int)) v8 v9 v10 0 v12 v13) fun v19 =>
        if v19 = 43 then
          bnd1 (law24_awake k) fun v20 =>
          some v20
        else
          some false
      else
        some false
def law24_RosterGenesis (k : Nat) (v0 : (List Int)) (v1 : Int) : Option Bool :=
  bnd1 (mill_Light k v0) fun v3 =>
  if (!v3) = true then
    bnd1 (law24_awake k) fun v4 =>
    some v4
  else
    bnd2 (mill_Roll k v0) fun v5 v6 =>
    bnd8 (mill_Rules_o k v5 v6) fun v7 v8 v9 v10 v11 v12 v13 v14 =>
    law24_RosterGenesis.L1 k v1 v8 v9 v10 v11 v12 v13 k 0 ([] : List Int)
end Go.TF
