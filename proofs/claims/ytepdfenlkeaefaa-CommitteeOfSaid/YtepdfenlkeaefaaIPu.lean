/- The Go functions as Lean functions (printed by a program of our own). -/
import Derived.Test.YtepdfenlkeaefaaKAbsX
set_option linter.unusedVariables false
set_option maxRecDepth 100000
namespace Go.TF
open Go Go.Abs
abbrev Iz (n : Int) : AV := .int .i64 n
abbrev Lz (l : List Int) : AV := .lst false false (l.map (.int .i64))
abbrev Lb (l : List Int) : AV := .lst false false (l.map (.int .u8))
abbrev Lw (l : List Int) : AV := .lst false false (l.map (.int .u32))
structure api_Edge where
  From : Int
  To : Int
  Level : Int
@[simp] def api_Edge.av (x : api_Edge) : AV := AV.agg [AV.int .i64 x.From, AV.int .i64 x.To, AV.int .i64 x.Level]
@[simp] theorem api_Edge.okEls (l : List api_Edge) : okEls 3 (l.map api_Edge.av) ↔ True := iff_true_intro (okEls_iff.2 fun x hx => by
  simp only [List.mem_map] at hx
  obtain ⟨b, _, rfl⟩ := hx
  simp)
@[simp] theorem api_Edge.gdF (S : Nat → Prop) (l : List api_Edge) : gdL S (flatA (l.map api_Edge.av)) ↔ True := iff_true_intro (gdL_flat (by simp) l)
@[simp] theorem api_Edge.frF (l : List api_Edge) : freshL (flatA (l.map api_Edge.av)) = true := freshL_flat (by simp) l
@[simp] theorem api_Edge.renF (σ : Nat → Nat) (l : List api_Edge) : renL σ (flatA (l.map api_Edge.av)) = flatA (l.map api_Edge.av) := renL_flat (by simp) l
@[simp] theorem api_Edge.lenF (l : List api_Edge) : (flatA (l.map api_Edge.av)).length = l.length * 3 := flat_len (F := api_Edge.av) (fun _ => rfl) l
@[simp↓] theorem api_Edge.oneF (l : List api_Edge) : (flatA (l.map api_Edge.av)).all AV.one = true := one_flat (by simp) l
@[simp] theorem api_Edge.ids (S : Nat → Prop) (l : List api_Edge) : idsInL S (l.map api_Edge.av) ↔ True := iff_true_intro (ids_map_of (by simp) l)
def mill_Light (k : Nat) (v0 : (List Int)) : Option Bool :=
  some (decide ((v0.length : Int) ≤ 400))
def roster_key (k : Nat) (v0 : Int) : Option Bool :=
  if 0 ≤ v0 then
    some (decide (v0 < 64))
  else
    some false
def roster_of.J2 (k : Nat) (v2 : Int) (kb1 : Int → (List Bool) → Option (List Bool)) (v4 : (List Bool)) : Option (List Bool) :=
  kb1 (IntKind.wrap .i64 (v2 + 1)) v4
def roster_of.L1 (k : Nat) (v0 : (List Int)) : Nat → Int → (List Bool) → Option (List Bool)
  | 0, _, _ => none
  | n + 1, v2, v3 =>
    if v2 < (v0.length : Int) then
      idx v0 v2 fun v5 =>
      bnd1 (roster_key k v5) fun v6 =>
      if v6 = true then
        chk ((0 : Int) ≤ v5 ∧ v5 < 64 ∧ (v5).toNat < v3.length) <|
        roster_of.J2 k v2 (fun v2_ v3_ => roster_of.L1 k v0 n v2_ v3_) (v3.set (v5).toNat true)
      else
        roster_of.J2 k v2 (fun v2_ v3_ => roster_of.L1 k v0 n v2_ v3_) v3
    else
      chk (v3.length = 64) <|
      chk ((List.replicate 64 false).length = 64 ∧ v3.length = 64) <|
      chk (v3.length = 64) <|
      some v3
def roster_of (k : Nat) (v0 : (List Int)) : Option (List Bool) :=
  roster_of.L1 k v0 k 0 (List.replicate 64 false)
def roster_Valid.J2 (k : Nat) (v2 : Int) (kb1 : Int → Option Bool) : Option Bool :=
  kb1 (IntKind.wrap .i64 (v2 + 1))
def roster_Valid.L1 (k : Nat) (v0 : (List Int)) : Nat → Int → Option Bool
  | 0, _ => none
  | n + 1, v2 =>
    if v2 < (v0.length : Int) then
      idx v0 v2 fun v3 =>
      bnd1 (roster_key k v3) fun v4 =>
      if (!v4) = true then
        some false
      else
        if 0 < v2 then
          idx v0 (IntKind.wrap .i64 (v2 - 1)) fun v5 =>
          if v3 ≤ v5 then
            some false
          else
            roster_Valid.J2 k v2 (fun v2_ => roster_Valid.L1 k v0 n v2_)
        else
          roster_Valid.J2 k v2 (fun v2_ => roster_Valid.L1 k v0 n v2_)
    else
      bnd1 (roster_of k v0) fun v6 =>
      chk (v6.length = 64) <|
      some (v6 != (List.replicate 64 false))
def roster_Valid (k : Nat) (v0 : (List Int)) : Option Bool :=
  roster_Valid.L1 k v0 k 0
def slices_Clone_int_int (k : Nat) (v0 : (List Int)) : Option (List Int) :=
  chk (v0.length * 8 ≤ 140737488355328) <| some v0
def committee_Draw.L1 (k : Nat) (v1 : (List Int)) (v6 : Int) : Nat → (List Int) → Int → (List Int) → Option ((List Int) × Int)
  | 0, _, _, _ => none
  | n + 1, v8, v9, v10 =>
    if v9 < ((v1.take (v6).toNat).length : Int) then
      idx (v1.take (v6).toNat) v9 fun v11 =>
      if v11 < 0 then
        some (([] : List Int), 44)
      else
        chk ((v8.length : Int) ≠ (0 : Int)) <|
        idx v8 (Int.tmod v11 (v8.length : Int)) fun v12 =>
        chk ((v10.length + ([v12] : List Int).length) * 8 ≤ 140737488355328) <|
        chk ((0 : Int) ≤ Int.tmod v11 (v8.length : Int) ∧ (Int.tmod v11 (v8.length : Int) : Int) ≤ (v8.length : Int)) <|
        chk ((0 : Int) ≤ IntKind.wrap .i64 (Int.tmod v11 (v8.length : Int) + 1) ∧ (IntKind.wrap .i64 (Int.tmod v11 (v8.length : Int) + 1) : Int) ≤ (v8.length : Int)) <|
        chk (((v8.take (Int.tmod v11 (v8.length : Int)).toNat).length + (v8.drop (IntKind.wrap .i64 (Int.tmod v11 (v8.length : Int) + 1)).toNat).length) * 8 ≤ 140737488355328) <|
        committee_Draw.L1 k v1 v6 n ((v8.take (Int.tmod v11 (v8.length : Int)).toNat) ++ (v8.drop (IntKind.wrap .i64 (Int.tmod v11 (v8.length : Int) + 1)).toNat)) (IntKind.wrap .i64 (v9 + 1)) (v10 ++ ([v12] : List Int))
    else
      some (v10, 0)
def committee_Draw (k : Nat) (v0 : (List Int)) (v1 : (List Int)) (v2 : Int) : Option ((List Int) × Int) :=
  bnd1 (roster_Valid k v0) fun v5 =>
  if (!v5) = true then
    some (([] : List Int), 43)
  else
    let1 (if (v0.length : Int) < v2 then (v0.length : Int) else v2) fun v6 =>
    if v2 < 1 then
      some (([] : List Int), 44)
    else
      if 9 < v2 then
        some (([] : List Int), 44)
      else
        if (v1.length : Int) < v6 then
          some (([] : List Int), 44)
        else
          bnd1 (slices_Clone_int_int k v0) fun v7 =>
          chk ((0 : Int) ≤ v6 ∧ (v6 : Int) ≤ (v1.length : Int)) <|
          committee_Draw.L1 k v1 v6 k v7 0 ([] : List Int)
def ref23_SameInts.L1 (k : Nat) (v0 : (List Int)) (v1 : (List Int)) : Nat → Int → Option Bool
  | 0, _ => none
  | n + 1, v3 =>
    if v3 < (v0.length : Int) then
      idx v0 v3 fun v4 =>
      idx v1 v3 fun v5 =>
      if v4 ≠ v5 then
        some false
      else
        ref23_SameInts.L1 k v0 v1 n (IntKind.wrap .i64 (v3 + 1))
    else
      some true
def ref23_SameInts (k : Nat) (v0 : (List Int)) (v1 : (List Int)) : Option Bool :=
  if (v0.length : Int) ≠ (v1.length : Int) then
    some false
  else
    ref23_SameInts.L1 k v0 v1 k 0
def committee_Quorum (k : Nat) (v0 : Int) : Option Int :=
  if v0 < 1 then
    some 0
  else
    if 9 < v0 then
      some 0
    else
      some (IntKind.wrap .i64 (IntKind.wrap .i64 (Int.tdiv (IntKind.wrap .i64 (3 * v0)) 4) + 1))
def law26_awake (k : Nat) : Option Bool :=
  bnd2 (committee_Draw k ([2, 5, 7] : List Int) ([4, 4] : List Int) 2) fun v1 v2 =>
  if v2 = 0 then
    bnd1 (ref23_SameInts k v1 ([5, 2] : List Int)) fun v3 =>
    if v3 = true then
      bnd1 (committee_Quorum k 4) fun v4 =>
      if v4 = 4 then
        bnd1 (committee_Quorum k 5) fun v5 =>
        if v5 = 4 then
          bnd1 (committee_Quorum k 7) fun v6 =>
          some (v6 == 6)
        else
          some false
      else
        some false
    else
      some false
  else
    some false
def made_Roll (k : Nat) (v0 : (List Int)) : Option ((List Int) × Int) :=
  some (v0, 0)
def mill_Roll (k : Nat) (v0 : (List Int)) : Option ((List Int) × Int) :=
  bnd2 (made_Roll k v0) fun v3 v4 =>
  some (v3, v4)
def made_Mod.J1 (k : Nat) (v3 : Int) : Option Int :=
  some v3
def made_Mod (k : Nat) (v0 : Int) (v1 : Int) : Option Int :=
  if v1 < 1 then
    some 0
  else
    chk (v1 ≠ (0 : Int)) <|
    if Int.tmod v0 v1 < 0 then
      made_Mod.J1 k (IntKind.wrap .i64 (Int.tmod v0 v1 + v1))
    else
      made_Mod.J1 k (Int.tmod v0 v1)
def made_Dice_Next (k : Nat) (v0 : (List Int)) (v1 : Int) (v2 : Int) : Option (Int × Int) :=
  if (v0.length : Int) ≤ v1 then
    some (0, v1)
  else
    idx v0 (IntKind.wrap .i64 (IntKind.wrap .i64 (v1 + 1) - 1)) fun v5 =>
    bnd1 (made_Mod k v5 v2) fun v6 =>
    some (v6, IntKind.wrap .i64 (v1 + 1))
def made_Dice_Of (k : Nat) (v0 : (List Int)) (v1 : Int) (v2 : (List Int)) : Option (Int × Int) :=
  bnd2 (made_Dice_Next k v0 v1 (v2.length : Int)) fun v5 v6 =>
  idx v2 v5 fun v7 =>
  some (v7, v6)
def made_Dice_One (k : Nat) (v0 : (List Int)) (v1 : Int) (v2 : Int) : Option (Bool × Int) :=
  bnd2 (made_Dice_Next k v0 v1 v2) fun v5 v6 =>
  some ((v5 == (IntKind.wrap .i64 (v2 - 1))), v6)
def mill_Rules.J1 (k : Nat) (v10 : Int) (v12 : Int) (v14 : Int) (v16 : Int) (v18 : Int) (v20 : Int) (v22 : Int) (v24 : (List Int)) (v25 : Int) : Option ((List Int) × (List Int) × (List Int) × Int × Int × Int × Int × Int) :=
  chk ((0 : Int) ≤ 0 ∧ (0 : Int).toNat < ([IntKind.wrap .i64 (1 + v18), IntKind.wrap .i64 (1 + v20)] : List Int).length) <|
  idx ([IntKind.wrap .i64 (1 + v18), IntKind.wrap .i64 (1 + v20)] : List Int) (0 : Int) fun v26 =>
  chk ((0 : Int) ≤ 1 ∧ (1 : Int).toNat < ([IntKind.wrap .i64 (1 + v18), IntKind.wrap .i64 (1 + v20)] : List Int).length) <|
  idx ([IntKind.wrap .i64 (1 + v18), IntKind.wrap .i64 (1 + v20)] : List Int) (1 : Int) fun v27 =>
  let1 (if v27 < v26 then v27 else v26) fun v28 =>
  chk ((0 : Int) ≤ 1 ∧ (1 : Int).toNat < ([IntKind.wrap .i64 (1 + v18), IntKind.wrap .i64 (1 + v20)] : List Int).length) <|
  some (([0, 1, 2, 3, 4, 5, 6] : List Int).take (IntKind.wrap .i64 (2 + v16)).toNat, v24, ([IntKind.wrap .i64 (1 + v18), IntKind.wrap .i64 (1 + v20)] : List Int).set (1 : Int).toNat v28, v22, v10, v12, v14, v25)
def mill_Rules (k : Nat) (v0 : (List Int)) (v1 : Int) : Option ((List Int) × (List Int) × (List Int) × Int × Int × Int × Int × Int) :=
  bnd2 (made_Dice_Of k v0 v1 ([3, 1, 4, 5, 2] : List Int)) fun v10 v11 =>
  bnd2 (made_Dice_Of k v0 v11 ([10, 20, 5, 1] : List Int)) fun v12 v13 =>
  bnd2 (made_Dice_Of k v0 v13 ([1, 2, 0, 5] : List Int)) fun v14 v15 =>
  bnd2 (made_Dice_Next k v0 v15 5) fun v16 v17 =>
  chk ((0 : Int) ≤ IntKind.wrap .i64 (2 + v16) ∧ (IntKind.wrap .i64 (2 + v16) : Int) ≤ (([0, 1, 2, 3, 4, 5, 6] : List Int).length : Int)) <|
  bnd2 (made_Dice_Of k v0 v17 ([4, 8, 2] : List Int)) fun v18 v19 =>
  bnd2 (made_Dice_Of k v0 v19 ([2, 1, 0] : List Int)) fun v20 v21 =>
  bnd2 (made_Dice_Of k v0 v21 ([1, 1, 2] : List Int)) fun v22 v23 =>
  bnd2 (made_Dice_One k v0 v23 3) fun v29 v30 =>
  if v29 = true then
    mill_Rules.J1 k v10 v12 v14 v16 v18 v20 v22 ([0, 1] : List Int) v30
  else
    mill_Rules.J1 k v10 v12 v14 v16 v18 v20 v22 ([0] : List Int) v30
def made_Dice_Some.J2 (k : Nat) (v5 : Int) (kb1 : Int → Int → (List Int) → Option ((List Int) × Int)) (v8 : Int) (v9 : (List Int)) : Option ((List Int) × Int) :=
  kb1 (IntKind.wrap .i64 (v5 + 1)) v8 v9
def made_Dice_Some.L1 (k : Nat) (v0 : (List Int)) (v2 : Int) : Nat → Int → Int → (List Int) → Option ((List Int) × Int)
  | 0, _, _, _ => none
  | n + 1, v5, v6, v7 =>
    if v5 < v2 then
      bnd2 (made_Dice_Next k v0 v6 3) fun v10 v11 =>
      if v10 = 0 then
        chk ((v7.length + ([v5] : List Int).length) * 8 ≤ 140737488355328) <|
        made_Dice_Some.J2 k v5 (fun v5_ v6_ v7_ => made_Dice_Some.L1 k v0 v2 n v5_ v6_ v7_) v11 (v7 ++ ([v5] : List Int))
      else
        made_Dice_Some.J2 k v5 (fun v5_ v6_ v7_ => made_Dice_Some.L1 k v0 v2 n v5_ v6_ v7_) v11 v7
    else
      some (v7, v6)
def made_Dice_Some (k : Nat) (v0 : (List Int)) (v1 : Int) (v2 : Int) : Option ((List Int) × Int) :=
  made_Dice_Some.L1 k v0 v2 k 0 v1 ([] : List Int)
def mill_Keys.J1 (k : Nat) (v7 : (List Int)) (v8 : Int) : Option ((List Int) × Int) :=
  some (v7, v8)
def mill_Keys (k : Nat) (v0 : (List Int)) (v1 : Int) (v2 : Int) : Option ((List Int) × Int) :=
  bnd2 (made_Dice_Some k v0 v1 v2) fun v5 v6 =>
  if (v5.length : Int) = 0 then
    bnd2 (made_Dice_Next k v0 v6 v2) fun v9 v10 =>
    mill_Keys.J1 k ([v9] : List Int) v10
  else
    mill_Keys.J1 k v5 v6
def mill_Keys_o.J1 (k : Nat) (v7 : (List Int)) (v8 : Int) : Option ((List Int) × Int) :=
  some (v7, v8)
def mill_Keys_o (k : Nat) (v0 : (List Int)) (v1 : Int) (v2 : Int) : Option ((List Int) × Int) :=
  bnd2 (made_Dice_Some k v0 v1 v2) fun v5 v6 =>
  if (v5.length : Int) = 0 then
    bnd2 (made_Dice_Next k v0 v6 v2) fun v9 v10 =>
    mill_Keys_o.J1 k ([v9] : List Int) v10
  else
    mill_Keys_o.J1 k v5 v6
def mill_Case.J1 (k : Nat) (v2 : Int) (v8 : Int) (v10 : Int) (v11 : Int) (v12 : Int) : Option (Int × Int × Int × Int × Int) :=
  some (v2, IntKind.wrap .i64 (1 + v8), v10, v11, v12)
def mill_Case (k : Nat) (v0 : (List Int)) (v1 : Int) (v2 : Int) : Option (Int × Int × Int × Int × Int) :=
  bnd2 (made_Dice_Next k v0 v1 3) fun v8 v9 =>
  if (IntKind.wrap .i64 (1 + v8)) ≠ 1 then
    bnd2 (made_Dice_Next k v0 v9 7) fun v13 v14 =>
    bnd2 (made_Dice_Next k v0 v14 2) fun v15 v16 =>
    mill_Case.J1 k v2 v8 v13 v15 v16
  else
    mill_Case.J1 k v2 v8 0 0 v9
def mill_Odd.J1 (k : Nat) (v17 : (List Int)) (v18 : (List Int)) (v19 : (List Int)) (v20 : Int) (v21 : Int) (v22 : Int) (v23 : Int) (v24 : Int) : Option ((List Int) × (List Int) × (List Int) × Int × Int × Int × Int × Int) :=
  some (v17, v18, v19, v20, v21, v22, v23, v24)
def mill_Odd (k : Nat) (v0 : (List Int)) (v1 : Int) (v2 : (List Int)) (v3 : (List Int)) (v4 : (List Int)) (v5 : Int) (v6 : Int) (v7 : Int) (v8 : Int) : Option ((List Int) × (List Int) × (List Int) × Int × Int × Int × Int × Int) :=
  bnd2 (made_Dice_Next k v0 v1 7) fun v25 v26 =>
  if v25 = 0 then
    bnd2 (made_Dice_Next k v0 v26 5) fun v27 v28 =>
    if v27 = 0 then
      mill_Odd.J1 k ([] : List Int) v3 v4 v5 v6 v7 v8 v28
    else
      if v27 = 1 then
        mill_Odd.J1 k ([1, 1] : List Int) v3 v4 v5 v6 v7 v8 v28
      else
        if v27 = 2 then
          mill_Odd.J1 k ([-1] : List Int) v3 v4 v5 v6 v7 v8 v28
        else
          if v27 = 3 then
            mill_Odd.J1 k ([64] : List Int) v3 v4 v5 v6 v7 v8 v28
          else
            if v27 = 4 then
              mill_Odd.J1 k ([3, 2] : List Int) v3 v4 v5 v6 v7 v8 v28
            else
              none
  else
    if v25 = 1 then
      bnd2 (made_Dice_Of k v0 v26 ([0, -1, 9, 10] : List Int)) fun v29 v30 =>
      mill_Odd.J1 k v2 v3 v4 v5 v29 v7 v8 v30
    else
      if v25 = 2 then
        bnd2 (made_Dice_Of k v0 v26 ([0, -1, 1000000, 1000001] : List Int)) fun v31 v32 =>
        mill_Odd.J1 k v2 v3 v4 v5 v6 v31 v8 v32
      else
        if v25 = 3 then
          bnd2 (made_Dice_Of k v0 v26 ([-1, 64, 65] : List Int)) fun v33 v34 =>
          mill_Odd.J1 k v2 v3 v4 v5 v6 v7 v33 v34
        else
          if v25 = 4 then
            bnd2 (made_Dice_Next k v0 v26 3) fun v35 v36 =>
            if v35 = 0 then
              mill_Odd.J1 k v2 ([] : List Int) v4 v5 v6 v7 v8 v36
            else
              if v35 = 1 then
                mill_Odd.J1 k v2 ([64] : List Int) v4 v5 v6 v7 v8 v36
              else
                if v35 = 2 then
                  mill_Odd.J1 k v2 ([1, 0] : List Int) v4 v5 v6 v7 v8 v36
                else
                  none
          else
            if v25 = 5 then
              bnd2 (made_Dice_Next k v0 v26 4) fun v37 v38 =>
              if v37 = 0 then
                mill_Odd.J1 k v2 v3 ([] : List Int) v5 v6 v7 v8 v38
              else
                if v37 = 1 then
                  mill_Odd.J1 k v2 v3 ([1, 2] : List Int) v5 v6 v7 v8 v38
                else
                  if v37 = 2 then
                    mill_Odd.J1 k v2 v3 ([0] : List Int) v5 v6 v7 v8 v38
                  else
                    if v37 = 3 then
                      mill_Odd.J1 k v2 v3 ([1001] : List Int) v5 v6 v7 v8 v38
                    else
                      none
            else
              bnd2 (made_Dice_Of k v0 v26 ([0, 4, -1] : List Int)) fun v39 v40 =>
              mill_Odd.J1 k v2 v3 v4 v39 v6 v7 v8 v40
def lists_In (k : Nat) (v0 : Int) (v1 : Int) (v2 : Int) : Option Bool :=
  if v1 ≤ v0 then
    some (decide (v0 ≤ v2))
  else
    some false
def lists_Rising.J2 (k : Nat) (v4 : Int) (kb1 : Int → Option Bool) : Option Bool :=
  kb1 (IntKind.wrap .i64 (v4 + 1))
def lists_Rising.L1 (k : Nat) (v0 : (List Int)) (v1 : Int) (v2 : Int) : Nat → Int → Option Bool
  | 0, _ => none
  | n + 1, v4 =>
    if v4 < (v0.length : Int) then
      idx v0 v4 fun v5 =>
      if v5 < v1 then
        some false
      else
        if v2 < v5 then
          some false
        else
          if 0 < v4 then
            idx v0 (IntKind.wrap .i64 (v4 - 1)) fun v6 =>
            if v5 ≤ v6 then
              some false
            else
              lists_Rising.J2 k v4 (fun v4_ => lists_Rising.L1 k v0 v1 v2 n v4_)
          else
            lists_Rising.J2 k v4 (fun v4_ => lists_Rising.L1 k v0 v1 v2 n v4_)
    else
      some true
def lists_Rising (k : Nat) (v0 : (List Int)) (v1 : Int) (v2 : Int) : Option Bool :=
  lists_Rising.L1 k v0 v1 v2 k 0
def slices_Index_int_int.L1 (k : Nat) (v0 : (List Int)) (v1 : Int) : Nat → Int → Option Int
  | 0, _ => none
  | n + 1, v3 =>
    if v3 < (v0.length : Int) then
      idx v0 v3 fun v4 =>
      if v1 = v4 then
        some v3
      else
        slices_Index_int_int.L1 k v0 v1 n (IntKind.wrap .i64 (v3 + 1))
    else
      some (-1)
def slices_Index_int_int (k : Nat) (v0 : (List Int)) (v1 : Int) : Option Int :=
  slices_Index_int_int.L1 k v0 v1 k 0
def slices_Contains_int_int (k : Nat) (v0 : (List Int)) (v1 : Int) : Option Bool :=
  bnd1 (slices_Index_int_int k v0 v1) fun v3 =>
  some (decide (0 ≤ v3))
def graph_fits (k : Nat) (v0 : Int) (v1 : (List api_Edge)) (v2 : (List Int)) (v3 : Int) (v4 : Int) (v5 : Int) : Option Bool :=
  bnd1 (lists_In k v3 0 (IntKind.wrap .i64 (v0 - 1))) fun v7 =>
  if v7 = true then
    bnd1 (lists_In k v4 0 (IntKind.wrap .i64 (v0 - 1))) fun v8 =>
    if v8 = true then
      if v3 ≠ v4 then
        bnd1 (slices_Contains_int_int k v2 v3) fun v9 =>
        if (!v9) = true then
          bnd1 (slices_Contains_int_int k v2 v4) fun v10 =>
          some (!v10)
        else
          some false
      else
        some false
    else
      some false
  else
    some false
def cmp_isNaN_int (k : Nat) (v0 : Int) : Option Bool :=
  some (v0 != v0)
def cmp_Compare_int (k : Nat) (v0 : Int) (v1 : Int) : Option Int :=
  bnd1 (cmp_isNaN_int k v0) fun v3 =>
  bnd1 (cmp_isNaN_int k v1) fun v4 =>
  if v3 = true then
    if v4 = true then
      some 0
    else
      some (-1)
  else
    if v4 = true then
      some 1
    else
      if v0 < v1 then
        some (-1)
      else
        if v1 < v0 then
          some 1
        else
          some 0
def cmp_Or_int.L1 (k : Nat) (v0 : (List Int)) : Nat → Int → Option Int
  | 0, _ => none
  | n + 1, v2 =>
    if v2 < (v0.length : Int) then
      idx v0 v2 fun v3 =>
      if v3 ≠ 0 then
        some v3
      else
        cmp_Or_int.L1 k v0 n (IntKind.wrap .i64 (v2 + 1))
    else
      some 0
def cmp_Or_int (k : Nat) (v0 : (List Int)) : Option Int :=
  cmp_Or_int.L1 k v0 k 0
def graph_compare (k : Nat) (v0 : Int) (v1 : Int) (v2 : Int) (v3 : Int) (v4 : Int) (v5 : Int) : Option Int :=
  bnd1 (cmp_Compare_int k v0 v3) fun v7 =>
  bnd1 (cmp_Compare_int k v1 v4) fun v8 =>
  bnd1 (cmp_Or_int k ([v7, v8] : List Int)) fun v9 =>
  some v9
def graph_Check.J2 (k : Nat) (v6 : Int) (kb1 : Int → Option Int) : Option Int :=
  kb1 (IntKind.wrap .i64 (v6 + 1))
def graph_Check.L1 (k : Nat) (v0 : Int) (v1 : (List api_Edge)) (v2 : (List Int)) : Nat → Int → Option Int
  | 0, _ => none
  | n + 1, v6 =>
    if v6 < (v1.length : Int) then
      idx v1 v6 fun v7 =>
      bnd1 (graph_fits k v0 v1 v2 v7.From v7.To v7.Level) fun v8 =>
      if (!v8) = true then
        some 14
      else
        bnd1 (lists_In k v7.Level 1 3) fun v9 =>
        if (!v9) = true then
          some 14
        else
          if 0 < v6 then
            idx v1 (IntKind.wrap .i64 (v6 - 1)) fun v10 =>
            bnd1 (graph_compare k v10.From v10.To v10.Level v7.From v7.To v7.Level) fun v11 =>
            if 0 ≤ v11 then
              some 14
            else
              graph_Check.J2 k v6 (fun v6_ => graph_Check.L1 k v0 v1 v2 n v6_)
          else
            graph_Check.J2 k v6 (fun v6_ => graph_Check.L1 k v0 v1 v2 n v6_)
    else
      some 0
def graph_Check (k : Nat) (v0 : Int) (v1 : (List api_Edge)) (v2 : (List Int)) : Option Int :=
  bnd1 (lists_In k v0 0 64) fun v4 =>
  if (!v4) = true then
    some 14
  else
    if 500 < (v1.length : Int) then
      some 14
    else
      bnd1 (lists_Rising k v2 0 (IntKind.wrap .i64 (v0 - 1))) fun v5 =>
      if (!v5) = true then
        some 14
      else
        graph_Check.L1 k v0 v1 v2 k 0
def capacity_Check.J2 (k : Nat) (v11 : Int) (kb1 : Int → Option Int) : Option Int :=
  kb1 (IntKind.wrap .i64 (v11 + 1))
def capacity_Check.L1 (k : Nat) (v4 : (List Int)) : Nat → Int → Option Int
  | 0, _ => none
  | n + 1, v11 =>
    if v11 < (v4.length : Int) then
      idx v4 v11 fun v12 =>
      bnd1 (lists_In k v12 1 1000) fun v13 =>
      if (!v13) = true then
        some 15
      else
        if 0 < v11 then
          idx v4 (IntKind.wrap .i64 (v11 - 1)) fun v14 =>
          if v14 < v12 then
            some 15
          else
            capacity_Check.J2 k v11 (fun v11_ => capacity_Check.L1 k v4 n v11_)
        else
          capacity_Check.J2 k v11 (fun v11_ => capacity_Check.L1 k v4 n v11_)
    else
      some 0
def capacity_Check (k : Nat) (v0 : Int) (v1 : (List api_Edge)) (v2 : (List Int)) (v3 : (List Int)) (v4 : (List Int)) (v5 : Int) : Option Int :=
  bnd1 (graph_Check k v0 v1 v2) fun v7 =>
  if v7 ≠ 0 then
    some v7
  else
    if (v3.length : Int) = 0 then
      some 15
    else
      bnd1 (lists_Rising k v3 0 (IntKind.wrap .i64 (v0 - 1))) fun v8 =>
      if (!v8) = true then
        some 15
      else
        bnd1 (lists_In k (v4.length : Int) 1 8) fun v9 =>
        if (!v9) = true then
          some 15
        else
          bnd1 (lists_In k v5 1 3) fun v10 =>
          if (!v10) = true then
            some 15
          else
            capacity_Check.L1 k v4 k 0
def roster_Check (k : Nat) (v0 : (List Int)) (v1 : (List Int)) (v2 : (List Int)) (v3 : Int) (v4 : Int) (v5 : Int) (v6 : Int) : Option Int :=
  bnd1 (roster_Valid k v0) fun v8 =>
  if (!v8) = true then
    some 43
  else
    bnd1 (capacity_Check k 64 ([] : List api_Edge) ([] : List Int) v1 v2 v3) fun v9 =>
    if v9 ≠ 0 then
      some v9
    else
      if v4 < 1 then
        some 40
      else
        if 9 < v4 then
          some 40
        else
          if v5 < 1 then
            some 40
          else
            if 1000000 < v5 then
              some 40
            else
              if v6 < 0 then
                some 40
              else
                if 64 < v6 then
                  some 40
                else
                  some 0
def cases_Valid.J1 (k : Nat) (v5 : Bool) : Option Bool :=
  if v5 = true then
    some true
  else
    some false
def cases_Valid (k : Nat) (v0 : Int) (v1 : Int) (v2 : Int) (v3 : Int) : Option Bool :=
  if v0 < 0 then
    some false
  else
    if 40 ≤ v0 then
      some false
    else
      if v2 < 0 then
        some false
      else
        if 64 ≤ v2 then
          some false
        else
          if v3 < 0 then
            some false
          else
            if 1 < v3 then
              some false
            else
              if v1 = 1 then
                if v2 = 0 then
                  some (v3 == 0)
                else
                  some false
              else
                if v1 = 2 then
                  cases_Valid.J1 k true
                else
                  cases_Valid.J1 k (v1 == 3)
def beacon_bytes.L2 (k : Nat) (v3 : Int) (v5 : Int) (kb1 : Int → (List Int) → Option (List Int)) : Nat → Int → (List Int) → Option (List Int)
  | 0, _, _ => none
  | n + 1, v6, v7 =>
    if 0 ≤ v6 then
      chk ((0 : Int) ≤ v6) <|
      chk ((v7.length + ([IntKind.wrap .u8 (Int.fdiv (IntKind.wrap .u64 v5) (2 ^ (min v6.toNat 64)))] : List Int).length) * 1 ≤ 140737488355328) <|
      beacon_bytes.L2 k v3 v5 kb1 n (IntKind.wrap .i64 (v6 - 8)) (v7 ++ ([IntKind.wrap .u8 (Int.fdiv (IntKind.wrap .u64 v5) (2 ^ (min v6.toNat 64)))] : List Int))
    else
      kb1 (IntKind.wrap .i64 (v3 + 1)) v7
def beacon_bytes.L1 (k : Nat) (v1 : (List Int)) : Nat → Int → (List Int) → Option (List Int)
  | 0, _, _ => none
  | n + 1, v3, v4 =>
    if v3 < (v1.length : Int) then
      idx v1 v3 fun v5 =>
      beacon_bytes.L2 k v3 v5 (fun v3_ v4_ => beacon_bytes.L1 k v1 n v3_ v4_) k 56 v4
    else
      some v4
def beacon_bytes (k : Nat) (v0 : (List Int)) (v1 : (List Int)) : Option (List Int) :=
  beacon_bytes.L1 k v1 k 0 v0
def beacon_list (k : Nat) (v0 : (List Int)) (v1 : (List Int)) : Option (List Int) :=
  bnd1 (beacon_bytes k v0 ([(v1.length : Int)] : List Int)) fun v3 =>
  bnd1 (beacon_bytes k v3 v1) fun v4 =>
  some v4
def beacon_bytes_v2.J1 (k : Nat) (v3 : (List Int)) : Option (List Int) :=
  some v3
def beacon_bytes_v2.L3 (k : Nat) (v4 : Int) (v6 : Int) (kb2 : Int → (List Int) → Option (List Int)) : Nat → Int → (List Int) → Option (List Int)
  | 0, _, _ => none
  | n + 1, v7, v8 =>
    if 0 ≤ v7 then
      chk ((0 : Int) ≤ v7) <|
      chk ((v8.length + ([IntKind.wrap .u8 (Int.fdiv (IntKind.wrap .u64 v6) (2 ^ (min v7.toNat 64)))] : List Int).length) * 1 ≤ 140737488355328) <|
      beacon_bytes_v2.L3 k v4 v6 kb2 n (IntKind.wrap .i64 (v7 - 8)) (v8 ++ ([IntKind.wrap .u8 (Int.fdiv (IntKind.wrap .u64 v6) (2 ^ (min v7.toNat 64)))] : List Int))
    else
      kb2 (IntKind.wrap .i64 (v4 + 1)) v8
def beacon_bytes_v2.L2 (k : Nat) (v1 : (List Int)) : Nat → Int → (List Int) → Option (List Int)
  | 0, _, _ => none
  | n + 1, v4, v5 =>
    if v4 < (v1.length : Int) then
      idx v1 v4 fun v6 =>
      beacon_bytes_v2.L3 k v4 v6 (fun v4_ v5_ => beacon_bytes_v2.L2 k v1 n v4_ v5_) k 56 v5
    else
      beacon_bytes_v2.J1 k v5
def beacon_bytes_v2.L5 (k : Nat) (v9 : Int) (kb4 : Int → (List Int) → Option (List Int)) : Nat → Int → (List Int) → Option (List Int)
  | 0, _, _ => none
  | n + 1, v10, v11 =>
    if 0 ≤ v10 then
      chk ((0 : Int) ≤ v10) <|
      chk ((v11.length + ([IntKind.wrap .u8 (Int.fdiv (IntKind.wrap .u64 v9) (2 ^ (min v10.toNat 64)))] : List Int).length) * 1 ≤ 140737488355328) <|
      beacon_bytes_v2.L5 k v9 kb4 n (IntKind.wrap .i64 (v10 - 8)) (v11 ++ ([IntKind.wrap .u8 (Int.fdiv (IntKind.wrap .u64 v9) (2 ^ (min v10.toNat 64)))] : List Int))
    else
      kb4 (IntKind.wrap .i64 (0 + 1)) v11
def beacon_bytes_v2.P6 (k : Nat) (v0 : (List Int)) (v9 : Int) (kb4 : Int → (List Int) → Option (List Int)) : Nat → Option (List Int)
  | 0 => none
  | n + 1 =>
    chk ((v0.length + ([IntKind.wrap .u8 (Int.fdiv (IntKind.wrap .u64 v9) (2 ^ (56)))] : List Int).length) * 1 ≤ 140737488355328) <|
    beacon_bytes_v2.L5 k v9 kb4 n (IntKind.wrap .i64 (56 - 8)) (v0 ++ ([IntKind.wrap .u8 (Int.fdiv (IntKind.wrap .u64 v9) (2 ^ (56)))] : List Int))
def beacon_bytes_v2.P4 (k : Nat) (v0 : (List Int)) (v1 : (List Int)) : Nat → Option (List Int)
  | 0 => none
  | n + 1 =>
    if 0 < (v1.length : Int) then
      idx v1 0 fun v9 =>
      beacon_bytes_v2.P6 k v0 v9 (fun v4_ v5_ => beacon_bytes_v2.L2 k v1 n v4_ v5_) k
    else
      beacon_bytes_v2.J1 k v0
def beacon_bytes_v2 (k : Nat) (v0 : (List Int)) (v1 : (List Int)) : Option (List Int) :=
  beacon_bytes_v2.P4 k v0 v1 k
def digest_rounds (k : Nat) : Option (List Int) :=
  chk ((List.replicate 64 0).length = 64 ∧ ([1116352408, 1899447441, 3049323471, 3921009573, 961987163, 1508970993, 2453635748, 2870763221, 3624381080, 310598401, 607225278, 1426881987, 1925078388, 2162078206, 2614888103, 3248222580, 3835390401, 4022224774, 264347078, 604807628, 770255983, 1249150122, 1555081692, 1996064986, 2554220882, 2821834349, 2952996808, 3210313671, 3336571891, 3584528711, 113926993, 338241895, 666307205, 773529912, 1294757372, 1396182291, 1695183700, 1986661051, 2177026350, 2456956037, 2730485921, 2820302411, 3259730800, 3345764771, 3516065817, 3600352804, 4094571909, 275423344, 430227734, 506948616, 659060556, 883997877, 958139571, 1322822218, 1537002063, 1747873779, 1955562222, 2024104815, 2227730452, 2361852424, 2428436474, 2756734187, 3204031479, 3329325298] : List Int).length = 64) <|
  chk (([1116352408, 1899447441, 3049323471, 3921009573, 961987163, 1508970993, 2453635748, 2870763221, 3624381080, 310598401, 607225278, 1426881987, 1925078388, 2162078206, 2614888103, 3248222580, 3835390401, 4022224774, 264347078, 604807628, 770255983, 1249150122, 1555081692, 1996064986, 2554220882, 2821834349, 2952996808, 3210313671, 3336571891, 3584528711, 113926993, 338241895, 666307205, 773529912, 1294757372, 1396182291, 1695183700, 1986661051, 2177026350, 2456956037, 2730485921, 2820302411, 3259730800, 3345764771, 3516065817, 3600352804, 4094571909, 275423344, 430227734, 506948616, 659060556, 883997877, 958139571, 1322822218, 1537002063, 1747873779, 1955562222, 2024104815, 2227730452, 2361852424, 2428436474, 2756734187, 3204031479, 3329325298] : List Int).length = 64) <|
  some ([1116352408, 1899447441, 3049323471, 3921009573, 961987163, 1508970993, 2453635748, 2870763221, 3624381080, 310598401, 607225278, 1426881987, 1925078388, 2162078206, 2614888103, 3248222580, 3835390401, 4022224774, 264347078, 604807628, 770255983, 1249150122, 1555081692, 1996064986, 2554220882, 2821834349, 2952996808, 3210313671, 3336571891, 3584528711, 113926993, 338241895, 666307205, 773529912, 1294757372, 1396182291, 1695183700, 1986661051, 2177026350, 2456956037, 2730485921, 2820302411, 3259730800, 3345764771, 3516065817, 3600352804, 4094571909, 275423344, 430227734, 506948616, 659060556, 883997877, 958139571, 1322822218, 1537002063, 1747873779, 1955562222, 2024104815, 2227730452, 2361852424, 2428436474, 2756734187, 3204031479, 3329325298] : List Int)
def math_bits_RotateLeft32 (k : Nat) (v0 : Int) (v1 : Int) : Option Int :=
  chk ((0 : Int) ≤ bitsV .and .u64 (IntKind.wrap .u64 v1) 31) <|
  chk ((0 : Int) ≤ IntKind.wrap .u64 (32 - bitsV .and .u64 (IntKind.wrap .u64 v1) 31)) <|
  some (bitsV .or .u32 (IntKind.wrap .u32 (v0 * 2 ^ (min ((bitsV .and .u64 (IntKind.wrap .u64 v1) 31).toNat) 32))) (Int.fdiv v0 (2 ^ (min ((IntKind.wrap .u64 (32 - bitsV .and .u64 (IntKind.wrap .u64 v1) 31)).toNat) 32))))
def digest_state_block_1 (k : Nat) (v0 : Int) (v1 : Int) : Option Int :=
  bnd1 (math_bits_RotateLeft32 k v0 (IntKind.wrap .i64 (0 - v1))) fun v3 =>
  some v3
def digest_state_block.L4 (k : Nat) (v21 : (List Int)) : Nat → Int → (List Int) → Option (List Int)
  | 0, _, _ => none
  | n + 1, v38, v39 =>
    if v38 < 8 then
      chk ((0 : Int) ≤ v38 ∧ v38 < 8 ∧ (v38).toNat < v39.length) <|
      idx v39 v38 fun v40 =>
      chk ((0 : Int) ≤ v38 ∧ v38 < 8 ∧ (v38).toNat < v21.length) <|
      idx v21 v38 fun v41 =>
      chk ((0 : Int) ≤ v38 ∧ v38 < 8 ∧ (v38).toNat < v39.length) <|
      digest_state_block.L4 k v21 n (IntKind.wrap .i64 (v38 + 1)) (v39.set (v38).toNat (IntKind.wrap .u32 (v40 + v41)))
    else
      some v39
def digest_state_block.L3 (k : Nat) (v0 : (List Int)) (v2 : (List Int)) (v11 : (List Int)) : Nat → Int → (List Int) → Option (List Int)
  | 0, _, _ => none
  | n + 1, v20, v21 =>
    if v20 < 64 then
      chk ((0 : Int) ≤ 0 ∧ 0 < 8 ∧ (0 : Int).toNat < v21.length) <|
      idx v21 (0 : Int) fun v22 =>
      chk ((0 : Int) ≤ 4 ∧ 4 < 8 ∧ (4 : Int).toNat < v21.length) <|
      idx v21 (4 : Int) fun v23 =>
      chk ((0 : Int) ≤ 7 ∧ 7 < 8 ∧ (7 : Int).toNat < v21.length) <|
      idx v21 (7 : Int) fun v24 =>
      bnd1 (digest_state_block_1 k v23 6) fun v25 =>
      bnd1 (digest_state_block_1 k v23 11) fun v26 =>
      bnd1 (digest_state_block_1 k v23 25) fun v27 =>
      chk ((0 : Int) ≤ 5 ∧ 5 < 8 ∧ (5 : Int).toNat < v21.length) <|
      idx v21 (5 : Int) fun v28 =>
      chk ((0 : Int) ≤ 6 ∧ 6 < 8 ∧ (6 : Int).toNat < v21.length) <|
      idx v21 (6 : Int) fun v29 =>
      chk ((0 : Int) ≤ v20 ∧ v20 < 64 ∧ (v20).toNat < v2.length) <|
      idx v2 v20 fun v30 =>
      chk ((0 : Int) ≤ v20 ∧ v20 < 64 ∧ (v20).toNat < v11.length) <|
      idx v11 v20 fun v31 =>
      bnd1 (digest_state_block_1 k v22 2) fun v32 =>
      bnd1 (digest_state_block_1 k v22 13) fun v33 =>
      bnd1 (digest_state_block_1 k v22 22) fun v34 =>
      chk ((0 : Int) ≤ 1 ∧ 1 < 8 ∧ (1 : Int).toNat < v21.length) <|
      idx v21 (1 : Int) fun v35 =>
      chk ((0 : Int) ≤ 2 ∧ 2 < 8 ∧ (2 : Int).toNat < v21.length) <|
      idx v21 (2 : Int) fun v36 =>
      chk ((0 : Int) ≤ 1 ∧ 1 < 8 ∧ (1 : Int).toNat < v21.length) <|
      chk ((0 : Int) ≤ 2 ∧ 2 < 8 ∧ (2 : Int).toNat < v21.length) <|
      chk ((0 : Int) ≤ 0 ∧ 0 < 8 ∧ (0 : Int).toNat < v21.length) <|
      chk ((0 : Int) ≤ 1 ∧ 1 < 8 ∧ (1 : Int).toNat < v21.length) <|
      chk ((0 : Int) ≤ 2 ∧ 2 < 8 ∧ (2 : Int).toNat < v21.length) <|
      chk ((0 : Int) ≤ 3 ∧ 3 < 8 ∧ (3 : Int).toNat < v21.length) <|
      idx v21 (3 : Int) fun v37 =>
      chk ((0 : Int) ≤ 4 ∧ 4 < 8 ∧ (4 : Int).toNat < v21.length) <|
      chk ((0 : Int) ≤ 5 ∧ 5 < 8 ∧ (5 : Int).toNat < v21.length) <|
      chk ((0 : Int) ≤ 6 ∧ 6 < 8 ∧ (6 : Int).toNat < v21.length) <|
      chk (v21.length = 8 ∧ ([IntKind.wrap .u32 (IntKind.wrap .u32 (IntKind.wrap .u32 (IntKind.wrap .u32 (IntKind.wrap .u32 (v24 + bitsV .xor .u32 (bitsV .xor .u32 v25 v26) v27) + bitsV .xor .u32 (bitsV .and .u32 v23 v28) (bitsV .and .u32 (bitsV .xor .u32 (IntKind.max .u32) v23) v29)) + v30) + v31) + IntKind.wrap .u32 (bitsV .xor .u32 (bitsV .xor .u32 v32 v33) v34 + bitsV .xor .u32 (bitsV .xor .u32 (bitsV .and .u32 v22 v35) (bitsV .and .u32 v22 v36)) (bitsV .and .u32 v35 v36))), v22, v35, v36, IntKind.wrap .u32 (v37 + IntKind.wrap .u32 (IntKind.wrap .u32 (IntKind.wrap .u32 (IntKind.wrap .u32 (v24 + bitsV .xor .u32 (bitsV .xor .u32 v25 v26) v27) + bitsV .xor .u32 (bitsV .and .u32 v23 v28) (bitsV .and .u32 (bitsV .xor .u32 (IntKind.max .u32) v23) v29)) + v30) + v31)), v23, v28, v29] : List Int).length = 8) <|
      digest_state_block.L3 k v0 v2 v11 n (IntKind.wrap .i64 (v20 + 1)) ([IntKind.wrap .u32 (IntKind.wrap .u32 (IntKind.wrap .u32 (IntKind.wrap .u32 (IntKind.wrap .u32 (v24 + bitsV .xor .u32 (bitsV .xor .u32 v25 v26) v27) + bitsV .xor .u32 (bitsV .and .u32 v23 v28) (bitsV .and .u32 (bitsV .xor .u32 (IntKind.max .u32) v23) v29)) + v30) + v31) + IntKind.wrap .u32 (bitsV .xor .u32 (bitsV .xor .u32 v32 v33) v34 + bitsV .xor .u32 (bitsV .xor .u32 (bitsV .and .u32 v22 v35) (bitsV .and .u32 v22 v36)) (bitsV .and .u32 v35 v36))), v22, v35, v36, IntKind.wrap .u32 (v37 + IntKind.wrap .u32 (IntKind.wrap .u32 (IntKind.wrap .u32 (IntKind.wrap .u32 (v24 + bitsV .xor .u32 (bitsV .xor .u32 v25 v26) v27) + bitsV .xor .u32 (bitsV .and .u32 v23 v28) (bitsV .and .u32 (bitsV .xor .u32 (IntKind.max .u32) v23) v29)) + v30) + v31)), v23, v28, v29] : List Int)
    else
      digest_state_block.L4 k v21 k 0 v0
def digest_state_block.L2 (k : Nat) (v0 : (List Int)) (v2 : (List Int)) : Nat → Int → (List Int) → Option (List Int)
  | 0, _, _ => none
  | n + 1, v10, v11 =>
    if v10 < 64 then
      chk ((0 : Int) ≤ (IntKind.wrap .i64 (v10 - 15)) ∧ (IntKind.wrap .i64 (v10 - 15)) < 64 ∧ (IntKind.wrap .i64 (v10 - 15)).toNat < v11.length) <|
      idx v11 (IntKind.wrap .i64 (v10 - 15)) fun v12 =>
      chk ((0 : Int) ≤ (IntKind.wrap .i64 (v10 - 2)) ∧ (IntKind.wrap .i64 (v10 - 2)) < 64 ∧ (IntKind.wrap .i64 (v10 - 2)).toNat < v11.length) <|
      idx v11 (IntKind.wrap .i64 (v10 - 2)) fun v13 =>
      chk ((0 : Int) ≤ (IntKind.wrap .i64 (v10 - 16)) ∧ (IntKind.wrap .i64 (v10 - 16)) < 64 ∧ (IntKind.wrap .i64 (v10 - 16)).toNat < v11.length) <|
      idx v11 (IntKind.wrap .i64 (v10 - 16)) fun v14 =>
      bnd1 (digest_state_block_1 k v12 7) fun v15 =>
      bnd1 (digest_state_block_1 k v12 18) fun v16 =>
      chk ((0 : Int) ≤ (IntKind.wrap .i64 (v10 - 7)) ∧ (IntKind.wrap .i64 (v10 - 7)) < 64 ∧ (IntKind.wrap .i64 (v10 - 7)).toNat < v11.length) <|
      idx v11 (IntKind.wrap .i64 (v10 - 7)) fun v17 =>
      bnd1 (digest_state_block_1 k v13 17) fun v18 =>
      bnd1 (digest_state_block_1 k v13 19) fun v19 =>
      chk ((0 : Int) ≤ v10 ∧ v10 < 64 ∧ (v10).toNat < v11.length) <|
      digest_state_block.L2 k v0 v2 n (IntKind.wrap .i64 (v10 + 1)) (v11.set (v10).toNat (IntKind.wrap .u32 (IntKind.wrap .u32 (IntKind.wrap .u32 (v14 + bitsV .xor .u32 (bitsV .xor .u32 v15 v16) (Int.fdiv v12 (2 ^ (3)))) + v17) + bitsV .xor .u32 (bitsV .xor .u32 v18 v19) (Int.fdiv v13 (2 ^ (10))))))
    else
      chk (v0.length = 8) <|
      chk ((List.replicate 8 0).length = 8 ∧ v0.length = 8) <|
      digest_state_block.L3 k v0 v2 v11 k 0 v0
def digest_state_block.L1 (k : Nat) (v0 : (List Int)) (v1 : (List Int)) (v2 : (List Int)) : Nat → Int → (List Int) → Option (List Int)
  | 0, _, _ => none
  | n + 1, v4, v5 =>
    if v4 < 16 then
      idx v1 (IntKind.wrap .i64 (4 * v4)) fun v6 =>
      idx v1 (IntKind.wrap .i64 (IntKind.wrap .i64 (4 * v4) + 1)) fun v7 =>
      idx v1 (IntKind.wrap .i64 (IntKind.wrap .i64 (4 * v4) + 2)) fun v8 =>
      idx v1 (IntKind.wrap .i64 (IntKind.wrap .i64 (4 * v4) + 3)) fun v9 =>
      chk ((0 : Int) ≤ v4 ∧ v4 < 64 ∧ (v4).toNat < v5.length) <|
      digest_state_block.L1 k v0 v1 v2 n (IntKind.wrap .i64 (v4 + 1)) (v5.set (v4).toNat (bitsV .or .u32 (bitsV .or .u32 (bitsV .or .u32 (IntKind.wrap .u32 ((IntKind.wrap .u32 v6) * 2 ^ (24))) (IntKind.wrap .u32 ((IntKind.wrap .u32 v7) * 2 ^ (16)))) (IntKind.wrap .u32 ((IntKind.wrap .u32 v8) * 2 ^ (8)))) (IntKind.wrap .u32 v9)))
    else
      digest_state_block.L2 k v0 v2 k 16 v5
def digest_state_block (k : Nat) (v0 : (List Int)) (v1 : (List Int)) (v2 : (List Int)) : Option (List Int) :=
  digest_state_block.L1 k v0 v1 v2 k 0 (List.replicate 64 0)
def digest_Sum.L4 (k : Nat) (v7 : (List Int)) : Nat → Int → (List Int) → Option ByteArray
  | 0, _, _ => none
  | n + 1, v9, v10 =>
    if v9 < 8 then
      chk (v9 < 8) <|
      idx v7 v9 fun v11 =>
      chk ((v10.length + ([IntKind.wrap .u8 (Int.fdiv v11 (2 ^ (24))), IntKind.wrap .u8 (Int.fdiv v11 (2 ^ (16))), IntKind.wrap .u8 (Int.fdiv v11 (2 ^ (8))), IntKind.wrap .u8 v11] : List Int).length) * 1 ≤ 140737488355328) <|
      digest_Sum.L4 k v7 n (IntKind.wrap .i64 (v9 + 1)) (v10 ++ ([IntKind.wrap .u8 (Int.fdiv v11 (2 ^ (24))), IntKind.wrap .u8 (Int.fdiv v11 (2 ^ (16))), IntKind.wrap .u8 (Int.fdiv v11 (2 ^ (8))), IntKind.wrap .u8 v11] : List Int))
    else
      some (ofI v10)
def digest_Sum.L3 (k : Nat) (v5 : (List Int)) : Nat → (List Int) → (List Int) → Option ByteArray
  | 0, _, _ => none
  | n + 1, v6, v7 =>
    if 0 < (v6.length : Int) then
      chk ((64 : Int) ≤ (v6.length : Int)) <|
      bnd1 (digest_state_block k v7 (v6.take (64 : Int).toNat) v5) fun v8 =>
      chk ((64 : Int) ≤ (v6.length : Int)) <|
      digest_Sum.L3 k v5 n (v6.drop (64 : Int).toNat) v8
    else
      chk (v7.length = 8) <|
      digest_Sum.L4 k v7 k 0 ([] : List Int)
def digest_Sum.L2 (k : Nat) (v0 : (List Int)) : Nat → Int → (List Int) → Option ByteArray
  | 0, _, _ => none
  | n + 1, v3, v4 =>
    if 0 ≤ v3 then
      chk ((0 : Int) ≤ IntKind.wrap .u64 v3) <|
      chk ((v4.length + ([IntKind.wrap .u8 (Int.fdiv (IntKind.wrap .u64 (IntKind.wrap .u64 (v0.length : Int) * 8)) (2 ^ (min ((IntKind.wrap .u64 v3).toNat) 64)))] : List Int).length) * 1 ≤ 140737488355328) <|
      digest_Sum.L2 k v0 n (IntKind.wrap .i64 (v3 - 8)) (v4 ++ ([IntKind.wrap .u8 (Int.fdiv (IntKind.wrap .u64 (IntKind.wrap .u64 (v0.length : Int) * 8)) (2 ^ (min ((IntKind.wrap .u64 v3).toNat) 64)))] : List Int))
    else
      bnd1 (digest_rounds k) fun v5 =>
      chk ((List.replicate 8 0).length = 8 ∧ ([1779033703, 3144134277, 1013904242, 2773480762, 1359893119, 2600822924, 528734635, 1541459225] : List Int).length = 8) <|
      chk ((List.replicate 64 0).length = 64 ∧ v5.length = 64) <|
      digest_Sum.L3 k v5 k v4 ([1779033703, 3144134277, 1013904242, 2773480762, 1359893119, 2600822924, 528734635, 1541459225] : List Int)
def digest_Sum.L1 (k : Nat) (v0 : (List Int)) : Nat → (List Int) → Option ByteArray
  | 0, _ => none
  | n + 1, v2 =>
    if (Int.tmod (v2.length : Int) 64) ≠ 56 then
      chk ((v2.length + ([0] : List Int).length) * 1 ≤ 140737488355328) <|
      digest_Sum.L1 k v0 n (v2 ++ ([0] : List Int))
    else
      digest_Sum.L2 k v0 k 56 v2
def digest_Sum (k : Nat) (v0 : (List Int)) : Option ByteArray :=
  chk (v0.length * 1 ≤ 140737488355328) <|
  chk ((v0.length + ([128] : List Int).length) * 1 ≤ 140737488355328) <|
  digest_Sum.L1 k v0 k (v0 ++ ([128] : List Int))
def beacon_Numbers.L2 (k : Nat) (v6 : Int) (v7 : (List Int)) (v9 : ByteArray) (kb1 : Int → (List Int) → Option ((List Int) × Int)) : Nat → Int → Int → Option ((List Int) × Int)
  | 0, _, _ => none
  | n + 1, v10, v11 =>
    if v11 < 4 then
      idx (bI v9) v11 fun v12 =>
      beacon_Numbers.L2 k v6 v7 v9 kb1 n (bitsV .or .i64 (IntKind.wrap .i64 (v10 * 2 ^ (8))) (IntKind.wrap .i64 v12)) (IntKind.wrap .i64 (v11 + 1))
    else
      chk ((v7.length + ([v10] : List Int).length) * 8 ≤ 140737488355328) <|
      kb1 (IntKind.wrap .i64 (v6 + 1)) (v7 ++ ([v10] : List Int))
def beacon_Numbers.L1 (k : Nat) (v2 : Int) (v5 : (List Int)) : Nat → Int → (List Int) → Option ((List Int) × Int)
  | 0, _, _ => none
  | n + 1, v6, v7 =>
    if v6 < v2 then
      chk ((0 : Int) ≤ (v5.length : Int) ∧ ((v5.length : Int) : Int) ≤ (v5.length : Int)) <|
      bnd1 (beacon_bytes_v2 k (v5.take ((v5.length : Int)).toNat) ([v6] : List Int)) fun v8 =>
      bnd1 (digest_Sum k v8) fun v9 =>
      beacon_Numbers.L2 k v6 v7 v9 (fun v6_ v7_ => beacon_Numbers.L1 k v2 v5 n v6_ v7_) k 0 0
    else
      some (v7, 0)
def beacon_Numbers (k : Nat) (v0 : ByteArray) (v1 : (List Int)) (v2 : Int) : Option ((List Int) × Int) :=
  if (v0.size : Int) ≠ 32 then
    some (([] : List Int), 1)
  else
    if 64 < (v1.length : Int) then
      some (([] : List Int), 3)
    else
      if v2 < 0 then
        some (([] : List Int), 2)
      else
        if 64 < v2 then
          some (([] : List Int), 2)
        else
          bnd1 (beacon_list k (bI v0) v1) fun v5 =>
          beacon_Numbers.L1 k v2 v5 k 0 ([] : List Int)
def committee_draw (k : Nat) (v0 : (List Int)) (v1 : (List Int)) (v2 : (List Int)) (v3 : Int) (v4 : Int) (v5 : Int) (v6 : Int) (v7 : ByteArray) (v8 : (List Int)) (v9 : Int) (v10 : Int) (v11 : Int) (v12 : Int) (v13 : Int) : Option ((List Int) × Int) :=
  bnd2 (beacon_Numbers k v7 ([v9, v10, v11, v13] : List Int) 9) fun v16 v17 =>
  if v17 ≠ 0 then
    some (([] : List Int), v17)
  else
    bnd2 (committee_Draw k v8 v16 v4) fun v18 v19 =>
    some (v18, v19)
def roster_Minus_1 (k : Nat) (v0 : Int) (v1 : (List Bool)) (v2 : (List Bool)) : Option Bool :=
  chk ((0 : Int) ≤ v0 ∧ v0 < 64 ∧ (v0).toNat < v1.length) <|
  idx v1 v0 fun v4 =>
  if v4 = true then
    chk ((0 : Int) ≤ v0 ∧ v0 < 64 ∧ (v0).toNat < v2.length) <|
    idx v2 v0 fun v5 =>
    some (!v5)
  else
    some false
def roster_keys_Minus_1.J2 (k : Nat) (v3 : Int) (kb1 : Int → (List Int) → Option (List Int)) (v5 : (List Int)) : Option (List Int) :=
  kb1 (IntKind.wrap .i64 (v3 + 1)) v5
def roster_keys_Minus_1.L1 (k : Nat) (v0 : (List Bool)) (v1 : (List Bool)) : Nat → Int → (List Int) → Option (List Int)
  | 0, _, _ => none
  | n + 1, v3, v4 =>
    if v3 < 64 then
      bnd1 (roster_Minus_1 k v3 v0 v1) fun v6 =>
      if v6 = true then
        chk ((v4.length + ([v3] : List Int).length) * 8 ≤ 140737488355328) <|
        roster_keys_Minus_1.J2 k v3 (fun v3_ v4_ => roster_keys_Minus_1.L1 k v0 v1 n v3_ v4_) (v4 ++ ([v3] : List Int))
      else
        roster_keys_Minus_1.J2 k v3 (fun v3_ v4_ => roster_keys_Minus_1.L1 k v0 v1 n v3_ v4_) v4
    else
      some v4
def roster_keys_Minus_1 (k : Nat) (v0 : (List Bool)) (v1 : (List Bool)) : Option (List Int) :=
  roster_keys_Minus_1.L1 k v0 v1 k 0 ([] : List Int)
def roster_Minus (k : Nat) (v0 : (List Int)) (v1 : (List Int)) : Option (List Int) :=
  bnd1 (roster_of k v0) fun v3 =>
  bnd1 (roster_of k v1) fun v4 =>
  chk ((List.replicate 64 false).length = 64 ∧ v3.length = 64) <|
  chk ((List.replicate 64 false).length = 64 ∧ v4.length = 64) <|
  bnd1 (roster_keys_Minus_1 k v3 v4) fun v5 =>
  some v5
def committee_Of (k : Nat) (v0 : (List Int)) (v1 : (List Int)) (v2 : (List Int)) (v3 : Int) (v4 : Int) (v5 : Int) (v6 : Int) (v7 : ByteArray) (v8 : (List Int)) (v9 : Int) (v10 : Int) (v11 : Int) (v12 : Int) : Option ((List Int) × Int) :=
  bnd1 (roster_Check k v0 v1 v2 v3 v4 v5 v6) fun v15 =>
  if v15 ≠ 0 then
    some (([] : List Int), v15)
  else
    bnd1 (roster_Valid k v8) fun v16 =>
    if (!v16) = true then
      some (([] : List Int), 43)
    else
      bnd1 (cases_Valid k v9 v10 v11 v12) fun v17 =>
      if (!v17) = true then
        some (([] : List Int), 41)
      else
        bnd2 (committee_draw k v0 v1 v2 v3 v4 v5 v6 v7 v8 v9 v10 v11 v12 0) fun v18 v19 =>
        if v19 ≠ 0 then
          some (v18, v19)
        else
          if v12 = 0 then
            some (v18, v19)
          else
            bnd1 (roster_Minus k v8 v18) fun v20 =>
            if (v20.length : Int) = 0 then
              some (([] : List Int), 44)
            else
              bnd2 (committee_draw k v0 v1 v2 v3 v4 v5 v6 v7 v20 v9 v10 v11 v12 1) fun v21 v22 =>
              some (v21, v22)
def ref24_Valid.J2 (k : Nat) (v2 : Int) (kb1 : Int → Option Bool) : Option Bool :=
  kb1 (IntKind.wrap .i64 (v2 + 1))
def ref24_Valid.L1 (k : Nat) (v0 : (List Int)) : Nat → Int → Option Bool
  | 0, _ => none
  | n + 1, v2 =>
    if v2 < (v0.length : Int) then
      idx v0 v2 fun v3 =>
      if v3 < 0 then
        some false
      else
        if 64 ≤ v3 then
          some false
        else
          if 0 < v2 then
            idx v0 (IntKind.wrap .i64 (v2 - 1)) fun v4 =>
            if v3 ≤ v4 then
              some false
            else
              ref24_Valid.J2 k v2 (fun v2_ => ref24_Valid.L1 k v0 n v2_)
          else
            ref24_Valid.J2 k v2 (fun v2_ => ref24_Valid.L1 k v0 n v2_)
    else
      some true
def ref24_Valid (k : Nat) (v0 : (List Int)) : Option Bool :=
  if (v0.length : Int) = 0 then
    some false
  else
    if 64 < (v0.length : Int) then
      some false
    else
      ref24_Valid.L1 k v0 k 0
def ref11_Set.J2 (k : Nat) (v3 : Int) (kb1 : Int → Option Bool) : Option Bool :=
  kb1 (IntKind.wrap .i64 (v3 + 1))
def ref11_Set.L1 (k : Nat) (v0 : (List Int)) (v1 : Int) : Nat → Int → Option Bool
  | 0, _ => none
  | n + 1, v3 =>
    if v3 < (v0.length : Int) then
      idx v0 v3 fun v4 =>
      if v4 < 0 then
        some false
      else
        if v1 ≤ v4 then
          some false
        else
          if 0 < v3 then
            idx v0 (IntKind.wrap .i64 (v3 - 1)) fun v5 =>
            if v4 ≤ v5 then
              some false
            else
              ref11_Set.J2 k v3 (fun v3_ => ref11_Set.L1 k v0 v1 n v3_)
          else
            ref11_Set.J2 k v3 (fun v3_ => ref11_Set.L1 k v0 v1 n v3_)
    else
      some true
def ref11_Set (k : Nat) (v0 : (List Int)) (v1 : Int) : Option Bool :=
  ref11_Set.L1 k v0 v1 k 0
def ref11_Has.L1 (k : Nat) (v0 : (List Int)) (v1 : Int) : Nat → Int → Option Bool
  | 0, _ => none
  | n + 1, v3 =>
    if v3 < (v0.length : Int) then
      idx v0 v3 fun v4 =>
      if v4 = v1 then
        some true
      else
        ref11_Has.L1 k v0 v1 n (IntKind.wrap .i64 (v3 + 1))
    else
      some false
def ref11_Has (k : Nat) (v0 : (List Int)) (v1 : Int) : Option Bool :=
  ref11_Has.L1 k v0 v1 k 0
def ref11_before (k : Nat) (v0 : Int) (v1 : Int) (v2 : Int) (v3 : Int) (v4 : Int) (v5 : Int) : Option Bool :=
  if v0 < v3 then
    some true
  else
    if v0 = v3 then
      some (decide (v1 < v4))
    else
      some false
def ref11_Check.J2 (k : Nat) (v5 : Int) (kb1 : Int → Option Int) (v7 : Bool) : Option Int :=
  if v7 = true then
    some 14
  else
    kb1 (IntKind.wrap .i64 (v5 + 1))
def ref11_Check.L1 (k : Nat) (v0 : Int) (v1 : (List api_Edge)) (v2 : (List Int)) : Nat → Int → Option Int
  | 0, _ => none
  | n + 1, v5 =>
    if v5 < (v1.length : Int) then
      idx v1 v5 fun v6 =>
      if v6.From < 0 then
        some 14
      else
        if v0 ≤ v6.From then
          some 14
        else
          if v6.To < 0 then
            some 14
          else
            if v0 ≤ v6.To then
              some 14
            else
              if v6.From = v6.To then
                some 14
              else
                if v6.Level < 1 then
                  some 14
                else
                  if 3 < v6.Level then
                    some 14
                  else
                    if 0 < v5 then
                      idx v1 (IntKind.wrap .i64 (v5 - 1)) fun v8 =>
                      bnd1 (ref11_before k v8.From v8.To v8.Level v6.From v6.To v6.Level) fun v9 =>
                      if (!v9) = true then
                        ref11_Check.J2 k v5 (fun v5_ => ref11_Check.L1 k v0 v1 v2 n v5_) true
                      else
                        bnd1 (ref11_Has k v2 v6.From) fun v10 =>
                        if v10 = true then
                          ref11_Check.J2 k v5 (fun v5_ => ref11_Check.L1 k v0 v1 v2 n v5_) true
                        else
                          bnd1 (ref11_Has k v2 v6.To) fun v11 =>
                          ref11_Check.J2 k v5 (fun v5_ => ref11_Check.L1 k v0 v1 v2 n v5_) v11
                    else
                      bnd1 (ref11_Has k v2 v6.From) fun v12 =>
                      if v12 = true then
                        ref11_Check.J2 k v5 (fun v5_ => ref11_Check.L1 k v0 v1 v2 n v5_) true
                      else
                        bnd1 (ref11_Has k v2 v6.To) fun v13 =>
                        ref11_Check.J2 k v5 (fun v5_ => ref11_Check.L1 k v0 v1 v2 n v5_) v13
    else
      some 0
def ref11_Check (k : Nat) (v0 : Int) (v1 : (List api_Edge)) (v2 : (List Int)) : Option Int :=
  if v0 < 0 then
    some 14
  else
    if 64 < v0 then
      some 14
    else
      if 500 < (v1.length : Int) then
        some 14
      else
        bnd1 (ref11_Set k v2 v0) fun v4 =>
        if (!v4) = true then
          some 14
        else
          ref11_Check.L1 k v0 v1 v2 k 0
def ref13_policy.J2 (k : Nat) (v8 : Int) (kb1 : Int → Option Bool) : Option Bool :=
  kb1 (IntKind.wrap .i64 (v8 + 1))
def ref13_policy.L1 (k : Nat) (v4 : (List Int)) : Nat → Int → Option Bool
  | 0, _ => none
  | n + 1, v8 =>
    if v8 < (v4.length : Int) then
      idx v4 v8 fun v9 =>
      if v9 < 1 then
        some false
      else
        if 1000 < v9 then
          some false
        else
          if 0 < v8 then
            idx v4 (IntKind.wrap .i64 (v8 - 1)) fun v10 =>
            if v10 < v9 then
              some false
            else
              ref13_policy.J2 k v8 (fun v8_ => ref13_policy.L1 k v4 n v8_)
          else
            ref13_policy.J2 k v8 (fun v8_ => ref13_policy.L1 k v4 n v8_)
    else
      some true
def ref13_policy (k : Nat) (v0 : Int) (v1 : (List api_Edge)) (v2 : (List Int)) (v3 : (List Int)) (v4 : (List Int)) (v5 : Int) : Option Bool :=
  if (v3.length : Int) = 0 then
    some false
  else
    bnd1 (ref11_Set k v3 v0) fun v7 =>
    if (!v7) = true then
      some false
    else
      if (v4.length : Int) < 1 then
        some false
      else
        if 8 < (v4.length : Int) then
          some false
        else
          if v5 < 1 then
            some false
          else
            if 3 < v5 then
              some false
            else
              ref13_policy.L1 k v4 k 0
def ref13_Check (k : Nat) (v0 : Int) (v1 : (List api_Edge)) (v2 : (List Int)) (v3 : (List Int)) (v4 : (List Int)) (v5 : Int) : Option Int :=
  bnd1 (ref11_Check k v0 v1 v2) fun v7 =>
  if v7 ≠ 0 then
    some 14
  else
    bnd1 (ref13_policy k v0 v1 v2 v3 v4 v5) fun v8 =>
    if (!v8) = true then
      some 15
    else
      some 0
def ref24_Check (k : Nat) (v0 : (List Int)) (v1 : (List Int)) (v2 : (List Int)) (v3 : Int) (v4 : Int) (v5 : Int) (v6 : Int) : Option Int :=
  bnd1 (ref24_Valid k v0) fun v8 =>
  if (!v8) = true then
    some 43
  else
    bnd1 (ref13_Check k 64 ([] : List api_Edge) ([] : List Int) v1 v2 v3) fun v9 =>
    if v9 ≠ 0 then
      some v9
    else
      if v4 < 1 then
        some 40
      else
        if 9 < v4 then
          some 40
        else
          if v5 < 1 then
            some 40
          else
            if 1000000 < v5 then
              some 40
            else
              if v6 < 0 then
                some 40
              else
                if 64 < v6 then
                  some 40
                else
                  some 0
def ref23_Valid.J1 (k : Nat) (v5 : Bool) : Option Bool :=
  if v5 = true then
    some true
  else
    some false
def ref23_Valid (k : Nat) (v0 : Int) (v1 : Int) (v2 : Int) (v3 : Int) : Option Bool :=
  if v0 < 0 then
    some false
  else
    if 40 ≤ v0 then
      some false
    else
      if v2 < 0 then
        some false
      else
        if 64 ≤ v2 then
          some false
        else
          if v3 < 0 then
            some false
          else
            if 1 < v3 then
              some false
            else
              if v1 = 1 then
                if v2 = 0 then
                  some (v3 == 0)
                else
                  some false
              else
                if v1 = 2 then
                  ref23_Valid.J1 k true
                else
                  ref23_Valid.J1 k (v1 == 3)
def ref25_number.L1 (k : Nat) (v1 : Int) : Nat → Int → (List Int) → Option (List Int)
  | 0, _, _ => none
  | n + 1, v3, v4 =>
    if 0 ≤ v3 then
      chk ((0 : Int) ≤ IntKind.wrap .u64 (IntKind.wrap .i64 (8 * v3))) <|
      chk ((v4.length + ([IntKind.wrap .u8 (Int.fdiv (IntKind.wrap .u64 v1) (2 ^ (min ((IntKind.wrap .u64 (IntKind.wrap .i64 (8 * v3))).toNat) 64)))] : List Int).length) * 1 ≤ 140737488355328) <|
      ref25_number.L1 k v1 n (IntKind.wrap .i64 (v3 - 1)) (v4 ++ ([IntKind.wrap .u8 (Int.fdiv (IntKind.wrap .u64 v1) (2 ^ (min ((IntKind.wrap .u64 (IntKind.wrap .i64 (8 * v3))).toNat) 64)))] : List Int))
    else
      some v4
def ref25_number (k : Nat) (v0 : (List Int)) (v1 : Int) : Option (List Int) :=
  ref25_number.L1 k v1 k 7 v0
def ref25_list.L1 (k : Nat) (v1 : (List Int)) : Nat → Int → (List Int) → Option (List Int)
  | 0, _, _ => none
  | n + 1, v4, v5 =>
    if v4 < (v1.length : Int) then
      idx v1 v4 fun v6 =>
      bnd1 (ref25_number k v5 v6) fun v7 =>
      ref25_list.L1 k v1 n (IntKind.wrap .i64 (v4 + 1)) v7
    else
      some v5
def ref25_list (k : Nat) (v0 : (List Int)) (v1 : (List Int)) : Option (List Int) :=
  bnd1 (ref25_number k v0 (v1.length : Int)) fun v3 =>
  ref25_list.L1 k v1 k 0 v3
def ref01_constants (k : Nat) : Option (List Int) :=
  some ([1116352408, 1899447441, 3049323471, 3921009573, 961987163, 1508970993, 2453635748, 2870763221, 3624381080, 310598401, 607225278, 1426881987, 1925078388, 2162078206, 2614888103, 3248222580, 3835390401, 4022224774, 264347078, 604807628, 770255983, 1249150122, 1555081692, 1996064986, 2554220882, 2821834349, 2952996808, 3210313671, 3336571891, 3584528711, 113926993, 338241895, 666307205, 773529912, 1294757372, 1396182291, 1695183700, 1986661051, 2177026350, 2456956037, 2730485921, 2820302411, 3259730800, 3345764771, 3516065817, 3600352804, 4094571909, 275423344, 430227734, 506948616, 659060556, 883997877, 958139571, 1322822218, 1537002063, 1747873779, 1955562222, 2024104815, 2227730452, 2361852424, 2428436474, 2756734187, 3204031479, 3329325298] : List Int)
def ref01_turn (k : Nat) (v0 : Int) (v1 : Int) : Option Int :=
  chk ((0 : Int) ≤ v1) <|
  chk ((0 : Int) ≤ IntKind.wrap .u64 (32 - v1)) <|
  some (bitsV .or .u32 (Int.fdiv v0 (2 ^ (min v1.toNat 32))) (IntKind.wrap .u32 (v0 * 2 ^ (min ((IntKind.wrap .u64 (32 - v1)).toNat) 32))))
def ref01_block.L4 (k : Nat) (v0 : (List Int)) : Nat → Int → (List Int) → Option (List Int)
  | 0, _, _ => none
  | n + 1, v39, v40 =>
    if v39 < 8 then
      chk ((0 : Int) ≤ v39 ∧ (v39).toNat < v40.length) <|
      idx v40 v39 fun v41 =>
      idx v0 v39 fun v42 =>
      chk ((0 : Int) ≤ v39 ∧ (v39).toNat < v40.length) <|
      ref01_block.L4 k v0 n (IntKind.wrap .i64 (v39 + 1)) (v40.set (v39).toNat (IntKind.wrap .u32 (v41 + v42)))
    else
      some v40
def ref01_block.L3 (k : Nat) (v0 : (List Int)) (v2 : (List Int)) (v12 : (List Int)) : Nat → Int → (List Int) → Option (List Int)
  | 0, _, _ => none
  | n + 1, v21, v22 =>
    if v21 < 64 then
      idx v22 4 fun v23 =>
      bnd1 (ref01_turn k v23 6) fun v24 =>
      bnd1 (ref01_turn k v23 11) fun v25 =>
      bnd1 (ref01_turn k v23 25) fun v26 =>
      idx v22 5 fun v27 =>
      idx v22 6 fun v28 =>
      idx v22 7 fun v29 =>
      idx v2 v21 fun v30 =>
      idx v12 v21 fun v31 =>
      idx v22 0 fun v32 =>
      bnd1 (ref01_turn k v32 2) fun v33 =>
      bnd1 (ref01_turn k v32 13) fun v34 =>
      bnd1 (ref01_turn k v32 22) fun v35 =>
      idx v22 1 fun v36 =>
      idx v22 2 fun v37 =>
      idx v22 3 fun v38 =>
      ref01_block.L3 k v0 v2 v12 n (IntKind.wrap .i64 (v21 + 1)) ([IntKind.wrap .u32 (IntKind.wrap .u32 (IntKind.wrap .u32 (IntKind.wrap .u32 (IntKind.wrap .u32 (IntKind.wrap .u32 (v29 + bitsV .xor .u32 (bitsV .xor .u32 v24 v25) v26) + bitsV .xor .u32 (bitsV .and .u32 v23 v27) (bitsV .and .u32 (bitsV .xor .u32 (IntKind.max .u32) v23) v28)) + v30) + v31) + bitsV .xor .u32 (bitsV .xor .u32 v33 v34) v35) + bitsV .xor .u32 (bitsV .xor .u32 (bitsV .and .u32 v32 v36) (bitsV .and .u32 v32 v37)) (bitsV .and .u32 v36 v37)), v32, v36, v37, IntKind.wrap .u32 (v38 + IntKind.wrap .u32 (IntKind.wrap .u32 (IntKind.wrap .u32 (IntKind.wrap .u32 (v29 + bitsV .xor .u32 (bitsV .xor .u32 v24 v25) v26) + bitsV .xor .u32 (bitsV .and .u32 v23 v27) (bitsV .and .u32 (bitsV .xor .u32 (IntKind.max .u32) v23) v28)) + v30) + v31)), v23, v27, v28] : List Int)
    else
      ref01_block.L4 k v0 k 0 v22
def ref01_block.L2 (k : Nat) (v0 : (List Int)) (v2 : (List Int)) : Nat → Int → (List Int) → Option (List Int)
  | 0, _, _ => none
  | n + 1, v11, v12 =>
    if v11 < 64 then
      chk ((0 : Int) ≤ (IntKind.wrap .i64 (v11 - 15)) ∧ (IntKind.wrap .i64 (v11 - 15)).toNat < v12.length) <|
      idx v12 (IntKind.wrap .i64 (v11 - 15)) fun v13 =>
      bnd1 (ref01_turn k v13 7) fun v14 =>
      chk ((0 : Int) ≤ (IntKind.wrap .i64 (v11 - 15)) ∧ (IntKind.wrap .i64 (v11 - 15)).toNat < v12.length) <|
      bnd1 (ref01_turn k v13 18) fun v15 =>
      chk ((0 : Int) ≤ (IntKind.wrap .i64 (v11 - 15)) ∧ (IntKind.wrap .i64 (v11 - 15)).toNat < v12.length) <|
      chk ((0 : Int) ≤ (IntKind.wrap .i64 (v11 - 2)) ∧ (IntKind.wrap .i64 (v11 - 2)).toNat < v12.length) <|
      idx v12 (IntKind.wrap .i64 (v11 - 2)) fun v16 =>
      bnd1 (ref01_turn k v16 17) fun v17 =>
      chk ((0 : Int) ≤ (IntKind.wrap .i64 (v11 - 2)) ∧ (IntKind.wrap .i64 (v11 - 2)).toNat < v12.length) <|
      bnd1 (ref01_turn k v16 19) fun v18 =>
      chk ((0 : Int) ≤ (IntKind.wrap .i64 (v11 - 2)) ∧ (IntKind.wrap .i64 (v11 - 2)).toNat < v12.length) <|
      chk ((0 : Int) ≤ (IntKind.wrap .i64 (v11 - 16)) ∧ (IntKind.wrap .i64 (v11 - 16)).toNat < v12.length) <|
      idx v12 (IntKind.wrap .i64 (v11 - 16)) fun v19 =>
      chk ((0 : Int) ≤ (IntKind.wrap .i64 (v11 - 7)) ∧ (IntKind.wrap .i64 (v11 - 7)).toNat < v12.length) <|
      idx v12 (IntKind.wrap .i64 (v11 - 7)) fun v20 =>
      chk ((0 : Int) ≤ v11 ∧ (v11).toNat < v12.length) <|
      ref01_block.L2 k v0 v2 n (IntKind.wrap .i64 (v11 + 1)) (v12.set (v11).toNat (IntKind.wrap .u32 (IntKind.wrap .u32 (IntKind.wrap .u32 (v19 + bitsV .xor .u32 (bitsV .xor .u32 v14 v15) (Int.fdiv v13 (2 ^ (3)))) + v20) + bitsV .xor .u32 (bitsV .xor .u32 v17 v18) (Int.fdiv v16 (2 ^ (10))))))
    else
      chk (v0.length * 4 ≤ 140737488355328) <|
      ref01_block.L3 k v0 v2 v12 k 0 v0
def ref01_block.L1 (k : Nat) (v0 : (List Int)) (v1 : (List Int)) (v2 : (List Int)) : Nat → Int → (List Int) → Option (List Int)
  | 0, _, _ => none
  | n + 1, v5, v6 =>
    if v5 < 16 then
      idx v1 (IntKind.wrap .i64 (4 * v5)) fun v7 =>
      idx v1 (IntKind.wrap .i64 (IntKind.wrap .i64 (4 * v5) + 1)) fun v8 =>
      idx v1 (IntKind.wrap .i64 (IntKind.wrap .i64 (4 * v5) + 2)) fun v9 =>
      idx v1 (IntKind.wrap .i64 (IntKind.wrap .i64 (4 * v5) + 3)) fun v10 =>
      chk ((0 : Int) ≤ v5 ∧ (v5).toNat < v6.length) <|
      ref01_block.L1 k v0 v1 v2 n (IntKind.wrap .i64 (v5 + 1)) (v6.set (v5).toNat (bitsV .or .u32 (bitsV .or .u32 (bitsV .or .u32 (IntKind.wrap .u32 ((IntKind.wrap .u32 v7) * 2 ^ (24))) (IntKind.wrap .u32 ((IntKind.wrap .u32 v8) * 2 ^ (16)))) (IntKind.wrap .u32 ((IntKind.wrap .u32 v9) * 2 ^ (8)))) (IntKind.wrap .u32 v10)))
    else
      ref01_block.L2 k v0 v2 k 16 v6
def ref01_block (k : Nat) (v0 : (List Int)) (v1 : (List Int)) (v2 : (List Int)) : Option (List Int) :=
  chk ((0 : Int) ≤ 64 ∧ 16 * 64 ≤ 281474976710656) <|
  let1 (List.replicate 64 0) fun v4 =>
  ref01_block.L1 k v0 v1 v2 k 0 v4
def ref01_Sum.L4 (k : Nat) (v6 : (List Int)) : Nat → Int → (List Int) → Option ByteArray
  | 0, _, _ => none
  | n + 1, v9, v10 =>
    if v9 < 8 then
      idx v6 v9 fun v11 =>
      chk ((v10.length + ([IntKind.wrap .u8 (Int.fdiv v11 (2 ^ (24))), IntKind.wrap .u8 (Int.fdiv v11 (2 ^ (16))), IntKind.wrap .u8 (Int.fdiv v11 (2 ^ (8))), IntKind.wrap .u8 v11] : List Int).length) * 1 ≤ 140737488355328) <|
      ref01_Sum.L4 k v6 n (IntKind.wrap .i64 (v9 + 1)) (v10 ++ ([IntKind.wrap .u8 (Int.fdiv v11 (2 ^ (24))), IntKind.wrap .u8 (Int.fdiv v11 (2 ^ (16))), IntKind.wrap .u8 (Int.fdiv v11 (2 ^ (8))), IntKind.wrap .u8 v11] : List Int))
    else
      some (ofI v10)
def ref01_Sum.L3 (k : Nat) (v4 : (List Int)) (v5 : (List Int)) : Nat → (List Int) → Int → Option ByteArray
  | 0, _, _ => none
  | n + 1, v6, v7 =>
    if v7 < (v4.length : Int) then
      chk ((0 : Int) ≤ v7 ∧ (v7 : Int) ≤ IntKind.wrap .i64 (v7 + 64) ∧ (IntKind.wrap .i64 (v7 + 64) : Int) ≤ (v4.length : Int)) <|
      bnd1 (ref01_block k v6 ((v4.take (IntKind.wrap .i64 (v7 + 64)).toNat).drop (v7).toNat) v5) fun v8 =>
      ref01_Sum.L3 k v4 v5 n v8 (IntKind.wrap .i64 (v7 + 64))
    else
      ref01_Sum.L4 k v6 k 0 ([] : List Int)
def ref01_Sum.L2 (k : Nat) (v0 : (List Int)) : Nat → Int → (List Int) → Option ByteArray
  | 0, _, _ => none
  | n + 1, v3, v4 =>
    if 0 ≤ v3 then
      chk ((0 : Int) ≤ IntKind.wrap .u64 (IntKind.wrap .i64 (8 * v3))) <|
      chk ((v4.length + ([IntKind.wrap .u8 (Int.fdiv (IntKind.wrap .u64 (IntKind.wrap .u64 (v0.length : Int) * 8)) (2 ^ (min ((IntKind.wrap .u64 (IntKind.wrap .i64 (8 * v3))).toNat) 64)))] : List Int).length) * 1 ≤ 140737488355328) <|
      ref01_Sum.L2 k v0 n (IntKind.wrap .i64 (v3 - 1)) (v4 ++ ([IntKind.wrap .u8 (Int.fdiv (IntKind.wrap .u64 (IntKind.wrap .u64 (v0.length : Int) * 8)) (2 ^ (min ((IntKind.wrap .u64 (IntKind.wrap .i64 (8 * v3))).toNat) 64)))] : List Int))
    else
      bnd1 (ref01_constants k) fun v5 =>
      ref01_Sum.L3 k v4 v5 k ([1779033703, 3144134277, 1013904242, 2773480762, 1359893119, 2600822924, 528734635, 1541459225] : List Int) 0
def ref01_Sum.L1 (k : Nat) (v0 : (List Int)) : Nat → (List Int) → Option ByteArray
  | 0, _ => none
  | n + 1, v2 =>
    if (Int.tmod (v2.length : Int) 64) ≠ 56 then
      chk ((v2.length + ([0] : List Int).length) * 1 ≤ 140737488355328) <|
      ref01_Sum.L1 k v0 n (v2 ++ ([0] : List Int))
    else
      ref01_Sum.L2 k v0 k 7 v2
def ref01_Sum (k : Nat) (v0 : (List Int)) : Option ByteArray :=
  chk (v0.length * 1 ≤ 140737488355328) <|
  chk ((v0.length + ([128] : List Int).length) * 1 ≤ 140737488355328) <|
  ref01_Sum.L1 k v0 k (v0 ++ ([128] : List Int))
def ref25_Numbers.L1 (k : Nat) (v0 : ByteArray) (v1 : (List Int)) (v2 : Int) : Nat → Int → (List Int) → Option ((List Int) × Int)
  | 0, _, _ => none
  | n + 1, v5, v6 =>
    if v5 < v2 then
      chk ((bI v0).length * 1 ≤ 140737488355328) <|
      bnd1 (ref25_list k (bI v0) v1) fun v7 =>
      bnd1 (ref25_number k v7 v5) fun v8 =>
      bnd1 (ref01_Sum k v8) fun v9 =>
      idx (bI v9) 0 fun v10 =>
      idx (bI v9) 1 fun v11 =>
      idx (bI v9) 2 fun v12 =>
      idx (bI v9) 3 fun v13 =>
      chk ((v6.length + ([bitsV .or .i64 (bitsV .or .i64 (bitsV .or .i64 (IntKind.wrap .i64 ((IntKind.wrap .i64 v10) * 2 ^ (24))) (IntKind.wrap .i64 ((IntKind.wrap .i64 v11) * 2 ^ (16)))) (IntKind.wrap .i64 ((IntKind.wrap .i64 v12) * 2 ^ (8)))) (IntKind.wrap .i64 v13)] : List Int).length) * 8 ≤ 140737488355328) <|
      ref25_Numbers.L1 k v0 v1 v2 n (IntKind.wrap .i64 (v5 + 1)) (v6 ++ ([bitsV .or .i64 (bitsV .or .i64 (bitsV .or .i64 (IntKind.wrap .i64 ((IntKind.wrap .i64 v10) * 2 ^ (24))) (IntKind.wrap .i64 ((IntKind.wrap .i64 v11) * 2 ^ (16)))) (IntKind.wrap .i64 ((IntKind.wrap .i64 v12) * 2 ^ (8)))) (IntKind.wrap .i64 v13)] : List Int))
    else
      some (v6, 0)
def ref25_Numbers (k : Nat) (v0 : ByteArray) (v1 : (List Int)) (v2 : Int) : Option ((List Int) × Int) :=
  if (v0.size : Int) ≠ 32 then
    some (([] : List Int), 1)
  else
    if 64 < (v1.length : Int) then
      some (([] : List Int), 3)
    else
      if v2 < 0 then
        some (([] : List Int), 2)
      else
        if 64 < v2 then
          some (([] : List Int), 2)
        else
          ref25_Numbers.L1 k v0 v1 v2 k 0 ([] : List Int)
def ref24_Has.L1 (k : Nat) (v0 : (List Int)) (v1 : Int) : Nat → Int → Option Bool
  | 0, _ => none
  | n + 1, v3 =>
    if v3 < (v0.length : Int) then
      idx v0 v3 fun v4 =>
      if v4 = v1 then
        some true
      else
        ref24_Has.L1 k v0 v1 n (IntKind.wrap .i64 (v3 + 1))
    else
      some false
def ref24_Has (k : Nat) (v0 : (List Int)) (v1 : Int) : Option Bool :=
  ref24_Has.L1 k v0 v1 k 0
def ref24_Minus.J2 (k : Nat) (v3 : Int) (kb1 : Int → (List Int) → Option (List Int)) (v5 : (List Int)) : Option (List Int) :=
  kb1 (IntKind.wrap .i64 (v3 + 1)) v5
def ref24_Minus.L1 (k : Nat) (v0 : (List Int)) (v1 : (List Int)) : Nat → Int → (List Int) → Option (List Int)
  | 0, _, _ => none
  | n + 1, v3, v4 =>
    if v3 < 64 then
      bnd1 (ref24_Has k v0 v3) fun v6 =>
      if v6 = true then
        bnd1 (ref24_Has k v1 v3) fun v7 =>
        if (!v7) = true then
          chk ((v4.length + ([v3] : List Int).length) * 8 ≤ 140737488355328) <|
          ref24_Minus.J2 k v3 (fun v3_ v4_ => ref24_Minus.L1 k v0 v1 n v3_ v4_) (v4 ++ ([v3] : List Int))
        else
          ref24_Minus.J2 k v3 (fun v3_ v4_ => ref24_Minus.L1 k v0 v1 n v3_ v4_) v4
      else
        ref24_Minus.J2 k v3 (fun v3_ v4_ => ref24_Minus.L1 k v0 v1 n v3_ v4_) v4
    else
      some v4
def ref24_Minus (k : Nat) (v0 : (List Int)) (v1 : (List Int)) : Option (List Int) :=
  ref24_Minus.L1 k v0 v1 k 0 ([] : List Int)
def ref26_Draw.L1 (k : Nat) (v1 : (List Int)) (v6 : Int) : Nat → (List Int) → Int → (List Int) → Option ((List Int) × Int)
  | 0, _, _, _ => none
  | n + 1, v7, v8, v9 =>
    if v8 < v6 then
      idx v1 v8 fun v10 =>
      if v10 < 0 then
        some (([] : List Int), 44)
      else
        chk ((v7.length : Int) ≠ (0 : Int)) <|
        idx v7 (Int.tmod v10 (v7.length : Int)) fun v11 =>
        chk ((v9.length + ([v11] : List Int).length) * 8 ≤ 140737488355328) <|
        chk ((0 : Int) ≤ Int.tmod v10 (v7.length : Int) ∧ (Int.tmod v10 (v7.length : Int) : Int) ≤ (v7.length : Int)) <|
        chk ((v7.take (Int.tmod v10 (v7.length : Int)).toNat).length * 8 ≤ 140737488355328) <|
        chk ((0 : Int) ≤ IntKind.wrap .i64 (Int.tmod v10 (v7.length : Int) + 1) ∧ (IntKind.wrap .i64 (Int.tmod v10 (v7.length : Int) + 1) : Int) ≤ (v7.length : Int)) <|
        chk (((v7.take (Int.tmod v10 (v7.length : Int)).toNat).length + (v7.drop (IntKind.wrap .i64 (Int.tmod v10 (v7.length : Int) + 1)).toNat).length) * 8 ≤ 140737488355328) <|
        ref26_Draw.L1 k v1 v6 n ((v7.take (Int.tmod v10 (v7.length : Int)).toNat) ++ (v7.drop (IntKind.wrap .i64 (Int.tmod v10 (v7.length : Int) + 1)).toNat)) (IntKind.wrap .i64 (v8 + 1)) (v9 ++ ([v11] : List Int))
    else
      some (v9, 0)
def ref26_Draw (k : Nat) (v0 : (List Int)) (v1 : (List Int)) (v2 : Int) : Option ((List Int) × Int) :=
  bnd1 (ref24_Valid k v0) fun v5 =>
  if (!v5) = true then
    some (([] : List Int), 43)
  else
    let1 (if (v0.length : Int) < v2 then (v0.length : Int) else v2) fun v6 =>
    if v2 < 1 then
      some (([] : List Int), 44)
    else
      if 9 < v2 then
        some (([] : List Int), 44)
      else
        if (v1.length : Int) < v6 then
          some (([] : List Int), 44)
        else
          chk (v0.length * 8 ≤ 140737488355328) <|
          ref26_Draw.L1 k v1 v6 k v0 0 ([] : List Int)
def ref26_Of.L1 (k : Nat) (v4 : Int) (v7 : ByteArray) (v8 : (List Int)) (v9 : Int) (v10 : Int) (v11 : Int) (v12 : Int) : Nat → Int → (List Int) → Option ((List Int) × Int)
  | 0, _, _ => none
  | n + 1, v18, v19 =>
    if v18 ≤ v12 then
      bnd2 (ref25_Numbers k v7 ([v9, v10, v11, v18] : List Int) 9) fun v20 v21 =>
      if v21 ≠ 0 then
        some (([] : List Int), v21)
      else
        bnd1 (ref24_Minus k v8 v19) fun v22 =>
        if (v22.length : Int) = 0 then
          some (([] : List Int), 44)
        else
          bnd2 (ref26_Draw k v22 v20 v4) fun v23 v24 =>
          if v24 ≠ 0 then
            some (([] : List Int), v24)
          else
            ref26_Of.L1 k v4 v7 v8 v9 v10 v11 v12 n (IntKind.wrap .i64 (v18 + 1)) v23
    else
      some (v19, 0)
def ref26_Of (k : Nat) (v0 : (List Int)) (v1 : (List Int)) (v2 : (List Int)) (v3 : Int) (v4 : Int) (v5 : Int) (v6 : Int) (v7 : ByteArray) (v8 : (List Int)) (v9 : Int) (v10 : Int) (v11 : Int) (v12 : Int) : Option ((List Int) × Int) :=
  bnd1 (ref24_Check k v0 v1 v2 v3 v4 v5 v6) fun v15 =>
  if v15 ≠ 0 then
    some (([] : List Int), v15)
  else
    bnd1 (ref24_Valid k v8) fun v16 =>
    if (!v16) = true then
      some (([] : List Int), 43)
    else
      bnd1 (ref23_Valid k v9 v10 v11 v12) fun v17 =>
      if (!v17) = true then
        some (([] : List Int), 41)
      else
        ref26_Of.L1 k v4 v7 v8 v9 v10 v11 v12 k 0 ([] : List Int)
def law26_CommitteeOf.J1 (k : Nat) (v22 : Int) (v23 : Int) (v26 : (List Int)) (v27 : (List Int)) (v28 : (List Int)) (v29 : Int) (v30 : Int) (v31 : Int) (v32 : Int) (v33 : ByteArray) (v34 : (List Int)) (v35 : Int) (v36 : Int) : Option Bool :=
  bnd2 (committee_Of k v26 v27 v28 v29 v30 v31 v32 v33 v34 v35 v22 v23 v36) fun v37 v38 =>
  bnd2 (ref26_Of k v26 v27 v28 v29 v30 v31 v32 v33 v34 v35 v22 v23 v36) fun v39 v40 =>
  if v38 = v40 then
    bnd1 (ref23_SameInts k v37 v39) fun v41 =>
    if v41 = true then
      bnd1 (law26_awake k) fun v42 =>
      some v42
    else
      some false
  else
    some false
def law26_CommitteeOf (k : Nat) (v0 : (List Int)) (v1 : ByteArray) (v2 : Int) : Option Bool :=
  bnd1 (mill_Light k v0) fun v4 =>
  if (!v4) = true then
    bnd1 (law26_awake k) fun v5 =>
    some v5
  else
    if 200 < (v1.size : Int) then
      bnd1 (law26_awake k) fun v6 =>
      some v6
    else
      bnd2 (mill_Roll k v0) fun v7 v8 =>
      bnd8 (mill_Rules k v7 v8) fun v9 v10 v11 v12 v13 v14 v15 v16 =>
      chk ((0 : Int) ≤ 32 ∧ 16 * 32 ≤ 281474976710656) <|
      chk (v1.size + (ofI (List.replicate (32 : Int).toNat 0)).size ≤ 140737488355328) <|
      chk ((32 : Int) ≤ ((v1 ++ (ofI (List.replicate (32 : Int).toNat 0))).size : Int)) <|
      bnd2 (mill_Keys_o k v7 v16 7) fun v17 v18 =>
      bnd2 (made_Dice_Next k v7 v18 3) fun v19 v20 =>
      bnd5 (mill_Case k v7 v20 v19) fun v21 v22 v23 v24 v25 =>
      if (Int.tmod v2 9) = 0 then
        bnd8 (mill_Odd k v7 v25 v9 v10 v11 v12 v13 v14 v15) fun v43 v44 v45 v46 v47 v48 v49 v50 =>
        law26_CommitteeOf.J1 k v22 v23 v43 v44 v45 v46 v47 v48 v49 ((v1 ++ (ofI (List.replicate (32 : Int).toNat 0))).extract 0 (32 : Int).toNat) v17 v21 v24
      else
        if (Int.tmod v2 9) = 1 then
          law26_CommitteeOf.J1 k v22 v23 v9 v10 v11 v12 v13 v14 v15 v1 v17 v21 v24
        else
          if (Int.tmod v2 9) = 2 then
            chk ((v17.length + ([0] : List Int).length) * 8 ≤ 140737488355328) <|
            law26_CommitteeOf.J1 k v22 v23 v9 v10 v11 v12 v13 v14 v15 ((v1 ++ (ofI (List.replicate (32 : Int).toNat 0))).extract 0 (32 : Int).toNat) (v17 ++ ([0] : List Int)) v21 v24
          else
            if (Int.tmod v2 9) = 3 then
              law26_CommitteeOf.J1 k v22 v23 v9 v10 v11 v12 v13 v14 v15 ((v1 ++ (ofI (List.replicate (32 : Int).toNat 0))).extract 0 (32 : Int).toNat) v17 v21 2
            else
              if (Int.tmod v2 9) = 4 then
                law26_CommitteeOf.J1 k v22 v23 v9 v10 v11 v12 v13 v14 v15 ((v1 ++ (ofI (List.replicate (32 : Int).toNat 0))).extract 0 (32 : Int).toNat) v17 40 v24
              else
                if (Int.tmod v2 9) = 5 then
                  law26_CommitteeOf.J1 k v22 v23 v9 v10 v11 v12 v13 v14 v15 ((v1 ++ (ofI (List.replicate (32 : Int).toNat 0))).extract 0 (32 : Int).toNat) ([] : List Int) v21 v24
                else
                  law26_CommitteeOf.J1 k v22 v23 v9 v10 v11 v12 v13 v14 v15 ((v1 ++ (ofI (List.replicate (32 : Int).toNat 0))).extract 0 (32 : Int).toNat) v17 v21 v24
end Go.TF
