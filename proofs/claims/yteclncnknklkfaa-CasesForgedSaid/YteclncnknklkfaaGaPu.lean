/- The Go functions as Lean functions (printed by a program of our own). -/
import Derived.Test.YteclncnknklkfaaAbsX
set_option linter.unusedVariables false
set_option maxRecDepth 100000
namespace Go.TF
open Go Go.Abs
abbrev Iz (n : Int) : AV := .int .i64 n
abbrev Lz (l : List Int) : AV := .lst false false (l.map (.int .i64))
abbrev Lb (l : List Int) : AV := .lst false false (l.map (.int .u8))
abbrev Lw (l : List Int) : AV := .lst false false (l.map (.int .u32))
structure api_Pin where
  Author : Int
  Height : Int
  Digest : ByteArray
@[simp] def api_Pin.av (x : api_Pin) : AV := AV.agg [AV.int .i64 x.Author, AV.int .i64 x.Height, AV.str x.Digest]
@[simp] theorem api_Pin.okEls (l : List api_Pin) : okEls 3 (l.map api_Pin.av) ↔ True := iff_true_intro (okEls_iff.2 fun x hx => by
  simp only [List.mem_map] at hx
  obtain ⟨b, _, rfl⟩ := hx
  simp)
@[simp] theorem api_Pin.gdF (S : Nat → Prop) (l : List api_Pin) : gdL S (flatA (l.map api_Pin.av)) ↔ True := iff_true_intro (gdL_flat (by simp) l)
@[simp] theorem api_Pin.frF (l : List api_Pin) : freshL (flatA (l.map api_Pin.av)) = true := freshL_flat (by simp) l
@[simp] theorem api_Pin.renF (σ : Nat → Nat) (l : List api_Pin) : renL σ (flatA (l.map api_Pin.av)) = flatA (l.map api_Pin.av) := renL_flat (by simp) l
@[simp] theorem api_Pin.lenF (l : List api_Pin) : (flatA (l.map api_Pin.av)).length = l.length * 3 := flat_len (F := api_Pin.av) (fun _ => rfl) l
@[simp↓] theorem api_Pin.oneF (l : List api_Pin) : (flatA (l.map api_Pin.av)).all AV.one = true := one_flat (by simp) l
@[simp] theorem api_Pin.ids (S : Nat → Prop) (l : List api_Pin) : idsInL S (l.map api_Pin.av) ↔ True := iff_true_intro (ids_map_of (by simp) l)
structure api_Statement where
  Author : Int
  Number : Int
  Prev : ByteArray
  Time : Int
  Kind : Int
  A : Int
  B : Int
  C : Int
  Lst : (List Int)
  Pins : (List api_Pin)
  Body : ByteArray
  Seal_Key : Int
  Seal_Digest : ByteArray
@[simp] def api_Statement.av (x : api_Statement) : AV := AV.agg [AV.int .i64 x.Author, AV.int .i64 x.Number, AV.str x.Prev, AV.int .i64 x.Time, AV.int .i64 x.Kind, AV.int .i64 x.A, AV.int .i64 x.B, AV.int .i64 x.C, sl (AV.int .i64) x.Lst, sl api_Pin.av x.Pins, AV.str x.Body, AV.int .i64 x.Seal_Key, AV.str x.Seal_Digest]
@[simp] theorem api_Statement.okEls (l : List api_Statement) : okEls 13 (l.map api_Statement.av) ↔ True := iff_true_intro (okEls_iff.2 fun x hx => by
  simp only [List.mem_map] at hx
  obtain ⟨b, _, rfl⟩ := hx
  simp)
@[simp] theorem api_Statement.gdF (S : Nat → Prop) (l : List api_Statement) : gdL S (flatA (l.map api_Statement.av)) ↔ True := iff_true_intro (gdL_flat (by simp) l)
@[simp] theorem api_Statement.renF (σ : Nat → Nat) (l : List api_Statement) : renL σ (flatA (l.map api_Statement.av)) = flatA (l.map api_Statement.av) := renL_flat (by simp) l
@[simp] theorem api_Statement.lenF (l : List api_Statement) : (flatA (l.map api_Statement.av)).length = l.length * 13 := flat_len (F := api_Statement.av) (fun _ => rfl) l
@[simp↓] theorem api_Statement.oneF (l : List api_Statement) : (flatA (l.map api_Statement.av)).all AV.one = true := one_flat (by simp) l
@[simp] theorem api_Statement.ids (S : Nat → Prop) (l : List api_Statement) : idsInL S (l.map api_Statement.av) ↔ True := iff_true_intro (ids_map_of (by simp) l)
def mill_Light (k : Nat) (v0 : (List Int)) : Option Bool :=
  some (decide ((v0.length : Int) ≤ 400))
def cases_Valid.J1 (k : Nat) (v5 : Bool) : Option Bool :=
  if v5 = true then
    some true
  else
    some false
def cases_Valid (k : Nat) (v0 : Int) (v1 : Int) (v2 : Int) (v3 : Int) : Option Bool :=
  if v0 < 0 then
    some false
  else
    if 40 ≤ v0 then
      some false
    else
      if v2 < 0 then
        some false
      else
        if 64 ≤ v2 then
          some false
        else
          if v3 < 0 then
            some false
          else
            if 1 < v3 then
              some false
            else
              if v1 = 1 then
                if v2 = 0 then
                  some (v3 == 0)
                else
                  some false
              else
                if v1 = 2 then
                  cases_Valid.J1 k true
                else
                  cases_Valid.J1 k (v1 == 3)
def lists_In (k : Nat) (v0 : Int) (v1 : Int) (v2 : Int) : Option Bool :=
  if v1 ≤ v0 then
    some (decide (v0 ≤ v2))
  else
    some false
def statement_value (k : Nat) (v0 : Int) : Option Bool :=
  bnd1 (lists_In k v0 0 1099511627776) fun v2 =>
  some v2
def statement_meant (k : Nat) (v0 : Int) (v1 : Int) (v2 : ByteArray) (v3 : Int) (v4 : Int) (v5 : Int) (v6 : Int) (v7 : Int) (v8 : (List Int)) (v9 : (List api_Pin)) (v10 : ByteArray) (v11 : Int) (v12 : ByteArray) : Option Bool :=
  if v4 = 1 then
    bnd1 (lists_In k v5 0 63) fun v14 =>
    if v14 = true then
      if v5 ≠ v0 then
        bnd1 (lists_In k v6 1 3) fun v15 =>
        if v15 = true then
          bnd1 (lists_In k v7 v3 2147483648) fun v16 =>
          some v16
        else
          some false
      else
        some false
    else
      some false
  else
    if v4 = 2 then
      bnd1 (lists_In k v5 0 199) fun v17 =>
      if v17 = true then
        if v6 = 0 then
          some (v7 == 0)
        else
          some false
      else
        some false
    else
      if v4 = 3 then
        if v5 = 0 then
          if v6 = 0 then
            some (v7 == 0)
          else
            some false
        else
          some false
      else
        some true
def statement_Check_1 (k : Nat) (v0 : Int) : Option Bool :=
  bnd1 (statement_value k v0) fun v2 =>
  some (!v2)
def slices_IndexFunc_int_int_Check_1.L1 (k : Nat) (v0 : (List Int)) : Nat → Int → Option Int
  | 0, _ => none
  | n + 1, v2 =>
    if v2 < (v0.length : Int) then
      idx v0 v2 fun v3 =>
      bnd1 (statement_Check_1 k v3) fun v4 =>
      if v4 = true then
        some v2
      else
        slices_IndexFunc_int_int_Check_1.L1 k v0 n (IntKind.wrap .i64 (v2 + 1))
    else
      some (-1)
def slices_IndexFunc_int_int_Check_1 (k : Nat) (v0 : (List Int)) : Option Int :=
  slices_IndexFunc_int_int_Check_1.L1 k v0 k 0
def slices_ContainsFunc_int_int_Check_1 (k : Nat) (v0 : (List Int)) : Option Bool :=
  bnd1 (slices_IndexFunc_int_int_Check_1 k v0) fun v2 =>
  some (decide (0 ≤ v2))
def statement_pinned.J2 (k : Nat) (v2 : Int) (kb1 : Int → Option Bool) (v4 : Bool) : Option Bool :=
  if v4 = true then
    some false
  else
    kb1 (IntKind.wrap .i64 (v2 + 1))
def statement_pinned.L1 (k : Nat) (v0 : (List api_Pin)) : Nat → Int → Option Bool
  | 0, _ => none
  | n + 1, v2 =>
    if v2 < (v0.length : Int) then
      idx v0 v2 fun v3 =>
      bnd1 (lists_In k v3.Author 0 63) fun v5 =>
      if (!v5) = true then
        statement_pinned.J2 k v2 (fun v2_ => statement_pinned.L1 k v0 n v2_) true
      else
        if 0 < v2 then
          idx v0 (IntKind.wrap .i64 (v2 - 1)) fun v6 =>
          if v3.Author ≤ v6.Author then
            statement_pinned.J2 k v2 (fun v2_ => statement_pinned.L1 k v0 n v2_) true
          else
            bnd1 (lists_In k v3.Height 1 200) fun v7 =>
            if (!v7) = true then
              statement_pinned.J2 k v2 (fun v2_ => statement_pinned.L1 k v0 n v2_) true
            else
              statement_pinned.J2 k v2 (fun v2_ => statement_pinned.L1 k v0 n v2_) ((v3.Digest.size : Int) != 32)
        else
          bnd1 (lists_In k v3.Height 1 200) fun v8 =>
          if (!v8) = true then
            statement_pinned.J2 k v2 (fun v2_ => statement_pinned.L1 k v0 n v2_) true
          else
            statement_pinned.J2 k v2 (fun v2_ => statement_pinned.L1 k v0 n v2_) ((v3.Digest.size : Int) != 32)
    else
      some true
def statement_pinned (k : Nat) (v0 : (List api_Pin)) : Option Bool :=
  statement_pinned.L1 k v0 k 0
def statement_Check.J1 (k : Nat) : Option Int :=
  some 0
def statement_Check.J2 (k : Nat) (v24 : Bool) : Option Int :=
  if v24 = true then
    some 1
  else
    statement_Check.J1 k
def statement_Check.J3 (k : Nat) (v35 : Bool) : Option Int :=
  if v35 = true then
    some 1
  else
    statement_Check.J1 k
def statement_Check (k : Nat) (v0 : Int) (v1 : Int) (v2 : ByteArray) (v3 : Int) (v4 : Int) (v5 : Int) (v6 : Int) (v7 : Int) (v8 : (List Int)) (v9 : (List api_Pin)) (v10 : ByteArray) (v11 : Int) (v12 : ByteArray) : Option Int :=
  bnd1 (lists_In k v0 0 63) fun v14 =>
  if (!v14) = true then
    some 4
  else
    bnd1 (lists_In k v4 1 3) fun v15 =>
    if (!v15) = true then
      bnd1 (lists_In k v4 10 31) fun v16 =>
      if (!v16) = true then
        some 5
      else
        bnd1 (lists_In k v3 0 2147483648) fun v17 =>
        if (!v17) = true then
          some 9
        else
          bnd1 (lists_In k v1 0 199) fun v18 =>
          if (!v18) = true then
            some 2
          else
            bnd1 (statement_value k v5) fun v19 =>
            if (!v19) = true then
              some 2
            else
              bnd1 (statement_value k v6) fun v20 =>
              if (!v20) = true then
                some 2
              else
                bnd1 (statement_value k v7) fun v21 =>
                if (!v21) = true then
                  some 2
                else
                  bnd1 (statement_meant k v0 v1 v2 v3 v4 v5 v6 v7 v8 v9 v10 v11 v12) fun v22 =>
                  if (!v22) = true then
                    some 2
                  else
                    bnd1 (slices_ContainsFunc_int_int_Check_1 k v8) fun v23 =>
                    if v23 = true then
                      some 2
                    else
                      if 64 < (v8.length : Int) then
                        some 3
                      else
                        if 64 < (v9.length : Int) then
                          some 3
                        else
                          if 4096 < (v10.size : Int) then
                            some 3
                          else
                            if v1 = 0 then
                              if (!strEq v2 (ByteArray.mk #[])) = true then
                                statement_Check.J2 k true
                              else
                                if 0 < v1 then
                                  none
                                else
                                  bnd1 (statement_pinned k v9) fun v25 =>
                                  if (!v25) = true then
                                    statement_Check.J2 k true
                                  else
                                    if v4 ≤ 3 then
                                      statement_Check.J2 k (decide (0 < IntKind.wrap .i64 (IntKind.wrap .i64 ((v8.length : Int) + (v9.length : Int)) + (v10.size : Int))))
                                    else
                                      statement_Check.J2 k false
                            else
                              if 0 < v1 then
                                if (v2.size : Int) ≠ 32 then
                                  statement_Check.J2 k true
                                else
                                  bnd1 (statement_pinned k v9) fun v26 =>
                                  if (!v26) = true then
                                    statement_Check.J2 k true
                                  else
                                    if v4 ≤ 3 then
                                      statement_Check.J2 k (decide (0 < IntKind.wrap .i64 (IntKind.wrap .i64 ((v8.length : Int) + (v9.length : Int)) + (v10.size : Int))))
                                    else
                                      statement_Check.J2 k false
                              else
                                bnd1 (statement_pinned k v9) fun v27 =>
                                if (!v27) = true then
                                  statement_Check.J2 k true
                                else
                                  if v4 ≤ 3 then
                                    statement_Check.J2 k (decide (0 < IntKind.wrap .i64 (IntKind.wrap .i64 ((v8.length : Int) + (v9.length : Int)) + (v10.size : Int))))
                                  else
                                    statement_Check.J2 k false
    else
      bnd1 (lists_In k v3 0 2147483648) fun v28 =>
      if (!v28) = true then
        some 9
      else
        bnd1 (lists_In k v1 0 199) fun v29 =>
        if (!v29) = true then
          some 2
        else
          bnd1 (statement_value k v5) fun v30 =>
          if (!v30) = true then
            some 2
          else
            bnd1 (statement_value k v6) fun v31 =>
            if (!v31) = true then
              some 2
            else
              bnd1 (statement_value k v7) fun v32 =>
              if (!v32) = true then
                some 2
              else
                bnd1 (statement_meant k v0 v1 v2 v3 v4 v5 v6 v7 v8 v9 v10 v11 v12) fun v33 =>
                if (!v33) = true then
                  some 2
                else
                  bnd1 (slices_ContainsFunc_int_int_Check_1 k v8) fun v34 =>
                  if v34 = true then
                    some 2
                  else
                    if 64 < (v8.length : Int) then
                      some 3
                    else
                      if 64 < (v9.length : Int) then
                        some 3
                      else
                        if 4096 < (v10.size : Int) then
                          some 3
                        else
                          if v1 = 0 then
                            if (!strEq v2 (ByteArray.mk #[])) = true then
                              statement_Check.J3 k true
                            else
                              if 0 < v1 then
                                none
                              else
                                bnd1 (statement_pinned k v9) fun v36 =>
                                if (!v36) = true then
                                  statement_Check.J3 k true
                                else
                                  if v4 ≤ 3 then
                                    statement_Check.J3 k (decide (0 < IntKind.wrap .i64 (IntKind.wrap .i64 ((v8.length : Int) + (v9.length : Int)) + (v10.size : Int))))
                                  else
                                    statement_Check.J3 k false
                          else
                            if 0 < v1 then
                              if (v2.size : Int) ≠ 32 then
                                statement_Check.J3 k true
                              else
                                bnd1 (statement_pinned k v9) fun v37 =>
                                if (!v37) = true then
                                  statement_Check.J3 k true
                                else
                                  if v4 ≤ 3 then
                                    statement_Check.J3 k (decide (0 < IntKind.wrap .i64 (IntKind.wrap .i64 ((v8.length : Int) + (v9.length : Int)) + (v10.size : Int))))
                                  else
                                    statement_Check.J3 k false
                            else
                              bnd1 (statement_pinned k v9) fun v38 =>
                              if (!v38) = true then
                                statement_Check.J3 k true
                              else
                                if v4 ≤ 3 then
                                  statement_Check.J3 k (decide (0 < IntKind.wrap .i64 (IntKind.wrap .i64 ((v8.length : Int) + (v9.length : Int)) + (v10.size : Int))))
                                else
                                  statement_Check.J3 k false
def cases_pins (k : Nat) (v0 : (List api_Pin)) : Option Bool :=
  bnd1 (statement_Check k 0 0 (ByteArray.mk #[]) 0 10 0 0 0 ([] : List Int) v0 (ByteArray.mk #[]) 0 (ByteArray.mk #[])) fun v2 =>
  some (v2 == 0)
def cases_Right.L2 (k : Nat) (v4 : (List Int)) (v9 : Int) (v10 : Int) : Nat → Int → Option Bool
  | 0, _ => none
  | n + 1, v11 =>
    if v11 < (v4.length : Int) then
      idx v4 v11 fun v12 =>
      if v12 < 0 then
        some false
      else
        if v10 < v12 then
          some false
        else
          cases_Right.L2 k v4 v9 v10 n (IntKind.wrap .i64 (v11 + 1))
    else
      some ((v4.length : Int) == v9)
def cases_Right.J1 (k : Nat) (v4 : (List Int)) (v9 : Int) (v10 : Int) : Option Bool :=
  cases_Right.L2 k v4 v9 v10 k 0
def cases_Right (k : Nat) (v0 : Int) (v1 : Int) (v2 : Int) (v3 : Int) (v4 : (List Int)) (v5 : (List api_Pin)) : Option Bool :=
  bnd1 (cases_Valid k v0 v1 v2 v3) fun v7 =>
  if (!v7) = true then
    some false
  else
    bnd1 (cases_pins k v5) fun v8 =>
    if (!v8) = true then
      some false
    else
      if v1 = 1 then
        cases_Right.J1 k v4 2 4294967295
      else
        cases_Right.J1 k v4 1 1
def cases_Copy (k : Nat) (v0 : (List Int)) (v1 : (List api_Pin)) : Option ((List Int) × (List api_Pin)) :=
  chk (v0.length * 8 ≤ 140737488355328) <|
  chk (v1.length * 32 ≤ 140737488355328) <|
  some (v0, v1)
def cases_Code (k : Nat) (v0 : Int) (v1 : Int) (v2 : Int) (v3 : Int) : Option Int :=
  bnd1 (cases_Valid k v0 v1 v2 v3) fun v5 =>
  if (!v5) = true then
    some 0
  else
    some (IntKind.wrap .i64 (v1 + IntKind.wrap .i64 (16 * v3)))
def cases_Draft (k : Nat) (v0 : Int) (v1 : Int) (v2 : Int) (v3 : Int) (v4 : (List Int)) (v5 : (List api_Pin)) : Option (Int × Int × Int × Int × (List Int) × (List api_Pin) × Int) :=
  bnd1 (cases_Valid k v0 v1 v2 v3) fun v13 =>
  if (!v13) = true then
    some (0, 0, 0, 0, ([] : List Int), ([] : List api_Pin), 41)
  else
    bnd1 (cases_Right k v0 v1 v2 v3 v4 v5) fun v14 =>
    if (!v14) = true then
      some (0, 0, 0, 0, ([] : List Int), ([] : List api_Pin), 42)
    else
      bnd2 (cases_Copy k v4 v5) fun v15 v16 =>
      bnd1 (cases_Code k v0 v1 v2 v3) fun v17 =>
      some (10, v0, v17, v2, v15, v16, 0)
def ref03_Copy (k : Nat) (v0 : Int) (v1 : Int) (v2 : ByteArray) (v3 : Int) (v4 : Int) (v5 : Int) (v6 : Int) (v7 : Int) (v8 : (List Int)) (v9 : (List api_Pin)) (v10 : ByteArray) (v11 : Int) (v12 : ByteArray) : Option api_Statement :=
  chk (v8.length * 8 ≤ 140737488355328) <|
  chk (v9.length * 32 ≤ 140737488355328) <|
  some (api_Statement.mk v0 v1 v2 v3 v4 v5 v6 v7 v8 v9 v10 v11 v12)
def ref02_Int.L1 (k : Nat) (v1 : Int) : Nat → Int → (List Int) → Option (List Int)
  | 0, _, _ => none
  | n + 1, v3, v4 =>
    if 0 ≤ v3 then
      chk ((0 : Int) ≤ IntKind.wrap .u64 (IntKind.wrap .i64 (8 * v3))) <|
      chk ((v4.length + ([IntKind.wrap .u8 (Int.fdiv v1 (2 ^ (min ((IntKind.wrap .u64 (IntKind.wrap .i64 (8 * v3))).toNat) 64)))] : List Int).length) * 1 ≤ 140737488355328) <|
      ref02_Int.L1 k v1 n (IntKind.wrap .i64 (v3 - 1)) (v4 ++ ([IntKind.wrap .u8 (Int.fdiv v1 (2 ^ (min ((IntKind.wrap .u64 (IntKind.wrap .i64 (8 * v3))).toNat) 64)))] : List Int))
    else
      some v4
def ref02_Int (k : Nat) (v0 : (List Int)) (v1 : Int) : Option (List Int) :=
  chk (v0.length * 1 ≤ 140737488355328) <|
  ref02_Int.L1 k v1 k 7 v0
def ref02_Text (k : Nat) (v0 : (List Int)) (v1 : ByteArray) : Option (List Int) :=
  bnd1 (ref02_Int k v0 (v1.size : Int)) fun v3 =>
  chk ((v3.length + (bI v1).length) * 1 ≤ 140737488355328) <|
  some (v3 ++ (bI v1))
def ref02_Ints.L1 (k : Nat) (v1 : (List Int)) : Nat → Int → (List Int) → Option (List Int)
  | 0, _, _ => none
  | n + 1, v4, v5 =>
    if v4 < (v1.length : Int) then
      idx v1 v4 fun v6 =>
      bnd1 (ref02_Int k v5 v6) fun v7 =>
      ref02_Ints.L1 k v1 n (IntKind.wrap .i64 (v4 + 1)) v7
    else
      some v5
def ref02_Ints (k : Nat) (v0 : (List Int)) (v1 : (List Int)) : Option (List Int) :=
  bnd1 (ref02_Int k v0 (v1.length : Int)) fun v3 =>
  ref02_Ints.L1 k v1 k 0 v3
def ref03_Bytes.L2 (k : Nat) (v9 : (List api_Pin)) (v10 : ByteArray) : Nat → (List Int) → Int → Option (List Int)
  | 0, _, _ => none
  | n + 1, v23, v24 =>
    if v24 < (v9.length : Int) then
      idx v9 v24 fun v25 =>
      bnd1 (ref02_Int k v23 v25.Author) fun v26 =>
      bnd1 (ref02_Int k v26 v25.Height) fun v27 =>
      bnd1 (ref02_Text k v27 v25.Digest) fun v28 =>
      ref03_Bytes.L2 k v9 v10 n v28 (IntKind.wrap .i64 (v24 + 1))
    else
      bnd1 (ref02_Text k v23 v10) fun v29 =>
      some v29
def ref03_Bytes.L1 (k : Nat) (v3 : Int) (v4 : Int) (v5 : Int) (v6 : Int) (v7 : Int) (v8 : (List Int)) (v9 : (List api_Pin)) (v10 : ByteArray) : Nat → (List Int) → Int → Option (List Int)
  | 0, _, _ => none
  | n + 1, v17, v18 =>
    if v18 < (([v3, v4, v5, v6, v7] : List Int).length : Int) then
      idx ([v3, v4, v5, v6, v7] : List Int) v18 fun v19 =>
      bnd1 (ref02_Int k v17 v19) fun v20 =>
      ref03_Bytes.L1 k v3 v4 v5 v6 v7 v8 v9 v10 n v20 (IntKind.wrap .i64 (v18 + 1))
    else
      bnd1 (ref02_Ints k v17 v8) fun v21 =>
      bnd1 (ref02_Int k v21 (v9.length : Int)) fun v22 =>
      ref03_Bytes.L2 k v9 v10 k v22 0
def ref03_Bytes (k : Nat) (v0 : Int) (v1 : Int) (v2 : ByteArray) (v3 : Int) (v4 : Int) (v5 : Int) (v6 : Int) (v7 : Int) (v8 : (List Int)) (v9 : (List api_Pin)) (v10 : ByteArray) (v11 : Int) (v12 : ByteArray) : Option (List Int) :=
  bnd1 (ref02_Int k ([] : List Int) v0) fun v14 =>
  bnd1 (ref02_Int k v14 v1) fun v15 =>
  bnd1 (ref02_Text k v15 v2) fun v16 =>
  ref03_Bytes.L1 k v3 v4 v5 v6 v7 v8 v9 v10 k v16 0
def ref01_constants (k : Nat) : Option (List Int) :=
  some ([1116352408, 1899447441, 3049323471, 3921009573, 961987163, 1508970993, 2453635748, 2870763221, 3624381080, 310598401, 607225278, 1426881987, 1925078388, 2162078206, 2614888103, 3248222580, 3835390401, 4022224774, 264347078, 604807628, 770255983, 1249150122, 1555081692, 1996064986, 2554220882, 2821834349, 2952996808, 3210313671, 3336571891, 3584528711, 113926993, 338241895, 666307205, 773529912, 1294757372, 1396182291, 1695183700, 1986661051, 2177026350, 2456956037, 2730485921, 2820302411, 3259730800, 3345764771, 3516065817, 3600352804, 4094571909, 275423344, 430227734, 506948616, 659060556, 883997877, 958139571, 1322822218, 1537002063, 1747873779, 1955562222, 2024104815, 2227730452, 2361852424, 2428436474, 2756734187, 3204031479, 3329325298] : List Int)
def ref01_turn (k : Nat) (v0 : Int) (v1 : Int) : Option Int :=
  chk ((0 : Int) ≤ v1) <|
  chk ((0 : Int) ≤ IntKind.wrap .u64 (32 - v1)) <|
  some (bitsV .or .u32 (Int.fdiv v0 (2 ^ (min v1.toNat 32))) (IntKind.wrap .u32 (v0 * 2 ^ (min ((IntKind.wrap .u64 (32 - v1)).toNat) 32))))
def ref01_block.L4 (k : Nat) (v0 : (List Int)) : Nat → Int → (List Int) → Option (List Int)
  | 0, _, _ => none
  | n + 1, v39, v40 =>
    if v39 < 8 then
      chk ((0 : Int) ≤ v39 ∧ (v39).toNat < v40.length) <|
      idx v40 v39 fun v41 =>
      idx v0 v39 fun v42 =>
      chk ((0 : Int) ≤ v39 ∧ (v39).toNat < v40.length) <|
      ref01_block.L4 k v0 n (IntKind.wrap .i64 (v39 + 1)) (v40.set (v39).toNat (IntKind.wrap .u32 (v41 + v42)))
    else
      some v40
def ref01_block.L3 (k : Nat) (v0 : (List Int)) (v2 : (List Int)) (v12 : (List Int)) : Nat → Int → (List Int) → Option (List Int)
  | 0, _, _ => none
  | n + 1, v21, v22 =>
    if v21 < 64 then
      idx v22 4 fun v23 =>
      bnd1 (ref01_turn k v23 6) fun v24 =>
      bnd1 (ref01_turn k v23 11) fun v25 =>
      bnd1 (ref01_turn k v23 25) fun v26 =>
      idx v22 5 fun v27 =>
      idx v22 6 fun v28 =>
      idx v22 7 fun v29 =>
      idx v2 v21 fun v30 =>
      idx v12 v21 fun v31 =>
      idx v22 0 fun v32 =>
      bnd1 (ref01_turn k v32 2) fun v33 =>
      bnd1 (ref01_turn k v32 13) fun v34 =>
      bnd1 (ref01_turn k v32 22) fun v35 =>
      idx v22 1 fun v36 =>
      idx v22 2 fun v37 =>
      idx v22 3 fun v38 =>
      ref01_block.L3 k v0 v2 v12 n (IntKind.wrap .i64 (v21 + 1)) ([IntKind.wrap .u32 (IntKind.wrap .u32 (IntKind.wrap .u32 (IntKind.wrap .u32 (IntKind.wrap .u32 (IntKind.wrap .u32 (v29 + bitsV .xor .u32 (bitsV .xor .u32 v24 v25) v26) + bitsV .xor .u32 (bitsV .and .u32 v23 v27) (bitsV .and .u32 (bitsV .xor .u32 (IntKind.max .u32) v23) v28)) + v30) + v31) + bitsV .xor .u32 (bitsV .xor .u32 v33 v34) v35) + bitsV .xor .u32 (bitsV .xor .u32 (bitsV .and .u32 v32 v36) (bitsV .and .u32 v32 v37)) (bitsV .and .u32 v36 v37)), v32, v36, v37, IntKind.wrap .u32 (v38 + IntKind.wrap .u32 (IntKind.wrap .u32 (IntKind.wrap .u32 (IntKind.wrap .u32 (v29 + bitsV .xor .u32 (bitsV .xor .u32 v24 v25) v26) + bitsV .xor .u32 (bitsV .and .u32 v23 v27) (bitsV .and .u32 (bitsV .xor .u32 (IntKind.max .u32) v23) v28)) + v30) + v31)), v23, v27, v28] : List Int)
    else
      ref01_block.L4 k v0 k 0 v22
def ref01_block.L2 (k : Nat) (v0 : (List Int)) (v2 : (List Int)) : Nat → Int → (List Int) → Option (List Int)
  | 0, _, _ => none
  | n + 1, v11, v12 =>
    if v11 < 64 then
      chk ((0 : Int) ≤ (IntKind.wrap .i64 (v11 - 15)) ∧ (IntKind.wrap .i64 (v11 - 15)).toNat < v12.length) <|
      idx v12 (IntKind.wrap .i64 (v11 - 15)) fun v13 =>
      bnd1 (ref01_turn k v13 7) fun v14 =>
      chk ((0 : Int) ≤ (IntKind.wrap .i64 (v11 - 15)) ∧ (IntKind.wrap .i64 (v11 - 15)).toNat < v12.length) <|
      bnd1 (ref01_turn k v13 18) fun v15 =>
      chk ((0 : Int) ≤ (IntKind.wrap .i64 (v11 - 15)) ∧ (IntKind.wrap .i64 (v11 - 15)).toNat < v12.length) <|
      chk ((0 : Int) ≤ (IntKind.wrap .i64 (v11 - 2)) ∧ (IntKind.wrap .i64 (v11 - 2)).toNat < v12.length) <|
      idx v12 (IntKind.wrap .i64 (v11 - 2)) fun v16 =>
      bnd1 (ref01_turn k v16 17) fun v17 =>
      chk ((0 : Int) ≤ (IntKind.wrap .i64 (v11 - 2)) ∧ (IntKind.wrap .i64 (v11 - 2)).toNat < v12.length) <|
      bnd1 (ref01_turn k v16 19) fun v18 =>
      chk ((0 : Int) ≤ (IntKind.wrap .i64 (v11 - 2)) ∧ (IntKind.wrap .i64 (v11 - 2)).toNat < v12.length) <|
      chk ((0 : Int) ≤ (IntKind.wrap .i64 (v11 - 16)) ∧ (IntKind.wrap .i64 (v11 - 16)).toNat < v12.length) <|
      idx v12 (IntKind.wrap .i64 (v11 - 16)) fun v19 =>
      chk ((0 : Int) ≤ (IntKind.wrap .i64 (v11 - 7)) ∧ (IntKind.wrap .i64 (v11 - 7)).toNat < v12.length) <|
      idx v12 (IntKind.wrap .i64 (v11 - 7)) fun v20 =>
      chk ((0 : Int) ≤ v11 ∧ (v11).toNat < v12.length) <|
      ref01_block.L2 k v0 v2 n (IntKind.wrap .i64 (v11 + 1)) (v12.set (v11).toNat (IntKind.wrap .u32 (IntKind.wrap .u32 (IntKind.wrap .u32 (v19 + bitsV .xor .u32 (bitsV .xor .u32 v14 v15) (Int.fdiv v13 (2 ^ (3)))) + v20) + bitsV .xor .u32 (bitsV .xor .u32 v17 v18) (Int.fdiv v16 (2 ^ (10))))))
    else
      chk (v0.length * 4 ≤ 140737488355328) <|
      ref01_block.L3 k v0 v2 v12 k 0 v0
def ref01_block.L1 (k : Nat) (v0 : (List Int)) (v1 : (List Int)) (v2 : (List Int)) : Nat → Int → (List Int) → Option (List Int)
  | 0, _, _ => none
  | n + 1, v5, v6 =>
    if v5 < 16 then
      idx v1 (IntKind.wrap .i64 (4 * v5)) fun v7 =>
      idx v1 (IntKind.wrap .i64 (IntKind.wrap .i64 (4 * v5) + 1)) fun v8 =>
      idx v1 (IntKind.wrap .i64 (IntKind.wrap .i64 (4 * v5) + 2)) fun v9 =>
      idx v1 (IntKind.wrap .i64 (IntKind.wrap .i64 (4 * v5) + 3)) fun v10 =>
      chk ((0 : Int) ≤ v5 ∧ (v5).toNat < v6.length) <|
      ref01_block.L1 k v0 v1 v2 n (IntKind.wrap .i64 (v5 + 1)) (v6.set (v5).toNat (bitsV .or .u32 (bitsV .or .u32 (bitsV .or .u32 (IntKind.wrap .u32 ((IntKind.wrap .u32 v7) * 2 ^ (24))) (IntKind.wrap .u32 ((IntKind.wrap .u32 v8) * 2 ^ (16)))) (IntKind.wrap .u32 ((IntKind.wrap .u32 v9) * 2 ^ (8)))) (IntKind.wrap .u32 v10)))
    else
      ref01_block.L2 k v0 v2 k 16 v6
def ref01_block (k : Nat) (v0 : (List Int)) (v1 : (List Int)) (v2 : (List Int)) : Option (List Int) :=
  chk ((0 : Int) ≤ 64 ∧ 16 * 64 ≤ 281474976710656) <|
  let1 (List.replicate 64 0) fun v4 =>
  ref01_block.L1 k v0 v1 v2 k 0 v4
def ref01_Sum.L4 (k : Nat) (v6 : (List Int)) : Nat → Int → (List Int) → Option ByteArray
  | 0, _, _ => none
  | n + 1, v9, v10 =>
    if v9 < 8 then
      idx v6 v9 fun v11 =>
      chk ((v10.length + ([IntKind.wrap .u8 (Int.fdiv v11 (2 ^ (24))), IntKind.wrap .u8 (Int.fdiv v11 (2 ^ (16))), IntKind.wrap .u8 (Int.fdiv v11 (2 ^ (8))), IntKind.wrap .u8 v11] : List Int).length) * 1 ≤ 140737488355328) <|
      ref01_Sum.L4 k v6 n (IntKind.wrap .i64 (v9 + 1)) (v10 ++ ([IntKind.wrap .u8 (Int.fdiv v11 (2 ^ (24))), IntKind.wrap .u8 (Int.fdiv v11 (2 ^ (16))), IntKind.wrap .u8 (Int.fdiv v11 (2 ^ (8))), IntKind.wrap .u8 v11] : List Int))
    else
      some (ofI v10)
def ref01_Sum.L3 (k : Nat) (v4 : (List Int)) (v5 : (List Int)) : Nat → (List Int) → Int → Option ByteArray
  | 0, _, _ => none
  | n + 1, v6, v7 =>
    if v7 < (v4.length : Int) then
      chk ((0 : Int) ≤ v7 ∧ (v7 : Int) ≤ IntKind.wrap .i64 (v7 + 64) ∧ (IntKind.wrap .i64 (v7 + 64) : Int) ≤ (v4.length : Int)) <|
      bnd1 (ref01_block k v6 ((v4.take (IntKind.wrap .i64 (v7 + 64)).toNat).drop (v7).toNat) v5) fun v8 =>
      ref01_Sum.L3 k v4 v5 n v8 (IntKind.wrap .i64 (v7 + 64))
    else
      ref01_Sum.L4 k v6 k 0 ([] : List Int)
def ref01_Sum.L2 (k : Nat) (v0 : (List Int)) : Nat → Int → (List Int) → Option ByteArray
  | 0, _, _ => none
  | n + 1, v3, v4 =>
    if 0 ≤ v3 then
      chk ((0 : Int) ≤ IntKind.wrap .u64 (IntKind.wrap .i64 (8 * v3))) <|
      chk ((v4.length + ([IntKind.wrap .u8 (Int.fdiv (IntKind.wrap .u64 (IntKind.wrap .u64 (v0.length : Int) * 8)) (2 ^ (min ((IntKind.wrap .u64 (IntKind.wrap .i64 (8 * v3))).toNat) 64)))] : List Int).length) * 1 ≤ 140737488355328) <|
      ref01_Sum.L2 k v0 n (IntKind.wrap .i64 (v3 - 1)) (v4 ++ ([IntKind.wrap .u8 (Int.fdiv (IntKind.wrap .u64 (IntKind.wrap .u64 (v0.length : Int) * 8)) (2 ^ (min ((IntKind.wrap .u64 (IntKind.wrap .i64 (8 * v3))).toNat) 64)))] : List Int))
    else
      bnd1 (ref01_constants k) fun v5 =>
      ref01_Sum.L3 k v4 v5 k ([1779033703, 3144134277, 1013904242, 2773480762, 1359893119, 2600822924, 528734635, 1541459225] : List Int) 0
def ref01_Sum.L1 (k : Nat) (v0 : (List Int)) : Nat → (List Int) → Option ByteArray
  | 0, _ => none
  | n + 1, v2 =>
    if (Int.tmod (v2.length : Int) 64) ≠ 56 then
      chk ((v2.length + ([0] : List Int).length) * 1 ≤ 140737488355328) <|
      ref01_Sum.L1 k v0 n (v2 ++ ([0] : List Int))
    else
      ref01_Sum.L2 k v0 k 7 v2
def ref01_Sum (k : Nat) (v0 : (List Int)) : Option ByteArray :=
  chk (v0.length * 1 ≤ 140737488355328) <|
  chk ((v0.length + ([128] : List Int).length) * 1 ≤ 140737488355328) <|
  ref01_Sum.L1 k v0 k (v0 ++ ([128] : List Int))
def ref03_Digest (k : Nat) (v0 : Int) (v1 : Int) (v2 : ByteArray) (v3 : Int) (v4 : Int) (v5 : Int) (v6 : Int) (v7 : Int) (v8 : (List Int)) (v9 : (List api_Pin)) (v10 : ByteArray) (v11 : Int) (v12 : ByteArray) : Option ByteArray :=
  bnd1 (ref03_Bytes k v0 v1 v2 v3 v4 v5 v6 v7 v8 v9 v10 v11 v12) fun v14 =>
  bnd1 (ref01_Sum k v14) fun v15 =>
  some v15
def ref03_Seal (k : Nat) (v0 : Int) (v1 : Int) (v2 : ByteArray) (v3 : Int) (v4 : Int) (v5 : Int) (v6 : Int) (v7 : Int) (v8 : (List Int)) (v9 : (List api_Pin)) (v10 : ByteArray) (v11 : Int) (v12 : ByteArray) : Option api_Statement :=
  bnd1 (ref03_Copy k v0 v1 v2 v3 v4 v5 v6 v7 v8 v9 v10 v11 v12) fun v14 =>
  bnd1 (ref03_Digest k v14.Author v14.Number v14.Prev v14.Time v14.Kind v14.A v14.B v14.C v14.Lst v14.Pins v14.Body v14.Seal_Key v14.Seal_Digest) fun v15 =>
  some (api_Statement.mk v14.Author v14.Number v14.Prev v14.Time v14.Kind v14.A v14.B v14.C v14.Lst v14.Pins v14.Body v14.Author v15)
def mill_Statement.J1 (k : Nat) (v0 : Int) (v1 : Int) (v2 : Int) (v3 : Int) (v4 : Int) (v5 : Int) (v6 : Int) (v7 : (List Int)) (v8 : (List api_Pin)) (v10 : ByteArray) : Option api_Statement :=
  bnd1 (ref03_Seal k v0 v1 v10 v2 v3 v4 v5 v6 v7 v8 (ByteArray.mk #[]) 0 (ByteArray.mk #[])) fun v11 =>
  some v11
def mill_Statement (k : Nat) (v0 : Int) (v1 : Int) (v2 : Int) (v3 : Int) (v4 : Int) (v5 : Int) (v6 : Int) (v7 : (List Int)) (v8 : (List api_Pin)) : Option api_Statement :=
  chk (v7.length * 8 ≤ 140737488355328) <|
  chk (v8.length * 32 ≤ 140737488355328) <|
  if 0 < v1 then
    chk ((0 : Int) ≤ 32 ∧ 16 * 32 ≤ 281474976710656) <|
    mill_Statement.J1 k v0 v1 v2 v3 v4 v5 v6 v7 v8 (ofI (List.replicate (32 : Int).toNat 0))
  else
    mill_Statement.J1 k v0 v1 v2 v3 v4 v5 v6 v7 v8 (ByteArray.mk #[])
def cases_Of (k : Nat) (v0 : Int) (v1 : Int) (v2 : ByteArray) (v3 : Int) (v4 : Int) (v5 : Int) (v6 : Int) (v7 : Int) (v8 : (List Int)) (v9 : (List api_Pin)) (v10 : ByteArray) (v11 : Int) (v12 : ByteArray) : Option (Int × Int × Int × Int × Int × (List Int) × (List api_Pin) × Int) :=
  bnd1 (statement_Check k v0 v1 v2 v3 v4 v5 v6 v7 v8 v9 v10 v11 v12) fun v21 =>
  if v21 ≠ 0 then
    some (0, 0, 0, 0, 0, ([] : List Int), ([] : List api_Pin), v21)
  else
    bnd2 (cases_Copy k v8 v9) fun v22 v23 =>
    if v4 ≠ 10 then
      some (0, 0, 0, 0, 0, ([] : List Int), ([] : List api_Pin), 42)
    else
      if (!strEq v10 (ByteArray.mk #[])) = true then
        some (0, 0, 0, 0, 0, ([] : List Int), ([] : List api_Pin), 42)
      else
        bnd1 (cases_Right k v5 (Int.tmod v6 16) v7 (IntKind.wrap .i64 (Int.tdiv v6 16)) v22 v23) fun v24 =>
        if (!v24) = true then
          some (0, 0, 0, 0, 0, ([] : List Int), ([] : List api_Pin), 42)
        else
          some (v0, v5, Int.tmod v6 16, v7, IntKind.wrap .i64 (Int.tdiv v6 16), v22, v23, 0)
def law23_awake (k : Nat) : Option Bool :=
  bnd7 (cases_Draft k 2 3 5 1 ([1] : List Int) ([] : List api_Pin)) fun v1 v2 v3 v4 v5 v6 v7 =>
  bnd1 (mill_Statement k 3 0 4 v1 v2 v3 v4 v5 v6) fun v8 =>
  bnd8 (cases_Of k v8.Author v8.Number v8.Prev v8.Time v8.Kind v8.A v8.B v8.C v8.Lst v8.Pins v8.Body v8.Seal_Key v8.Seal_Digest) fun v9 v10 v11 v12 v13 v14 v15 v16 =>
  if v7 = 0 then
    if v16 = 0 then
      bnd1 (cases_Code k 2 3 5 1) fun v17 =>
      if v17 = 19 then
        if v9 = 3 then
          let1 (((v10 == 2) && ((v11 == 3) && ((v12 == 5) && (v13 == 1))))) fun v18 =>
          if v18 = true then
            if (v14.length : Int) = 1 then
              bnd1 (cases_Valid k 2 3 5 1) fun v19 =>
              some v19
            else
              some false
          else
            some false
        else
          some false
      else
        some false
    else
      some false
  else
    some false
def made_Roll (k : Nat) (v0 : (List Int)) : Option ((List Int) × Int) :=
  some (v0, 0)
def mill_Roll (k : Nat) (v0 : (List Int)) : Option ((List Int) × Int) :=
  bnd2 (made_Roll k v0) fun v3 v4 =>
  some (v3, v4)
def made_Mod.J1 (k : Nat) (v3 : Int) : Option Int :=
  some v3
def made_Mod (k : Nat) (v0 : Int) (v1 : Int) : Option Int :=
  if v1 < 1 then
    some 0
  else
    chk (v1 ≠ (0 : Int)) <|
    if Int.tmod v0 v1 < 0 then
      made_Mod.J1 k (IntKind.wrap .i64 (Int.tmod v0 v1 + v1))
    else
      made_Mod.J1 k (Int.tmod v0 v1)
def made_Dice_Next (k : Nat) (v0 : (List Int)) (v1 : Int) (v2 : Int) : Option (Int × Int) :=
  if (v0.length : Int) ≤ v1 then
    some (0, v1)
  else
    idx v0 (IntKind.wrap .i64 (IntKind.wrap .i64 (v1 + 1) - 1)) fun v5 =>
    bnd1 (made_Mod k v5 v2) fun v6 =>
    some (v6, IntKind.wrap .i64 (v1 + 1))
def mill_Case.J1 (k : Nat) (v2 : Int) (v8 : Int) (v10 : Int) (v11 : Int) (v12 : Int) : Option (Int × Int × Int × Int × Int) :=
  some (v2, IntKind.wrap .i64 (1 + v8), v10, v11, v12)
def mill_Case (k : Nat) (v0 : (List Int)) (v1 : Int) (v2 : Int) : Option (Int × Int × Int × Int × Int) :=
  bnd2 (made_Dice_Next k v0 v1 3) fun v8 v9 =>
  if (IntKind.wrap .i64 (1 + v8)) ≠ 1 then
    bnd2 (made_Dice_Next k v0 v9 7) fun v13 v14 =>
    bnd2 (made_Dice_Next k v0 v14 2) fun v15 v16 =>
    mill_Case.J1 k v2 v8 v13 v15 v16
  else
    mill_Case.J1 k v2 v8 0 0 v9
def made_Dice_Of (k : Nat) (v0 : (List Int)) (v1 : Int) (v2 : (List Int)) : Option (Int × Int) :=
  bnd2 (made_Dice_Next k v0 v1 (v2.length : Int)) fun v5 v6 =>
  idx v2 v5 fun v7 =>
  some (v7, v6)
def made_Dice_One (k : Nat) (v0 : (List Int)) (v1 : Int) (v2 : Int) : Option (Bool × Int) :=
  bnd2 (made_Dice_Next k v0 v1 v2) fun v5 v6 =>
  some ((v5 == (IntKind.wrap .i64 (v2 - 1))), v6)
def made_Dice_Digest (k : Nat) (v0 : (List Int)) (v1 : Int) : Option (ByteArray × Int) :=
  chk ((0 : Int) ≤ 32 ∧ 16 * 32 ≤ 281474976710656) <|
  let1 (List.replicate 32 0) fun v4 =>
  bnd2 (made_Dice_Next k v0 v1 4) fun v5 v6 =>
  bnd2 (made_Dice_Next k v0 v6 256) fun v7 v8 =>
  chk ((0 : Int) ≤ 0 ∧ (0 : Int).toNat < v4.length) <|
  chk ((0 : Int) ≤ 31 ∧ (31 : Int).toNat < (v4.set (0 : Int).toNat (IntKind.wrap .u8 v5)).length) <|
  some (ofI ((v4.set (0 : Int).toNat (IntKind.wrap .u8 v5)).set (31 : Int).toNat (IntKind.wrap .u8 v7)), v8)
def mill_Content.J1 (k : Nat) (v11 : Int) (v13 : Int) (v15 : (List api_Pin)) (v16 : Int) : Option ((List Int) × (List api_Pin) × Int) :=
  some (([IntKind.wrap .i64 (1 + v11), v13] : List Int), v15, v16)
def mill_Content (k : Nat) (v0 : (List Int)) (v1 : Int) (v2 : Int) (v3 : Int) (v4 : Int) (v5 : Int) : Option ((List Int) × (List api_Pin) × Int) :=
  if v3 ≠ 1 then
    bnd2 (made_Dice_Next k v0 v1 2) fun v9 v10 =>
    some (([v9] : List Int), ([] : List api_Pin), v10)
  else
    bnd2 (made_Dice_Next k v0 v1 127) fun v11 v12 =>
    bnd2 (made_Dice_Of k v0 v12 ([0, 0, 1] : List Int)) fun v13 v14 =>
    bnd2 (made_Dice_One k v0 v14 4) fun v17 v18 =>
    if v17 = true then
      bnd2 (made_Dice_Next k v0 v18 4) fun v19 v20 =>
      bnd2 (made_Dice_Next k v0 v20 3) fun v21 v22 =>
      bnd2 (made_Dice_Digest k v0 v22) fun v23 v24 =>
      mill_Content.J1 k v11 v13 ([(api_Pin.mk v19 (IntKind.wrap .i64 (1 + v21)) v23)] : List api_Pin) v24
    else
      mill_Content.J1 k v11 v13 ([] : List api_Pin) v18
def ref23_Valid.J1 (k : Nat) (v5 : Bool) : Option Bool :=
  if v5 = true then
    some true
  else
    some false
def ref23_Valid (k : Nat) (v0 : Int) (v1 : Int) (v2 : Int) (v3 : Int) : Option Bool :=
  if v0 < 0 then
    some false
  else
    if 40 ≤ v0 then
      some false
    else
      if v2 < 0 then
        some false
      else
        if 64 ≤ v2 then
          some false
        else
          if v3 < 0 then
            some false
          else
            if 1 < v3 then
              some false
            else
              if v1 = 1 then
                if v2 = 0 then
                  some (v3 == 0)
                else
                  some false
              else
                if v1 = 2 then
                  ref23_Valid.J1 k true
                else
                  ref23_Valid.J1 k (v1 == 3)
def ref03_key (k : Nat) (v0 : Int) : Option Bool :=
  if 0 ≤ v0 then
    some (decide (v0 < 64))
  else
    some false
def ref03_in (k : Nat) (v0 : Int) (v1 : Int) : Option Bool :=
  if 0 ≤ v0 then
    some (decide (v0 ≤ v1))
  else
    some false
def ref03_numbers.L1 (k : Nat) (v0 : Int) (v3 : Int) (v4 : Int) (v5 : Int) (v6 : Int) (v7 : Int) (v8 : (List Int)) : Nat → Int → Option Bool
  | 0, _ => none
  | n + 1, v18 =>
    if v18 < (v8.length : Int) then
      idx v8 v18 fun v19 =>
      bnd1 (ref03_in k v19 1099511627776) fun v20 =>
      if (!v20) = true then
        some false
      else
        ref03_numbers.L1 k v0 v3 v4 v5 v6 v7 v8 n (IntKind.wrap .i64 (v18 + 1))
    else
      if v4 = 1 then
        bnd1 (ref03_key k v5) fun v21 =>
        if v21 = true then
          if v5 ≠ v0 then
            if 1 ≤ v6 then
              if v6 ≤ 3 then
                if v3 ≤ v7 then
                  some (decide (v7 ≤ 2147483648))
                else
                  some false
              else
                some false
            else
              some false
          else
            some false
        else
          some false
      else
        if v4 = 2 then
          bnd1 (ref03_in k v5 199) fun v22 =>
          if v22 = true then
            if v6 = 0 then
              some (v7 == 0)
            else
              some false
          else
            some false
        else
          if v4 = 3 then
            if v5 = 0 then
              if v6 = 0 then
                some (v7 == 0)
              else
                some false
            else
              some false
          else
            some true
def ref03_numbers (k : Nat) (v0 : Int) (v1 : Int) (v2 : ByteArray) (v3 : Int) (v4 : Int) (v5 : Int) (v6 : Int) (v7 : Int) (v8 : (List Int)) (v9 : (List api_Pin)) (v10 : ByteArray) (v11 : Int) (v12 : ByteArray) : Option Bool :=
  bnd1 (ref03_in k v1 199) fun v14 =>
  if (!v14) = true then
    some false
  else
    bnd1 (ref03_in k v5 1099511627776) fun v15 =>
    if (!v15) = true then
      some false
    else
      bnd1 (ref03_in k v6 1099511627776) fun v16 =>
      if (!v16) = true then
        some false
      else
        bnd1 (ref03_in k v7 1099511627776) fun v17 =>
        if (!v17) = true then
          some false
        else
          ref03_numbers.L1 k v0 v3 v4 v5 v6 v7 v8 k 0
def ref03_PinsOK.J2 (k : Nat) (v2 : Int) (kb1 : Int → Option Bool) (v4 : Bool) : Option Bool :=
  if v4 = true then
    some false
  else
    kb1 (IntKind.wrap .i64 (v2 + 1))
def ref03_PinsOK.L1 (k : Nat) (v0 : (List api_Pin)) : Nat → Int → Option Bool
  | 0, _ => none
  | n + 1, v2 =>
    if v2 < (v0.length : Int) then
      idx v0 v2 fun v3 =>
      bnd1 (ref03_key k v3.Author) fun v5 =>
      if (!v5) = true then
        ref03_PinsOK.J2 k v2 (fun v2_ => ref03_PinsOK.L1 k v0 n v2_) true
      else
        if 0 < v2 then
          idx v0 (IntKind.wrap .i64 (v2 - 1)) fun v6 =>
          if v3.Author ≤ v6.Author then
            ref03_PinsOK.J2 k v2 (fun v2_ => ref03_PinsOK.L1 k v0 n v2_) true
          else
            if v3.Height < 1 then
              ref03_PinsOK.J2 k v2 (fun v2_ => ref03_PinsOK.L1 k v0 n v2_) true
            else
              if 200 < v3.Height then
                ref03_PinsOK.J2 k v2 (fun v2_ => ref03_PinsOK.L1 k v0 n v2_) true
              else
                ref03_PinsOK.J2 k v2 (fun v2_ => ref03_PinsOK.L1 k v0 n v2_) ((v3.Digest.size : Int) != 32)
        else
          if v3.Height < 1 then
            ref03_PinsOK.J2 k v2 (fun v2_ => ref03_PinsOK.L1 k v0 n v2_) true
          else
            if 200 < v3.Height then
              ref03_PinsOK.J2 k v2 (fun v2_ => ref03_PinsOK.L1 k v0 n v2_) true
            else
              ref03_PinsOK.J2 k v2 (fun v2_ => ref03_PinsOK.L1 k v0 n v2_) ((v3.Digest.size : Int) != 32)
    else
      some true
def ref03_PinsOK (k : Nat) (v0 : (List api_Pin)) : Option Bool :=
  ref03_PinsOK.L1 k v0 k 0
def ref03_Check.J1 (k : Nat) : Option Int :=
  some 0
def ref03_Check.J3 (k : Nat) (v4 : Int) (v8 : (List Int)) (v9 : (List api_Pin)) (v10 : ByteArray) (v18 : Bool) : Option Int :=
  if v18 = true then
    some 1
  else
    if v4 ≤ 3 then
      if 0 < (v8.length : Int) then
        some 1
      else
        if 0 < (v9.length : Int) then
          some 1
        else
          if (!strEq v10 (ByteArray.mk #[])) = true then
            some 1
          else
            ref03_Check.J1 k
    else
      ref03_Check.J1 k
def ref03_Check.J2 (k : Nat) (v0 : Int) (v1 : Int) (v2 : ByteArray) (v3 : Int) (v4 : Int) (v5 : Int) (v6 : Int) (v7 : Int) (v8 : (List Int)) (v9 : (List api_Pin)) (v10 : ByteArray) (v11 : Int) (v12 : ByteArray) (v15 : Bool) : Option Int :=
  if v15 = true then
    some 5
  else
    bnd1 (ref03_in k v3 2147483648) fun v16 =>
    if (!v16) = true then
      some 9
    else
      bnd1 (ref03_numbers k v0 v1 v2 v3 v4 v5 v6 v7 v8 v9 v10 v11 v12) fun v17 =>
      if (!v17) = true then
        some 2
      else
        if 64 < (v8.length : Int) then
          some 3
        else
          if 64 < (v9.length : Int) then
            some 3
          else
            if 4096 < (v10.size : Int) then
              some 3
            else
              if v1 = 0 then
                if (!strEq v2 (ByteArray.mk #[])) = true then
                  ref03_Check.J3 k v4 v8 v9 v10 true
                else
                  if 0 < v1 then
                    none
                  else
                    bnd1 (ref03_PinsOK k v9) fun v19 =>
                    ref03_Check.J3 k v4 v8 v9 v10 (!v19)
              else
                if 0 < v1 then
                  if (v2.size : Int) ≠ 32 then
                    ref03_Check.J3 k v4 v8 v9 v10 true
                  else
                    bnd1 (ref03_PinsOK k v9) fun v20 =>
                    ref03_Check.J3 k v4 v8 v9 v10 (!v20)
                else
                  bnd1 (ref03_PinsOK k v9) fun v21 =>
                  ref03_Check.J3 k v4 v8 v9 v10 (!v21)
def ref03_Check (k : Nat) (v0 : Int) (v1 : Int) (v2 : ByteArray) (v3 : Int) (v4 : Int) (v5 : Int) (v6 : Int) (v7 : Int) (v8 : (List Int)) (v9 : (List api_Pin)) (v10 : ByteArray) (v11 : Int) (v12 : ByteArray) : Option Int :=
  bnd1 (ref03_key k v0) fun v14 =>
  if (!v14) = true then
    some 4
  else
    if v4 < 1 then
      ref03_Check.J2 k v0 v1 v2 v3 v4 v5 v6 v7 v8 v9 v10 v11 v12 true
    else
      if 3 < v4 then
        if v4 < 10 then
          ref03_Check.J2 k v0 v1 v2 v3 v4 v5 v6 v7 v8 v9 v10 v11 v12 true
        else
          ref03_Check.J2 k v0 v1 v2 v3 v4 v5 v6 v7 v8 v9 v10 v11 v12 (decide (31 < v4))
      else
        ref03_Check.J2 k v0 v1 v2 v3 v4 v5 v6 v7 v8 v9 v10 v11 v12 (decide (31 < v4))
def ref23_Right (k : Nat) (v0 : Int) (v1 : Int) (v2 : Int) (v3 : Int) (v4 : (List Int)) (v5 : (List api_Pin)) : Option Bool :=
  bnd1 (ref23_Valid k v0 v1 v2 v3) fun v7 =>
  if (!v7) = true then
    some false
  else
    bnd1 (ref03_Check k 0 0 (ByteArray.mk #[]) 0 10 0 0 0 ([] : List Int) v5 (ByteArray.mk #[]) 0 (ByteArray.mk #[])) fun v8 =>
    if v8 ≠ 0 then
      some false
    else
      if v1 = 1 then
        if (v4.length : Int) = 2 then
          idx v4 0 fun v9 =>
          if 0 ≤ v9 then
            if v9 < 4294967296 then
              idx v4 1 fun v10 =>
              if 0 ≤ v10 then
                some (decide (v10 < 4294967296))
              else
                some false
            else
              some false
          else
            some false
        else
          some false
      else
        if (v4.length : Int) = 1 then
          idx v4 0 fun v11 =>
          if v11 = 0 then
            some true
          else
            some (v11 == 1)
        else
          some false
def ref23_Code (k : Nat) (v0 : Int) (v1 : Int) (v2 : Int) (v3 : Int) : Option Int :=
  bnd1 (ref23_Valid k v0 v1 v2 v3) fun v5 =>
  if (!v5) = true then
    some 0
  else
    some (IntKind.wrap .i64 (v1 + IntKind.wrap .i64 (16 * v3)))
def ref23_Draft (k : Nat) (v0 : Int) (v1 : Int) (v2 : Int) (v3 : Int) (v4 : (List Int)) (v5 : (List api_Pin)) : Option (Int × Int × Int × Int × (List Int) × (List api_Pin) × Int) :=
  bnd1 (ref23_Valid k v0 v1 v2 v3) fun v13 =>
  if (!v13) = true then
    some (0, 0, 0, 0, ([] : List Int), ([] : List api_Pin), 41)
  else
    bnd1 (ref23_Right k v0 v1 v2 v3 v4 v5) fun v14 =>
    if (!v14) = true then
      some (0, 0, 0, 0, ([] : List Int), ([] : List api_Pin), 42)
    else
      bnd1 (ref23_Code k v0 v1 v2 v3) fun v15 =>
      chk (v4.length * 8 ≤ 140737488355328) <|
      chk (v5.length * 32 ≤ 140737488355328) <|
      some (10, v0, v15, v2, v4, v5, 0)
def mill_Vote (k : Nat) (v0 : Int) (v1 : Int) (v2 : Int) (v3 : Int) (v4 : Int) (v5 : Int) (v6 : (List Int)) (v7 : (List api_Pin)) : Option api_Statement :=
  bnd7 (ref23_Draft k v2 v3 v4 v5 v6 v7) fun v9 v10 v11 v12 v13 v14 v15 =>
  bnd1 (mill_Statement k v0 v1 1 v9 v10 v11 v12 v13 v14) fun v16 =>
  some v16
def ref03_Sealed (k : Nat) (v0 : Int) (v1 : Int) (v2 : ByteArray) (v3 : Int) (v4 : Int) (v5 : Int) (v6 : Int) (v7 : Int) (v8 : (List Int)) (v9 : (List api_Pin)) (v10 : ByteArray) (v11 : Int) (v12 : ByteArray) : Option Bool :=
  if v11 = v0 then
    bnd1 (ref03_Digest k v0 v1 v2 v3 v4 v5 v6 v7 v8 v9 v10 v11 v12) fun v14 =>
    some (strEq v12 v14)
  else
    some false
def cmp_isNaN_int (k : Nat) (v0 : Int) : Option Bool :=
  some (v0 != v0)
def cmp_Compare_int (k : Nat) (v0 : Int) (v1 : Int) : Option Int :=
  bnd1 (cmp_isNaN_int k v0) fun v3 =>
  bnd1 (cmp_isNaN_int k v1) fun v4 =>
  if v3 = true then
    if v4 = true then
      some 0
    else
      some (-1)
  else
    if v4 = true then
      some 1
    else
      if v0 < v1 then
        some (-1)
      else
        if v1 < v0 then
          some 1
        else
          some 0
def cases_order_int_Compare_int.L1 (k : Nat) (v0 : (List Int)) (v1 : (List Int)) (v3 : Int) : Nat → Int → Option Int
  | 0, _ => none
  | n + 1, v4 =>
    if v4 < v3 then
      idx v0 v4 fun v5 =>
      idx v1 v4 fun v6 =>
      bnd1 (cmp_Compare_int k v5 v6) fun v7 =>
      if v7 ≠ 0 then
        some v7
      else
        cases_order_int_Compare_int.L1 k v0 v1 v3 n (IntKind.wrap .i64 (v4 + 1))
    else
      bnd1 (cmp_Compare_int k (v0.length : Int) (v1.length : Int)) fun v8 =>
      some v8
def cases_order_int_Compare_int (k : Nat) (v0 : (List Int)) (v1 : (List Int)) : Option Int :=
  let1 (if (v1.length : Int) < (v0.length : Int) then (v1.length : Int) else (v0.length : Int)) fun v3 =>
  cases_order_int_Compare_int.L1 k v0 v1 v3 k 0
def internal_bytealg_CompareString (k : Nat) (v0 : ByteArray) (v1 : ByteArray) : Option Int :=
  some (Go.Extern.BytealgCompare.cmp v0 v1)
def strings_Compare (k : Nat) (v0 : ByteArray) (v1 : ByteArray) : Option Int :=
  bnd1 (internal_bytealg_CompareString k v0 v1) fun v3 =>
  some v3
def cmp_Or_int.L1 (k : Nat) (v0 : (List Int)) : Nat → Int → Option Int
  | 0, _ => none
  | n + 1, v2 =>
    if v2 < (v0.length : Int) then
      idx v0 v2 fun v3 =>
      if v3 ≠ 0 then
        some v3
      else
        cmp_Or_int.L1 k v0 n (IntKind.wrap .i64 (v2 + 1))
    else
      some 0
def cmp_Or_int (k : Nat) (v0 : (List Int)) : Option Int :=
  cmp_Or_int.L1 k v0 k 0
def cases_pin (k : Nat) (v0 : Int) (v1 : Int) (v2 : ByteArray) (v3 : Int) (v4 : Int) (v5 : ByteArray) : Option Int :=
  bnd1 (cmp_Compare_int k v0 v3) fun v7 =>
  bnd1 (cmp_Compare_int k v1 v4) fun v8 =>
  bnd1 (strings_Compare k v2 v5) fun v9 =>
  bnd1 (cmp_Or_int k ([v7, v8, v9] : List Int)) fun v10 =>
  some v10
def cases_order_api_Pin_cases_pin.L1 (k : Nat) (v0 : (List api_Pin)) (v1 : (List api_Pin)) (v3 : Int) : Nat → Int → Option Int
  | 0, _ => none
  | n + 1, v4 =>
    if v4 < v3 then
      idx v0 v4 fun v5 =>
      idx v1 v4 fun v6 =>
      bnd1 (cases_pin k v5.Author v5.Height v5.Digest v6.Author v6.Height v6.Digest) fun v7 =>
      if v7 ≠ 0 then
        some v7
      else
        cases_order_api_Pin_cases_pin.L1 k v0 v1 v3 n (IntKind.wrap .i64 (v4 + 1))
    else
      bnd1 (cmp_Compare_int k (v0.length : Int) (v1.length : Int)) fun v8 =>
      some v8
def cases_order_api_Pin_cases_pin (k : Nat) (v0 : (List api_Pin)) (v1 : (List api_Pin)) : Option Int :=
  let1 (if (v1.length : Int) < (v0.length : Int) then (v1.length : Int) else (v0.length : Int)) fun v3 =>
  cases_order_api_Pin_cases_pin.L1 k v0 v1 v3 k 0
def cases_Order (k : Nat) (v0 : (List Int)) (v1 : (List api_Pin)) (v2 : (List Int)) (v3 : (List api_Pin)) : Option Int :=
  bnd1 (cases_order_int_Compare_int k v0 v2) fun v5 =>
  bnd1 (cases_order_api_Pin_cases_pin k v1 v3) fun v6 =>
  bnd1 (cmp_Or_int k ([v5, v6] : List Int)) fun v7 =>
  some v7
def law23_CasesForged (k : Nat) (v0 : (List Int)) (v1 : Int) : Option Bool :=
  bnd1 (mill_Light k v0) fun v3 =>
  if (!v3) = true then
    bnd1 (law23_awake k) fun v4 =>
    some v4
  else
    bnd2 (mill_Roll k v0) fun v5 v6 =>
    bnd5 (mill_Case k v5 v6 0) fun v7 v8 v9 v10 v11 =>
    bnd2 (made_Dice_Next k v5 v11 5) fun v12 v13 =>
    bnd3 (mill_Content k v5 v13 v7 v8 v9 v10) fun v14 v15 v16 =>
    bnd1 (mill_Vote k v12 0 v7 v8 v9 v10 v14 v15) fun v17 =>
    bnd8 (cases_Of k v17.Author v17.Number v17.Prev v17.Time v17.Kind v17.A v17.B v17.C v17.Lst v17.Pins v17.Body v17.Seal_Key v17.Seal_Digest) fun v18 v19 v20 v21 v22 v23 v24 v25 =>
    bnd8 (cases_Of k v17.Author v17.Number v17.Prev v17.Time v17.Kind v17.A v17.B v17.C v17.Lst v17.Pins v17.Body (IntKind.wrap .i64 (8 + Int.tmod (IntKind.wrap .i64 v1) 8)) v17.Seal_Digest) fun v26 v27 v28 v29 v30 v31 v32 v33 =>
    if v25 = 0 then
      if v33 = 0 then
        bnd1 (ref03_Sealed k v17.Author v17.Number v17.Prev v17.Time v17.Kind v17.A v17.B v17.C v17.Lst v17.Pins v17.Body (IntKind.wrap .i64 (8 + Int.tmod (IntKind.wrap .i64 v1) 8)) v17.Seal_Digest) fun v34 =>
        if (!v34) = true then
          if v18 = v26 then
            let1 (((v19 == v27) && ((v20 == v28) && ((v21 == v29) && (v22 == v30))))) fun v35 =>
            if v35 = true then
              bnd1 (cases_Order k v23 v24 v31 v32) fun v36 =>
              if v36 = 0 then
                bnd1 (law23_awake k) fun v37 =>
                some v37
              else
                some false
            else
              some false
          else
            some false
        else
          some false
      else
        some false
    else
      some false
end Go.TF
