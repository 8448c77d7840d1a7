/- The Go functions as Lean functions (printed by a program of our own). -/
import Derived.Test.YtmiimcogppdepaaAbsX
set_option linter.unusedVariables false
set_option maxRecDepth 100000
namespace Go.TF
open Go Go.Abs
abbrev Iz (n : Int) : AV := .int .i64 n
abbrev Lz (l : List Int) : AV := .lst false false (l.map (.int .i64))
abbrev Lb (l : List Int) : AV := .lst false false (l.map (.int .u8))
abbrev Lw (l : List Int) : AV := .lst false false (l.map (.int .u32))
structure api_Edge where
  From : Int
  To : Int
  Level : Int
@[simp] def api_Edge.av (x : api_Edge) : AV := AV.agg [AV.int .i64 x.From, AV.int .i64 x.To, AV.int .i64 x.Level]
@[simp] theorem api_Edge.okEls (l : List api_Edge) : okEls 3 (l.map api_Edge.av) ↔ True := iff_true_intro (okEls_iff.2 fun x hx => by
  simp only [List.mem_map] at hx
  obtain ⟨b, _, rfl⟩ := hx
  simp)
@[simp] theorem api_Edge.gdF (S : Nat → Prop) (l : List api_Edge) : gdL S (flatA (l.map api_Edge.av)) ↔ True := iff_true_intro (gdL_flat (by simp) l)
@[simp] theorem api_Edge.frF (l : List api_Edge) : freshL (flatA (l.map api_Edge.av)) = true := freshL_flat (by simp) l
@[simp] theorem api_Edge.renF (σ : Nat → Nat) (l : List api_Edge) : renL σ (flatA (l.map api_Edge.av)) = flatA (l.map api_Edge.av) := renL_flat (by simp) l
@[simp] theorem api_Edge.lenF (l : List api_Edge) : (flatA (l.map api_Edge.av)).length = l.length * 3 := flat_len (F := api_Edge.av) (fun _ => rfl) l
@[simp↓] theorem api_Edge.oneF (l : List api_Edge) : (flatA (l.map api_Edge.av)).all AV.one = true := one_flat (by simp) l
@[simp] theorem api_Edge.setR (σ : Nat → Nat) (l : List api_Edge) (i : Nat) (f0 : Int) (f1 : Int) (f2 : Int) : renL σ (flatA ((l.map api_Edge.av).set i (AV.agg [AV.int .i64 f0, AV.int .i64 f1, AV.int .i64 f2]))) = flatA ((l.map api_Edge.av).set i (AV.agg [AV.int .i64 f0, AV.int .i64 f1, AV.int .i64 f2])) := by
  have h := api_Edge.renF σ (l.set i (api_Edge.mk f0 f1 f2))
  rw [List.map_set] at h; exact h
@[simp] theorem api_Edge.setG (S : Nat → Prop) (l : List api_Edge) (i : Nat) (f0 : Int) (f1 : Int) (f2 : Int) : gdL S (flatA ((l.map api_Edge.av).set i (AV.agg [AV.int .i64 f0, AV.int .i64 f1, AV.int .i64 f2]))) ↔ True := by
  have h := api_Edge.gdF S (l.set i (api_Edge.mk f0 f1 f2))
  rw [List.map_set] at h; exact h
@[simp] theorem api_Edge.setN (l : List api_Edge) (i : Nat) (f0 : Int) (f1 : Int) (f2 : Int) : (flatA ((l.map api_Edge.av).set i (AV.agg [AV.int .i64 f0, AV.int .i64 f1, AV.int .i64 f2]))).length = l.length * 3 := by
  have h := api_Edge.lenF (l.set i (api_Edge.mk f0 f1 f2))
  rw [List.map_set, List.length_set] at h; exact h
@[simp] theorem api_Edge.setF (l : List api_Edge) (i : Nat) (f0 : Int) (f1 : Int) (f2 : Int) : freshL (flatA ((l.map api_Edge.av).set i (AV.agg [AV.int .i64 f0, AV.int .i64 f1, AV.int .i64 f2]))) = true := by
  have h := api_Edge.frF (l.set i (api_Edge.mk f0 f1 f2))
  rw [List.map_set] at h; exact h
@[simp] theorem api_Edge.len_take (i : Nat) (l : List api_Edge) : (flatA (List.take i (l.map api_Edge.av))).length = (l.take i).length * 3 := by rw [← List.map_take]; exact api_Edge.lenF _
@[simp] theorem api_Edge.ren_take (σ : Nat → Nat) (i : Nat) (l : List api_Edge) : renL σ (flatA (List.take i (l.map api_Edge.av))) = flatA (List.take i (l.map api_Edge.av)) := by rw [← List.map_take]; exact api_Edge.renF σ _
@[simp] theorem api_Edge.gd_take (S : Nat → Prop) (i : Nat) (l : List api_Edge) : gdL S (flatA (List.take i (l.map api_Edge.av))) ↔ True := by rw [← List.map_take]; exact api_Edge.gdF S _
@[simp] theorem api_Edge.fr_take (i : Nat) (l : List api_Edge) : freshL (flatA (List.take i (l.map api_Edge.av))) = true := by rw [← List.map_take]; exact api_Edge.frF _
@[simp] theorem api_Edge.one_take (i : Nat) (l : List api_Edge) : (∀ x : AV, x ∈ flatA (List.take i (l.map api_Edge.av)) → x.one = true) ↔ True := iff_true_intro (List.all_eq_true.1 (by rw [← List.map_take]; exact api_Edge.oneF _))
@[simp] theorem api_Edge.len_drop (i : Nat) (l : List api_Edge) : (flatA (List.drop i (l.map api_Edge.av))).length = (l.drop i).length * 3 := by rw [← List.map_drop]; exact api_Edge.lenF _
@[simp] theorem api_Edge.ren_drop (σ : Nat → Nat) (i : Nat) (l : List api_Edge) : renL σ (flatA (List.drop i (l.map api_Edge.av))) = flatA (List.drop i (l.map api_Edge.av)) := by rw [← List.map_drop]; exact api_Edge.renF σ _
@[simp] theorem api_Edge.gd_drop (S : Nat → Prop) (i : Nat) (l : List api_Edge) : gdL S (flatA (List.drop i (l.map api_Edge.av))) ↔ True := by rw [← List.map_drop]; exact api_Edge.gdF S _
@[simp] theorem api_Edge.fr_drop (i : Nat) (l : List api_Edge) : freshL (flatA (List.drop i (l.map api_Edge.av))) = true := by rw [← List.map_drop]; exact api_Edge.frF _
@[simp] theorem api_Edge.one_drop (i : Nat) (l : List api_Edge) : (∀ x : AV, x ∈ flatA (List.drop i (l.map api_Edge.av)) → x.one = true) ↔ True := iff_true_intro (List.all_eq_true.1 (by rw [← List.map_drop]; exact api_Edge.oneF _))
@[simp] theorem api_Edge.ids (S : Nat → Prop) (l : List api_Edge) : idsInL S (l.map api_Edge.av) ↔ True := iff_true_intro (ids_map_of (by simp) l)
structure api_Arc where
  From : Int
  To : Int
  Cap : Int
@[simp] def api_Arc.av (x : api_Arc) : AV := AV.agg [AV.int .i64 x.From, AV.int .i64 x.To, AV.int .i64 x.Cap]
@[simp] theorem api_Arc.okEls (l : List api_Arc) : okEls 3 (l.map api_Arc.av) ↔ True := iff_true_intro (okEls_iff.2 fun x hx => by
  simp only [List.mem_map] at hx
  obtain ⟨b, _, rfl⟩ := hx
  simp)
@[simp] theorem api_Arc.gdF (S : Nat → Prop) (l : List api_Arc) : gdL S (flatA (l.map api_Arc.av)) ↔ True := iff_true_intro (gdL_flat (by simp) l)
@[simp] theorem api_Arc.frF (l : List api_Arc) : freshL (flatA (l.map api_Arc.av)) = true := freshL_flat (by simp) l
@[simp] theorem api_Arc.renF (σ : Nat → Nat) (l : List api_Arc) : renL σ (flatA (l.map api_Arc.av)) = flatA (l.map api_Arc.av) := renL_flat (by simp) l
@[simp] theorem api_Arc.lenF (l : List api_Arc) : (flatA (l.map api_Arc.av)).length = l.length * 3 := flat_len (F := api_Arc.av) (fun _ => rfl) l
@[simp↓] theorem api_Arc.oneF (l : List api_Arc) : (flatA (l.map api_Arc.av)).all AV.one = true := one_flat (by simp) l
@[simp] theorem api_Arc.ids (S : Nat → Prop) (l : List api_Arc) : idsInL S (l.map api_Arc.av) ↔ True := iff_true_intro (ids_map_of (by simp) l)
def made_Light (k : Nat) (v0 : (List Int)) : Option Bool :=
  some (decide ((v0.length : Int) ≤ 400))
def lists_In (k : Nat) (v0 : Int) (v1 : Int) (v2 : Int) : Option Bool :=
  if v1 ≤ v0 then
    some (decide (v0 ≤ v2))
  else
    some false
def lists_Rising.J2 (k : Nat) (v4 : Int) (kb1 : Int → Option Bool) : Option Bool :=
  kb1 (IntKind.wrap .i64 (v4 + 1))
def lists_Rising.L1 (k : Nat) (v0 : (List Int)) (v1 : Int) (v2 : Int) : Nat → Int → Option Bool
  | 0, _ => none
  | n + 1, v4 =>
    if v4 < (v0.length : Int) then
      idx v0 v4 fun v5 =>
      if v5 < v1 then
        some false
      else
        if v2 < v5 then
          some false
        else
          if 0 < v4 then
            idx v0 (IntKind.wrap .i64 (v4 - 1)) fun v6 =>
            if v5 ≤ v6 then
              some false
            else
              lists_Rising.J2 k v4 (fun v4_ => lists_Rising.L1 k v0 v1 v2 n v4_)
          else
            lists_Rising.J2 k v4 (fun v4_ => lists_Rising.L1 k v0 v1 v2 n v4_)
    else
      some true
def lists_Rising (k : Nat) (v0 : (List Int)) (v1 : Int) (v2 : Int) : Option Bool :=
  lists_Rising.L1 k v0 v1 v2 k 0
def slices_Index_int_int.L1 (k : Nat) (v0 : (List Int)) (v1 : Int) : Nat → Int → Option Int
  | 0, _ => none
  | n + 1, v3 =>
    if v3 < (v0.length : Int) then
      idx v0 v3 fun v4 =>
      if v1 = v4 then
        some v3
      else
        slices_Index_int_int.L1 k v0 v1 n (IntKind.wrap .i64 (v3 + 1))
    else
      some (-1)
def slices_Index_int_int (k : Nat) (v0 : (List Int)) (v1 : Int) : Option Int :=
  slices_Index_int_int.L1 k v0 v1 k 0
def slices_Contains_int_int (k : Nat) (v0 : (List Int)) (v1 : Int) : Option Bool :=
  bnd1 (slices_Index_int_int k v0 v1) fun v3 =>
  some (decide (0 ≤ v3))
def graph_fits (k : Nat) (v0 : Int) (v1 : (List api_Edge)) (v2 : (List Int)) (v3 : Int) (v4 : Int) (v5 : Int) : Option Bool :=
  bnd1 (lists_In k v3 0 (IntKind.wrap .i64 (v0 - 1))) fun v7 =>
  if v7 = true then
    bnd1 (lists_In k v4 0 (IntKind.wrap .i64 (v0 - 1))) fun v8 =>
    if v8 = true then
      if v3 ≠ v4 then
        bnd1 (slices_Contains_int_int k v2 v3) fun v9 =>
        if (!v9) = true then
          bnd1 (slices_Contains_int_int k v2 v4) fun v10 =>
          some (!v10)
        else
          some false
      else
        some false
    else
      some false
  else
    some false
def cmp_isNaN_int (k : Nat) (v0 : Int) : Option Bool :=
  some (v0 != v0)
def cmp_Compare_int (k : Nat) (v0 : Int) (v1 : Int) : Option Int :=
  bnd1 (cmp_isNaN_int k v0) fun v3 =>
  bnd1 (cmp_isNaN_int k v1) fun v4 =>
  if v3 = true then
    if v4 = true then
      some 0
    else
      some (-1)
  else
    if v4 = true then
      some 1
    else
      if v0 < v1 then
        some (-1)
      else
        if v1 < v0 then
          some 1
        else
          some 0
def cmp_Or_int.L1 (k : Nat) (v0 : (List Int)) : Nat → Int → Option Int
  | 0, _ => none
  | n + 1, v2 =>
    if v2 < (v0.length : Int) then
      idx v0 v2 fun v3 =>
      if v3 ≠ 0 then
        some v3
      else
        cmp_Or_int.L1 k v0 n (IntKind.wrap .i64 (v2 + 1))
    else
      some 0
def cmp_Or_int (k : Nat) (v0 : (List Int)) : Option Int :=
  cmp_Or_int.L1 k v0 k 0
def graph_compare (k : Nat) (v0 : Int) (v1 : Int) (v2 : Int) (v3 : Int) (v4 : Int) (v5 : Int) : Option Int :=
  bnd1 (cmp_Compare_int k v0 v3) fun v7 =>
  bnd1 (cmp_Compare_int k v1 v4) fun v8 =>
  bnd1 (cmp_Or_int k ([v7, v8] : List Int)) fun v9 =>
  some v9
def graph_Check.J2 (k : Nat) (v6 : Int) (kb1 : Int → Option Int) : Option Int :=
  kb1 (IntKind.wrap .i64 (v6 + 1))
def graph_Check.L1 (k : Nat) (v0 : Int) (v1 : (List api_Edge)) (v2 : (List Int)) : Nat → Int → Option Int
  | 0, _ => none
  | n + 1, v6 =>
    if v6 < (v1.length : Int) then
      idx v1 v6 fun v7 =>
      bnd1 (graph_fits k v0 v1 v2 v7.From v7.To v7.Level) fun v8 =>
      if (!v8) = true then
        some 14
      else
        bnd1 (lists_In k v7.Level 1 3) fun v9 =>
        if (!v9) = true then
          some 14
        else
          if 0 < v6 then
            idx v1 (IntKind.wrap .i64 (v6 - 1)) fun v10 =>
            bnd1 (graph_compare k v10.From v10.To v10.Level v7.From v7.To v7.Level) fun v11 =>
            if 0 ≤ v11 then
              some 14
            else
              graph_Check.J2 k v6 (fun v6_ => graph_Check.L1 k v0 v1 v2 n v6_)
          else
            graph_Check.J2 k v6 (fun v6_ => graph_Check.L1 k v0 v1 v2 n v6_)
    else
      some 0
def graph_Check (k : Nat) (v0 : Int) (v1 : (List api_Edge)) (v2 : (List Int)) : Option Int :=
  bnd1 (lists_In k v0 0 64) fun v4 =>
  if (!v4) = true then
    some 14
  else
    if 500 < (v1.length : Int) then
      some 14
    else
      bnd1 (lists_Rising k v2 0 (IntKind.wrap .i64 (v0 - 1))) fun v5 =>
      if (!v5) = true then
        some 14
      else
        graph_Check.L1 k v0 v1 v2 k 0
def capacity_Check.J2 (k : Nat) (v11 : Int) (kb1 : Int → Option Int) : Option Int :=
  kb1 (IntKind.wrap .i64 (v11 + 1))
def capacity_Check.L1 (k : Nat) (v4 : (List Int)) : Nat → Int → Option Int
  | 0, _ => none
  | n + 1, v11 =>
    if v11 < (v4.length : Int) then
      idx v4 v11 fun v12 =>
      bnd1 (lists_In k v12 1 1000) fun v13 =>
      if (!v13) = true then
        some 15
      else
        if 0 < v11 then
          idx v4 (IntKind.wrap .i64 (v11 - 1)) fun v14 =>
          if v14 < v12 then
            some 15
          else
            capacity_Check.J2 k v11 (fun v11_ => capacity_Check.L1 k v4 n v11_)
        else
          capacity_Check.J2 k v11 (fun v11_ => capacity_Check.L1 k v4 n v11_)
    else
      some 0
def capacity_Check (k : Nat) (v0 : Int) (v1 : (List api_Edge)) (v2 : (List Int)) (v3 : (List Int)) (v4 : (List Int)) (v5 : Int) : Option Int :=
  bnd1 (graph_Check k v0 v1 v2) fun v7 =>
  if v7 ≠ 0 then
    some v7
  else
    if (v3.length : Int) = 0 then
      some 15
    else
      bnd1 (lists_Rising k v3 0 (IntKind.wrap .i64 (v0 - 1))) fun v8 =>
      if (!v8) = true then
        some 15
      else
        bnd1 (lists_In k (v4.length : Int) 1 8) fun v9 =>
        if (!v9) = true then
          some 15
        else
          bnd1 (lists_In k v5 1 3) fun v10 =>
          if (!v10) = true then
            some 15
          else
            capacity_Check.L1 k v4 k 0
def split_Entry (k : Nat) (v0 : Int) : Option Int :=
  some (IntKind.wrap .i64 (2 + IntKind.wrap .i64 (2 * v0)))
def slices_Clone_api_Edge_api_Edge (k : Nat) (v0 : (List api_Edge)) : Option (List api_Edge) :=
  chk (v0.length * 24 ≤ 140737488355328) <| some v0
def slices_Clone_int_int (k : Nat) (v0 : (List Int)) : Option (List Int) :=
  chk (v0.length * 8 ≤ 140737488355328) <| some v0
def graph_copied_o (k : Nat) (v0 : Int) (v1 : (List api_Edge)) (v2 : (List Int)) : Option (Int × (List api_Edge) × (List Int)) :=
  bnd1 (slices_Clone_api_Edge_api_Edge k v1) fun v6 =>
  bnd1 (slices_Clone_int_int k v2) fun v7 =>
  some (v0, v6, v7)
def graph_Level_1 (k : Nat) (v0 : Int) (v1 : Int) (v2 : Int) (v3 : Int) : Option Bool :=
  some (decide (v2 < v3))
def slices_IndexFunc_api_Edge_api_Edge_Level_1.L1 (k : Nat) (v0 : (List api_Edge)) (v1 : Int) : Nat → Int → Option Int
  | 0, _ => none
  | n + 1, v3 =>
    if v3 < (v0.length : Int) then
      idx v0 v3 fun v4 =>
      bnd1 (graph_Level_1 k v4.From v4.To v4.Level v1) fun v5 =>
      if v5 = true then
        some v3
      else
        slices_IndexFunc_api_Edge_api_Edge_Level_1.L1 k v0 v1 n (IntKind.wrap .i64 (v3 + 1))
    else
      some (-1)
def slices_IndexFunc_api_Edge_api_Edge_Level_1 (k : Nat) (v0 : (List api_Edge)) (v1 : Int) : Option Int :=
  slices_IndexFunc_api_Edge_api_Edge_Level_1.L1 k v0 v1 k 0
def slices_DeleteFunc_api_Edge_api_Edge_Level_1_o.J2 (k : Nat) (v5 : Int) (kb1 : Int → Int → (List api_Edge) → Option (List api_Edge)) (v7 : (List api_Edge)) (v8 : Int) : Option (List api_Edge) :=
  kb1 v8 (IntKind.wrap .i64 (v5 + 1)) v7
def slices_DeleteFunc_api_Edge_api_Edge_Level_1_o.L1 (k : Nat) (v1 : Int) : Nat → Int → Int → (List api_Edge) → Option (List api_Edge)
  | 0, _, _, _ => none
  | n + 1, v4, v5, v6 =>
    if v5 < (v6.length : Int) then
      idx v6 v5 fun v9 =>
      bnd1 (graph_Level_1 k v9.From v9.To v9.Level v1) fun v10 =>
      if (!v10) = true then
        idx v6 v4 fun v11 =>
        slices_DeleteFunc_api_Edge_api_Edge_Level_1_o.J2 k v5 (fun v4_ v5_ v6_ => slices_DeleteFunc_api_Edge_api_Edge_Level_1_o.L1 k v1 n v4_ v5_ v6_) (v6.set (v4).toNat v9) (IntKind.wrap .i64 (v4 + 1))
      else
        slices_DeleteFunc_api_Edge_api_Edge_Level_1_o.J2 k v5 (fun v4_ v5_ v6_ => slices_DeleteFunc_api_Edge_api_Edge_Level_1_o.L1 k v1 n v4_ v5_ v6_) v6 v4
    else
      chk ((0 : Int) ≤ v4 ∧ (v4 : Int) ≤ ((v6.length : Nat) : Int)) <|
      chk (0 < v6.length ∧ (v4).toNat ≤ v6.length) <|
      let1 (v6.take ((v4).toNat) ++ List.replicate (v6.length - ((v4).toNat)) (api_Edge.mk 0 0 0)) fun v12 =>
      chk ((0 : Int) ≤ v4 ∧ (v4 : Int) ≤ ((v12.length : Nat) : Int)) <|
      some (v12.take ((v4).toNat))
def slices_DeleteFunc_api_Edge_api_Edge_Level_1_o (k : Nat) (v0 : (List api_Edge)) (v1 : Int) : Option (List api_Edge) :=
  bnd1 (slices_IndexFunc_api_Edge_api_Edge_Level_1 k v0 v1) fun v3 =>
  if v3 = (-1) then
    some v0
  else
    slices_DeleteFunc_api_Edge_api_Edge_Level_1_o.L1 k v1 k v3 (IntKind.wrap .i64 (v3 + 1)) v0
def graph_Level_o (k : Nat) (v0 : Int) (v1 : (List api_Edge)) (v2 : (List Int)) (v3 : Int) : Option (Int × (List api_Edge) × (List Int)) :=
  bnd3 (graph_copied_o k v0 v1 v2) fun v7 v8 v9 =>
  bnd1 (slices_DeleteFunc_api_Edge_api_Edge_Level_1_o k v8 v3) fun v10 =>
  some (v7, v10, v9)
def math_bits_Mul64 (k : Nat) (v0 : Int) (v1 : Int) : Option (Int × Int) :=
  some (IntKind.wrap .u64 (IntKind.wrap .u64 (IntKind.wrap .u64 (Int.fdiv v0 (2 ^ (32)) * Int.fdiv v1 (2 ^ (32))) + Int.fdiv (IntKind.wrap .u64 (IntKind.wrap .u64 (Int.fdiv v0 (2 ^ (32)) * bitsV .and .u64 v1 4294967295) + Int.fdiv (IntKind.wrap .u64 (bitsV .and .u64 v0 4294967295 * bitsV .and .u64 v1 4294967295)) (2 ^ (32)))) (2 ^ (32))) + Int.fdiv (IntKind.wrap .u64 (bitsV .and .u64 (IntKind.wrap .u64 (IntKind.wrap .u64 (Int.fdiv v0 (2 ^ (32)) * bitsV .and .u64 v1 4294967295) + Int.fdiv (IntKind.wrap .u64 (bitsV .and .u64 v0 4294967295 * bitsV .and .u64 v1 4294967295)) (2 ^ (32)))) 4294967295 + IntKind.wrap .u64 (bitsV .and .u64 v0 4294967295 * Int.fdiv v1 (2 ^ (32))))) (2 ^ (32))), IntKind.wrap .u64 (v0 * v1))
def math_bits_Mul (k : Nat) (v0 : Int) (v1 : Int) : Option (Int × Int) :=
  bnd2 (math_bits_Mul64 k v0 v1) fun v4 v5 =>
  some (v4, v5)
def slices_Repeat_int_int.L1 (k : Nat) : Nat → Int → (List Int) → Option (List Int)
  | 0, _, _ => none
  | n + 1, v6, v7 =>
    if v6 < (v7.length : Int) then
      chk ((0 : Int) ≤ v6 ∧ (v6 : Int) ≤ ((v7.length : Nat) : Int)) <|
      chk ((0 : Int) ≤ v6 ∧ (v6 : Int) ≤ ((v7.length : Nat) : Int)) <|
      chk (0 < v7.length ∧ (v6).toNat + (v7.length - ((v6).toNat)) ≤ v7.length ∧ 0 + min ((v6).toNat) (v7.length - ((v6).toNat)) ≤ v7.length ∧ ((v7.drop 0).take (min ((v6).toNat) (v7.length - ((v6).toNat)))).length ≤ (v7.length - ((v6).toNat))) <|
      let1 ((v7.take ((v6).toNat) ++ ((v7.drop 0).take (min ((v6).toNat) (v7.length - ((v6).toNat))))) ++ v7.drop ((v6).toNat + ((v7.drop 0).take (min ((v6).toNat) (v7.length - ((v6).toNat)))).length)) fun v8 =>
      slices_Repeat_int_int.L1 k n (IntKind.wrap .i64 (v6 + (((v7.drop 0).take (min ((v6).toNat) (v7.length - ((v6).toNat)))).length : Int))) v8
    else
      some v7
def slices_Repeat_int_int (k : Nat) (v0 : (List Int)) (v1 : Int) : Option (List Int) :=
  if v1 < 0 then
    none
  else
    bnd2 (math_bits_Mul k (IntKind.wrap .u64 (v0.length : Int)) (IntKind.wrap .u64 v1)) fun v3 v4 =>
    if 0 < v3 then
      none
    else
      if 9223372036854775807 < v4 then
        none
      else
        chk ((0 : Int) ≤ (IntKind.wrap .i64 v4) ∧ 16 * (IntKind.wrap .i64 v4) ≤ 281474976710656) <|
        chk (0 < (List.replicate (IntKind.wrap .i64 v4).toNat (0 : Int)).length ∧ 0 + (List.replicate (IntKind.wrap .i64 v4).toNat (0 : Int)).length ≤ (List.replicate (IntKind.wrap .i64 v4).toNat (0 : Int)).length ∧ v0.length ≤ (List.replicate (IntKind.wrap .i64 v4).toNat (0 : Int)).length) <|
        let1 (((List.replicate (IntKind.wrap .i64 v4).toNat (0 : Int)).take 0 ++ v0) ++ (List.replicate (IntKind.wrap .i64 v4).toNat (0 : Int)).drop (0 + v0.length)) fun v5 =>
        slices_Repeat_int_int.L1 k k (v0.length : Int) v5
def distance_start (k : Nat) (v0 : Int) (v1 : (List api_Edge)) (v2 : (List Int)) (v3 : (List Int)) (v4 : Int) : Option Bool :=
  bnd1 (slices_Contains_int_int k v3 v4) fun v6 =>
  if v6 = true then
    bnd1 (slices_Contains_int_int k v2 v4) fun v7 =>
    some (!v7)
  else
    some false
def distance_All_1 (k : Nat) (v0 : Int) (v1 : Int) (v2 : (List api_Edge)) (v3 : (List Int)) (v4 : (List Int)) : Option Bool :=
  bnd1 (distance_start k v1 v2 v3 v4 v0) fun v6 =>
  some v6
def lists_Where_All_1.J2 (k : Nat) (v6 : Int) (kb1 : Int → (List Int) → Option (List Int)) (v8 : (List Int)) : Option (List Int) :=
  kb1 (IntKind.wrap .i64 (v6 + 1)) v8
def lists_Where_All_1.L1 (k : Nat) (v0 : Int) (v1 : Int) (v2 : (List api_Edge)) (v3 : (List Int)) (v4 : (List Int)) : Nat → Int → (List Int) → Option (List Int)
  | 0, _, _ => none
  | n + 1, v6, v7 =>
    if v6 < v0 then
      bnd1 (distance_All_1 k v6 v1 v2 v3 v4) fun v9 =>
      if v9 = true then
        chk ((v7.length + ([v6] : List Int).length) * 8 ≤ 140737488355328) <|
        lists_Where_All_1.J2 k v6 (fun v6_ v7_ => lists_Where_All_1.L1 k v0 v1 v2 v3 v4 n v6_ v7_) (v7 ++ ([v6] : List Int))
      else
        lists_Where_All_1.J2 k v6 (fun v6_ v7_ => lists_Where_All_1.L1 k v0 v1 v2 v3 v4 n v6_ v7_) v7
    else
      some v7
def lists_Where_All_1 (k : Nat) (v0 : Int) (v1 : Int) (v2 : (List api_Edge)) (v3 : (List Int)) (v4 : (List Int)) : Option (List Int) :=
  lists_Where_All_1.L1 k v0 v1 v2 v3 v4 k 0 ([] : List Int)
def math_bits_Len64.J3 (k : Nat) (v6 : Int) (v7 : Int) : Option Int :=
  idx (bI (ByteArray.mk #[0, 1, 2, 2, 3, 3, 3, 3, 4, 4, 4, 4, 4, 4, 4, 4, 5, 5, 5, 5, 5, 5, 5, 5, 5, 5, 5, 5, 5, 5, 5, 5, 6, 6, 6, 6, 6, 6, 6, 6, 6, 6, 6, 6, 6, 6, 6, 6, 6, 6, 6, 6, 6, 6, 6, 6, 6, 6, 6, 6, 6, 6, 6, 6, 7, 7, 7, 7, 7, 7, 7, 7, 7, 7, 7, 7, 7, 7, 7, 7, 7, 7, 7, 7, 7, 7, 7, 7, 7, 7, 7, 7, 7, 7, 7, 7, 7, 7, 7, 7, 7, 7, 7, 7, 7, 7, 7, 7, 7, 7, 7, 7, 7, 7, 7, 7, 7, 7, 7, 7, 7, 7, 7, 7, 7, 7, 7, 7, 8, 8, 8, 8, 8, 8, 8, 8, 8, 8, 8, 8, 8, 8, 8, 8, 8, 8, 8, 8, 8, 8, 8, 8, 8, 8, 8, 8, 8, 8, 8, 8, 8, 8, 8, 8, 8, 8, 8, 8, 8, 8, 8, 8, 8, 8, 8, 8, 8, 8, 8, 8, 8, 8, 8, 8, 8, 8, 8, 8, 8, 8, 8, 8, 8, 8, 8, 8, 8, 8, 8, 8, 8, 8, 8, 8, 8, 8, 8, 8, 8, 8, 8, 8, 8, 8, 8, 8, 8, 8, 8, 8, 8, 8, 8, 8, 8, 8, 8, 8, 8, 8, 8, 8, 8, 8, 8, 8, 8, 8, 8, 8, 8, 8, 8, 8, 8, 8, 8, 8, 8, 8, 8, 8, 8, 8, 8, 8])) (IntKind.wrap .u8 v6) fun v8 =>
  some (IntKind.wrap .i64 (v7 + IntKind.wrap .i64 v8))
def math_bits_Len64.J2 (k : Nat) (v4 : Int) (v5 : Int) : Option Int :=
  if 256 ≤ v4 then
    math_bits_Len64.J3 k (Int.fdiv v4 (2 ^ (8))) (IntKind.wrap .i64 (v5 + 8))
  else
    math_bits_Len64.J3 k v4 v5
def math_bits_Len64.J1 (k : Nat) (v2 : Int) (v3 : Int) : Option Int :=
  if 65536 ≤ v2 then
    math_bits_Len64.J2 k (Int.fdiv v2 (2 ^ (16))) (IntKind.wrap .i64 (v3 + 16))
  else
    math_bits_Len64.J2 k v2 v3
def math_bits_Len64 (k : Nat) (v0 : Int) : Option Int :=
  if 4294967296 ≤ v0 then
    math_bits_Len64.J1 k (Int.fdiv v0 (2 ^ (32))) 32
  else
    math_bits_Len64.J1 k v0 0
def math_bits_Len (k : Nat) (v0 : Int) : Option Int :=
  bnd1 (math_bits_Len64 k v0) fun v2 =>
  some v2
def cmp_Less_int (k : Nat) (v0 : Int) (v1 : Int) : Option Bool :=
  bnd1 (cmp_isNaN_int k v0) fun v3 =>
  if v3 = true then
    bnd1 (cmp_isNaN_int k v1) fun v4 =>
    if (!v4) = true then
      some true
    else
      some (decide (v0 < v1))
  else
    some (decide (v0 < v1))
def slices_insertionSortOrdered_int.J2 (k : Nat) (v4 : Int) (kb1 : Int → (List Int) → Option (List Int)) (v6 : (List Int)) : Option (List Int) :=
  kb1 (IntKind.wrap .i64 (v4 + 1)) v6
def slices_insertionSortOrdered_int.L3 (k : Nat) (v1 : Int) (v4 : Int) (kb1 : Int → (List Int) → Option (List Int)) : Nat → Int → (List Int) → Option (List Int)
  | 0, _, _ => none
  | n + 1, v7, v8 =>
    if v1 < v7 then
      chk ((0 : Int) ≤ v7 ∧ (v7).toNat < v8.length) <|
      idx v8 v7 fun v9 =>
      chk ((0 : Int) ≤ (IntKind.wrap .i64 (v7 - 1)) ∧ (IntKind.wrap .i64 (v7 - 1)).toNat < v8.length) <|
      idx v8 (IntKind.wrap .i64 (v7 - 1)) fun v10 =>
      bnd1 (cmp_Less_int k v9 v10) fun v11 =>
      if v11 = true then
        chk ((0 : Int) ≤ (IntKind.wrap .i64 (v7 - 1)) ∧ (IntKind.wrap .i64 (v7 - 1)).toNat < v8.length) <|
        chk ((0 : Int) ≤ v7 ∧ (v7).toNat < v8.length) <|
        chk ((0 : Int) ≤ v7 ∧ (v7).toNat < v8.length) <|
        chk ((0 : Int) ≤ (IntKind.wrap .i64 (v7 - 1)) ∧ (IntKind.wrap .i64 (v7 - 1)).toNat < (v8.set (v7).toNat v10).length) <|
        slices_insertionSortOrdered_int.L3 k v1 v4 kb1 n (IntKind.wrap .i64 (v7 - 1)) ((v8.set (v7).toNat v10).set (IntKind.wrap .i64 (v7 - 1)).toNat v9)
      else
        slices_insertionSortOrdered_int.J2 k v4 kb1 v8
    else
      slices_insertionSortOrdered_int.J2 k v4 kb1 v8
def slices_insertionSortOrdered_int.L1 (k : Nat) (v1 : Int) (v2 : Int) : Nat → Int → (List Int) → Option (List Int)
  | 0, _, _ => none
  | n + 1, v4, v5 =>
    if v4 < v2 then
      slices_insertionSortOrdered_int.L3 k v1 v4 (fun v4_ v5_ => slices_insertionSortOrdered_int.L1 k v1 v2 n v4_ v5_) k v4 v5
    else
      some v5
def slices_insertionSortOrdered_int (k : Nat) (v0 : (List Int)) (v1 : Int) (v2 : Int) : Option (List Int) :=
  slices_insertionSortOrdered_int.L1 k v1 v2 k (IntKind.wrap .i64 (v1 + 1)) v0
def slices_pdqsortOrdered_int.L1 (k : Nat) (v0 : (List Int)) (v1 : Int) (v2 : Int) (v3 : Int) : Nat → Option (List Int)
  | 0 => none
  | n + 1 =>
    if IntKind.wrap .i64 (v2 - v1) ≤ 12 then
      bnd1 (slices_insertionSortOrdered_int k v0 v1 v2) fun v5 =>
      chk (v5.length = v0.length) <|
      some v5
    else
      if v3 = 0 then
        none
      else
        none
def slices_pdqsortOrdered_int (k : Nat) (v0 : (List Int)) (v1 : Int) (v2 : Int) (v3 : Int) : Option (List Int) :=
  slices_pdqsortOrdered_int.L1 k v0 v1 v2 v3 k
def slices_Sort_int_int (k : Nat) (v0 : (List Int)) : Option (List Int) :=
  bnd1 (math_bits_Len k (IntKind.wrap .u64 (v0.length : Int))) fun v2 =>
  bnd1 (slices_pdqsortOrdered_int k v0 0 (v0.length : Int) v2) fun v3 =>
  chk (v3.length = v0.length) <|
  some v3
def graph_Out.J2 (k : Nat) (v5 : Int) (kb1 : Int → (List Int) → Option (List Int)) (v7 : (List Int)) : Option (List Int) :=
  kb1 (IntKind.wrap .i64 (v5 + 1)) v7
def graph_Out.L1 (k : Nat) (v1 : (List api_Edge)) (v3 : Int) : Nat → Int → (List Int) → Option (List Int)
  | 0, _, _ => none
  | n + 1, v5, v6 =>
    if v5 < (v1.length : Int) then
      idx v1 v5 fun v8 =>
      if v8.From = v3 then
        chk ((v6.length + ([v8.To] : List Int).length) * 8 ≤ 140737488355328) <|
        graph_Out.J2 k v5 (fun v5_ v6_ => graph_Out.L1 k v1 v3 n v5_ v6_) (v6 ++ ([v8.To] : List Int))
      else
        graph_Out.J2 k v5 (fun v5_ v6_ => graph_Out.L1 k v1 v3 n v5_ v6_) v6
    else
      bnd1 (slices_Sort_int_int k v6) fun v9 =>
      chk (v9.length = v6.length) <|
      some v9
def graph_Out (k : Nat) (v0 : Int) (v1 : (List api_Edge)) (v2 : (List Int)) (v3 : Int) : Option (List Int) :=
  graph_Out.L1 k v1 v3 k 0 ([] : List Int)
def distance_All_2 (k : Nat) (v0 : Int) (v1 : (List Int)) : Option Bool :=
  bnd1 (lists_In k v0 0 (IntKind.wrap .i64 ((v1.length : Int) - 1))) fun v3 =>
  if (!v3) = true then
    some true
  else
    chk ((0 : Int) ≤ v0 ∧ (v0).toNat < v1.length) <|
    idx v1 v0 fun v4 =>
    some (decide (0 ≤ v4))
def slices_IndexFunc_int_int_All_2.L1 (k : Nat) (v0 : (List Int)) (v1 : (List Int)) : Nat → Int → Option Int
  | 0, _ => none
  | n + 1, v3 =>
    if v3 < (v0.length : Int) then
      idx v0 v3 fun v4 =>
      bnd1 (distance_All_2 k v4 v1) fun v5 =>
      if v5 = true then
        some v3
      else
        slices_IndexFunc_int_int_All_2.L1 k v0 v1 n (IntKind.wrap .i64 (v3 + 1))
    else
      some (-1)
def slices_IndexFunc_int_int_All_2 (k : Nat) (v0 : (List Int)) (v1 : (List Int)) : Option Int :=
  slices_IndexFunc_int_int_All_2.L1 k v0 v1 k 0
def slices_DeleteFunc_int_int_All_2.J2 (k : Nat) (v5 : Int) (kb1 : Int → Int → (List Int) → Option (List Int)) (v7 : (List Int)) (v8 : Int) : Option (List Int) :=
  kb1 v8 (IntKind.wrap .i64 (v5 + 1)) v7
def slices_DeleteFunc_int_int_All_2.L1 (k : Nat) (v1 : (List Int)) : Nat → Int → Int → (List Int) → Option (List Int)
  | 0, _, _, _ => none
  | n + 1, v4, v5, v6 =>
    if v5 < (v6.length : Int) then
      chk ((0 : Int) ≤ v5 ∧ (v5).toNat < v6.length) <|
      idx v6 v5 fun v9 =>
      bnd1 (distance_All_2 k v9 v1) fun v10 =>
      if (!v10) = true then
        chk ((0 : Int) ≤ v4 ∧ (v4).toNat < v6.length) <|
        slices_DeleteFunc_int_int_All_2.J2 k v5 (fun v4_ v5_ v6_ => slices_DeleteFunc_int_int_All_2.L1 k v1 n v4_ v5_ v6_) (v6.set (v4).toNat v9) (IntKind.wrap .i64 (v4 + 1))
      else
        slices_DeleteFunc_int_int_All_2.J2 k v5 (fun v4_ v5_ v6_ => slices_DeleteFunc_int_int_All_2.L1 k v1 n v4_ v5_ v6_) v6 v4
    else
      chk ((0 : Int) ≤ v4 ∧ (v4 : Int) ≤ ((v6.length : Nat) : Int)) <|
      chk (0 < v6.length ∧ (v4).toNat ≤ v6.length) <|
      let1 (v6.take ((v4).toNat) ++ List.replicate (v6.length - ((v4).toNat)) 0) fun v11 =>
      chk ((0 : Int) ≤ v4 ∧ (v4 : Int) ≤ ((v11.length : Nat) : Int)) <|
      some (v11.take ((v4).toNat))
def slices_DeleteFunc_int_int_All_2 (k : Nat) (v0 : (List Int)) (v1 : (List Int)) : Option (List Int) :=
  bnd1 (slices_IndexFunc_int_int_All_2 k v0 v1) fun v3 =>
  if v3 = (-1) then
    some v0
  else
    slices_DeleteFunc_int_int_All_2.L1 k v1 k v3 (IntKind.wrap .i64 (v3 + 1)) v0
def distance_All.J3 (k : Nat) (v11 : Int) (kb2 : Int → (List Int) → (List Int) → Option (List Int)) (v14 : (List Int)) (v15 : (List Int)) : Option (List Int) :=
  kb2 (IntKind.wrap .i64 (v11 + 1)) v14 v15
def distance_All.L2 (k : Nat) (v0 : Int) (v1 : (List api_Edge)) (v2 : (List Int)) (v8 : (List Int)) (v9 : Int) (kb1 : (List Int) → Int → (List Int) → Option (List Int)) : Nat → Int → (List Int) → (List Int) → Option (List Int)
  | 0, _, _, _ => none
  | n + 1, v11, v12, v13 =>
    if v11 < (v8.length : Int) then
      idx v8 v11 fun v16 =>
      chk ((0 : Int) ≤ v16 ∧ (v16).toNat < v12.length) <|
      idx v12 v16 fun v17 =>
      if 0 ≤ v17 then
        distance_All.J3 k v11 (fun v11_ v12_ v13_ => distance_All.L2 k v0 v1 v2 v8 v9 kb1 n v11_ v12_ v13_) v12 v13
      else
        chk ((0 : Int) ≤ v16 ∧ (v16).toNat < v12.length) <|
        bnd1 (graph_Out k v0 v1 v2 v16) fun v18 =>
        chk ((v13.length + v18.length) * 8 ≤ 140737488355328) <|
        distance_All.J3 k v11 (fun v11_ v12_ v13_ => distance_All.L2 k v0 v1 v2 v8 v9 kb1 n v11_ v12_ v13_) (v12.set (v16).toNat v9) (v13 ++ v18)
    else
      bnd1 (slices_DeleteFunc_int_int_All_2 k v13 v12) fun v19 =>
      kb1 v19 (IntKind.wrap .i64 (v9 + 1)) v12
def distance_All.L1 (k : Nat) (v0 : Int) (v1 : (List api_Edge)) (v2 : (List Int)) : Nat → (List Int) → Int → (List Int) → Option (List Int)
  | 0, _, _, _ => none
  | n + 1, v8, v9, v10 =>
    if 0 < (v8.length : Int) then
      distance_All.L2 k v0 v1 v2 v8 v9 (fun v8_ v9_ v10_ => distance_All.L1 k v0 v1 v2 n v8_ v9_ v10_) k 0 v10 ([] : List Int)
    else
      some v10
def distance_All (k : Nat) (v0 : Int) (v1 : (List api_Edge)) (v2 : (List Int)) (v3 : (List Int)) : Option (List Int) :=
  let1 (if 0 < v0 then v0 else 0) fun v5 =>
  bnd1 (slices_Repeat_int_int k ([-1] : List Int) v5) fun v6 =>
  bnd1 (lists_Where_All_1 k v0 v0 v1 v2 v3) fun v7 =>
  distance_All.L1 k v0 v1 v2 k v7 0 v6
def capacity_Of (k : Nat) (v0 : (List Int)) (v1 : (List Int)) (v2 : Int) (v3 : Int) : Option Int :=
  if v3 < 0 then
    some 0
  else
    if v3 < (v1.length : Int) then
      idx v1 v3 fun v5 =>
      some v5
    else
      some 1
def capacity_All.L1 (k : Nat) (v3 : (List Int)) (v4 : (List Int)) (v5 : Int) (v10 : (List Int)) : Nat → Int → (List Int) → Option (List Int)
  | 0, _, _ => none
  | n + 1, v11, v12 =>
    if v11 < (v10.length : Int) then
      chk ((0 : Int) ≤ v11 ∧ (v11).toNat < v12.length) <|
      idx v12 v11 fun v13 =>
      bnd1 (capacity_Of k v3 v4 v5 v13) fun v14 =>
      chk ((0 : Int) ≤ v11 ∧ (v11).toNat < v12.length) <|
      capacity_All.L1 k v3 v4 v5 v10 n (IntKind.wrap .i64 (v11 + 1)) (v12.set (v11).toNat v14)
    else
      some v12
def capacity_All (k : Nat) (v0 : Int) (v1 : (List api_Edge)) (v2 : (List Int)) (v3 : (List Int)) (v4 : (List Int)) (v5 : Int) : Option (List Int) :=
  bnd3 (graph_Level_o k v0 v1 v2 v5) fun v7 v8 v9 =>
  bnd1 (distance_All k v7 v8 v9 v3) fun v10 =>
  capacity_All.L1 k v3 v4 v5 v10 k 0 v10
def split_Network_1 (k : Nat) (v0 : Int) (v1 : Int) (v2 : Int) (v3 : Int) (v4 : (List api_Arc)) : Option (List api_Arc) :=
  chk ((v4.length + ([(api_Arc.mk v0 v1 v2)] : List api_Arc).length) * 24 ≤ 140737488355328) <|
  some (v4 ++ ([(api_Arc.mk v0 v1 v2)] : List api_Arc))
def split_Exit (k : Nat) (v0 : Int) : Option Int :=
  bnd1 (split_Entry k v0) fun v2 =>
  some (IntKind.wrap .i64 (v2 + 1))
def split_Network.J2 (k : Nat) (v14 : Int) (kb1 : Int → (List api_Arc) → Option (Int × (List api_Arc) × Int)) (v16 : (List api_Arc)) : Option (Int × (List api_Arc) × Int) :=
  kb1 (IntKind.wrap .i64 (v14 + 1)) v16
def split_Network.J4 (k : Nat) (v21 : Int) (kb3 : Int → (List api_Arc) → Option (Int × (List api_Arc) × Int)) (v23 : (List api_Arc)) : Option (Int × (List api_Arc) × Int) :=
  kb3 (IntKind.wrap .i64 (v21 + 1)) v23
def split_Network.J6 (k : Nat) (v28 : Int) (kb5 : Int → (List api_Arc) → Option (Int × (List api_Arc) × Int)) (v30 : (List api_Arc)) : Option (Int × (List api_Arc) × Int) :=
  kb5 (IntKind.wrap .i64 (v28 + 1)) v30
def split_Network.J8 (k : Nat) (v38 : Int) (kb7 : Int → (List api_Arc) → Option (Int × (List api_Arc) × Int)) (v40 : (List api_Arc)) : Option (Int × (List api_Arc) × Int) :=
  kb7 (IntKind.wrap .i64 (v38 + 1)) v40
def split_Network.L7 (k : Nat) (v12 : Int) (v13 : (List Int)) (v36 : (List api_Edge)) : Nat → Int → (List api_Arc) → Option (Int × (List api_Arc) × Int)
  | 0, _, _ => none
  | n + 1, v38, v39 =>
    if v38 < (v36.length : Int) then
      idx v36 v38 fun v41 =>
      idx v13 v41.From fun v42 =>
      if 0 < v42 then
        bnd1 (split_Exit k v41.From) fun v43 =>
        bnd1 (split_Entry k v41.To) fun v44 =>
        bnd1 (split_Network_1 k v43 v44 64 v12 v39) fun v45 =>
        split_Network.J8 k v38 (fun v38_ v39_ => split_Network.L7 k v12 v13 v36 n v38_ v39_) v45
      else
        split_Network.J8 k v38 (fun v38_ v39_ => split_Network.L7 k v12 v13 v36 n v38_ v39_) v39
    else
      some (v12, v39, 0)
def split_Network.L5 (k : Nat) (v0 : Int) (v1 : (List api_Edge)) (v2 : (List Int)) (v5 : Int) (v6 : (List Int)) (v12 : Int) (v13 : (List Int)) : Nat → Int → (List api_Arc) → Option (Int × (List api_Arc) × Int)
  | 0, _, _ => none
  | n + 1, v28, v29 =>
    if v28 < (v6.length : Int) then
      idx v6 v28 fun v31 =>
      idx v13 v31 fun v32 =>
      if 0 < v32 then
        bnd1 (split_Entry k v31) fun v33 =>
        bnd1 (split_Network_1 k v33 1 1 v12 v29) fun v34 =>
        split_Network.J6 k v28 (fun v28_ v29_ => split_Network.L5 k v0 v1 v2 v5 v6 v12 v13 n v28_ v29_) v34
      else
        split_Network.J6 k v28 (fun v28_ v29_ => split_Network.L5 k v0 v1 v2 v5 v6 v12 v13 n v28_ v29_) v29
    else
      bnd3 (graph_Level_o k v0 v1 v2 v5) fun v35 v36 v37 =>
      split_Network.L7 k v12 v13 v36 k 0 v29
def split_Network.L3 (k : Nat) (v0 : Int) (v1 : (List api_Edge)) (v2 : (List Int)) (v5 : Int) (v6 : (List Int)) (v12 : Int) (v13 : (List Int)) : Nat → Int → (List api_Arc) → Option (Int × (List api_Arc) × Int)
  | 0, _, _ => none
  | n + 1, v21, v22 =>
    if v21 < (v13.length : Int) then
      idx v13 v21 fun v24 =>
      if 0 < v24 then
        bnd1 (split_Entry k v21) fun v25 =>
        bnd1 (split_Exit k v21) fun v26 =>
        bnd1 (split_Network_1 k v25 v26 (IntKind.wrap .i64 (v24 - 1)) v12 v22) fun v27 =>
        split_Network.J4 k v21 (fun v21_ v22_ => split_Network.L3 k v0 v1 v2 v5 v6 v12 v13 n v21_ v22_) v27
      else
        split_Network.J4 k v21 (fun v21_ v22_ => split_Network.L3 k v0 v1 v2 v5 v6 v12 v13 n v21_ v22_) v22
    else
      split_Network.L5 k v0 v1 v2 v5 v6 v12 v13 k 0 v22
def split_Network.L1 (k : Nat) (v0 : Int) (v1 : (List api_Edge)) (v2 : (List Int)) (v3 : (List Int)) (v5 : Int) (v6 : (List Int)) (v12 : Int) (v13 : (List Int)) : Nat → Int → (List api_Arc) → Option (Int × (List api_Arc) × Int)
  | 0, _, _ => none
  | n + 1, v14, v15 =>
    if v14 < (v3.length : Int) then
      idx v3 v14 fun v17 =>
      idx v13 v17 fun v18 =>
      if 0 < v18 then
        bnd1 (split_Entry k v17) fun v19 =>
        bnd1 (split_Network_1 k 0 v19 v18 v12 v15) fun v20 =>
        split_Network.J2 k v14 (fun v14_ v15_ => split_Network.L1 k v0 v1 v2 v3 v5 v6 v12 v13 n v14_ v15_) v20
      else
        split_Network.J2 k v14 (fun v14_ v15_ => split_Network.L1 k v0 v1 v2 v3 v5 v6 v12 v13 n v14_ v15_) v15
    else
      split_Network.L3 k v0 v1 v2 v5 v6 v12 v13 k 0 v15
def split_Network (k : Nat) (v0 : Int) (v1 : (List api_Edge)) (v2 : (List Int)) (v3 : (List Int)) (v4 : (List Int)) (v5 : Int) (v6 : (List Int)) : Option (Int × (List api_Arc) × Int) :=
  bnd1 (capacity_Check k v0 v1 v2 v3 v4 v5) fun v10 =>
  if v10 ≠ 0 then
    some (0, ([] : List api_Arc), v10)
  else
    bnd1 (lists_Rising k v6 0 (IntKind.wrap .i64 (v0 - 1))) fun v11 =>
    if (!v11) = true then
      some (0, ([] : List api_Arc), 4)
    else
      bnd1 (split_Entry k v0) fun v12 =>
      bnd1 (capacity_All k v0 v1 v2 v3 v4 v5) fun v13 =>
      split_Network.L1 k v0 v1 v2 v3 v5 v6 v12 v13 k 0 ([] : List api_Arc)
def law14_awake (k : Nat) : Option Bool :=
  bnd3 (split_Network k 2 ([(api_Edge.mk 0 1 1)] : List api_Edge) ([] : List Int) ([0] : List Int) ([3, 2] : List Int) 1 ([0, 1] : List Int)) fun v1 v2 v3 =>
  if v3 = 0 then
    if v1 = 6 then
      if (v2.length : Int) = 6 then
        idx v2 0 fun v4 =>
        let1 (((v4.From == 0) && ((v4.To == 2) && (v4.Cap == 3)))) fun v5 =>
        if v5 = true then
          idx v2 5 fun v6 =>
          let1 (((v6.From == 3) && ((v6.To == 4) && (v6.Cap == 64)))) fun v7 =>
          if v7 = true then
            bnd1 (split_Entry k 1) fun v8 =>
            if v8 = 4 then
              bnd1 (split_Exit k 1) fun v9 =>
              some (v9 == 5)
            else
              some false
          else
            some false
        else
          some false
      else
        some false
    else
      some false
  else
    some false
def made_Roll (k : Nat) (v0 : (List Int)) : Option ((List Int) × Int) :=
  some (v0, 0)
def made_Mod.J1 (k : Nat) (v3 : Int) : Option Int :=
  some v3
def made_Mod (k : Nat) (v0 : Int) (v1 : Int) : Option Int :=
  if v1 < 1 then
    some 0
  else
    chk (v1 ≠ (0 : Int)) <|
    if Int.tmod v0 v1 < 0 then
      made_Mod.J1 k (IntKind.wrap .i64 (Int.tmod v0 v1 + v1))
    else
      made_Mod.J1 k (Int.tmod v0 v1)
def made_Dice_Next (k : Nat) (v0 : (List Int)) (v1 : Int) (v2 : Int) : Option (Int × Int) :=
  if (v0.length : Int) ≤ v1 then
    some (0, v1)
  else
    idx v0 (IntKind.wrap .i64 (IntKind.wrap .i64 (v1 + 1) - 1)) fun v5 =>
    bnd1 (made_Mod k v5 v2) fun v6 =>
    some (v6, IntKind.wrap .i64 (v1 + 1))
def made_Dice_One (k : Nat) (v0 : (List Int)) (v1 : Int) (v2 : Int) : Option (Bool × Int) :=
  bnd2 (made_Dice_Next k v0 v1 v2) fun v5 v6 =>
  some ((v5 == (IntKind.wrap .i64 (v2 - 1))), v6)
def ref11_Set.J2 (k : Nat) (v3 : Int) (kb1 : Int → Option Bool) : Option Bool :=
  kb1 (IntKind.wrap .i64 (v3 + 1))
def ref11_Set.L1 (k : Nat) (v0 : (List Int)) (v1 : Int) : Nat → Int → Option Bool
  | 0, _ => none
  | n + 1, v3 =>
    if v3 < (v0.length : Int) then
      idx v0 v3 fun v4 =>
      if v4 < 0 then
        some false
      else
        if v1 ≤ v4 then
          some false
        else
          if 0 < v3 then
            idx v0 (IntKind.wrap .i64 (v3 - 1)) fun v5 =>
            if v4 ≤ v5 then
              some false
            else
              ref11_Set.J2 k v3 (fun v3_ => ref11_Set.L1 k v0 v1 n v3_)
          else
            ref11_Set.J2 k v3 (fun v3_ => ref11_Set.L1 k v0 v1 n v3_)
    else
      some true
def ref11_Set (k : Nat) (v0 : (List Int)) (v1 : Int) : Option Bool :=
  ref11_Set.L1 k v0 v1 k 0
def ref11_Has.L1 (k : Nat) (v0 : (List Int)) (v1 : Int) : Nat → Int → Option Bool
  | 0, _ => none
  | n + 1, v3 =>
    if v3 < (v0.length : Int) then
      idx v0 v3 fun v4 =>
      if v4 = v1 then
        some true
      else
        ref11_Has.L1 k v0 v1 n (IntKind.wrap .i64 (v3 + 1))
    else
      some false
def ref11_Has (k : Nat) (v0 : (List Int)) (v1 : Int) : Option Bool :=
  ref11_Has.L1 k v0 v1 k 0
def ref11_before (k : Nat) (v0 : Int) (v1 : Int) (v2 : Int) (v3 : Int) (v4 : Int) (v5 : Int) : Option Bool :=
  if v0 < v3 then
    some true
  else
    if v0 = v3 then
      some (decide (v1 < v4))
    else
      some false
def ref11_Check.J2 (k : Nat) (v5 : Int) (kb1 : Int → Option Int) (v7 : Bool) : Option Int :=
  if v7 = true then
    some 14
  else
    kb1 (IntKind.wrap .i64 (v5 + 1))
def ref11_Check.L1 (k : Nat) (v0 : Int) (v1 : (List api_Edge)) (v2 : (List Int)) : Nat → Int → Option Int
  | 0, _ => none
  | n + 1, v5 =>
    if v5 < (v1.length : Int) then
      idx v1 v5 fun v6 =>
      if v6.From < 0 then
        some 14
      else
        if v0 ≤ v6.From then
          some 14
        else
          if v6.To < 0 then
            some 14
          else
            if v0 ≤ v6.To then
              some 14
            else
              if v6.From = v6.To then
                some 14
              else
                if v6.Level < 1 then
                  some 14
                else
                  if 3 < v6.Level then
                    some 14
                  else
                    if 0 < v5 then
                      idx v1 (IntKind.wrap .i64 (v5 - 1)) fun v8 =>
                      bnd1 (ref11_before k v8.From v8.To v8.Level v6.From v6.To v6.Level) fun v9 =>
                      if (!v9) = true then
                        ref11_Check.J2 k v5 (fun v5_ => ref11_Check.L1 k v0 v1 v2 n v5_) true
                      else
                        bnd1 (ref11_Has k v2 v6.From) fun v10 =>
                        if v10 = true then
                          ref11_Check.J2 k v5 (fun v5_ => ref11_Check.L1 k v0 v1 v2 n v5_) true
                        else
                          bnd1 (ref11_Has k v2 v6.To) fun v11 =>
                          ref11_Check.J2 k v5 (fun v5_ => ref11_Check.L1 k v0 v1 v2 n v5_) v11
                    else
                      bnd1 (ref11_Has k v2 v6.From) fun v12 =>
                      if v12 = true then
                        ref11_Check.J2 k v5 (fun v5_ => ref11_Check.L1 k v0 v1 v2 n v5_) true
                      else
                        bnd1 (ref11_Has k v2 v6.To) fun v13 =>
                        ref11_Check.J2 k v5 (fun v5_ => ref11_Check.L1 k v0 v1 v2 n v5_) v13
    else
      some 0
def ref11_Check (k : Nat) (v0 : Int) (v1 : (List api_Edge)) (v2 : (List Int)) : Option Int :=
  if v0 < 0 then
    some 14
  else
    if 64 < v0 then
      some 14
    else
      if 500 < (v1.length : Int) then
        some 14
      else
        bnd1 (ref11_Set k v2 v0) fun v4 =>
        if (!v4) = true then
          some 14
        else
          ref11_Check.L1 k v0 v1 v2 k 0
def ref11_index.J1 (k : Nat) (v1 : (List api_Edge)) (v3 : Int) (v4 : Int) (v7 : Int) : Option (Int × Bool) :=
  if v7 < (v1.length : Int) then
    idx v1 v7 fun v8 =>
    if v8.From = v3 then
      some (v7, (v8.To == v4))
    else
      some (v7, false)
  else
    some (v7, false)
def ref11_index.L2 (k : Nat) (v1 : (List api_Edge)) (v3 : Int) (v4 : Int) : Nat → Int → Option (Int × Bool)
  | 0, _ => none
  | n + 1, v9 =>
    if v9 < (v1.length : Int) then
      idx v1 v9 fun v10 =>
      bnd1 (ref11_before k v10.From v10.To v10.Level v3 v4 0) fun v11 =>
      if v11 = true then
        ref11_index.L2 k v1 v3 v4 n (IntKind.wrap .i64 (v9 + 1))
      else
        ref11_index.J1 k v1 v3 v4 v9
    else
      ref11_index.J1 k v1 v3 v4 v9
def ref11_index (k : Nat) (v0 : Int) (v1 : (List api_Edge)) (v2 : (List Int)) (v3 : Int) (v4 : Int) : Option (Int × Bool) :=
  ref11_index.L2 k v1 v3 v4 k 0
def ref11_Copy_o (k : Nat) (v0 : Int) (v1 : (List api_Edge)) (v2 : (List Int)) : Option (Int × (List api_Edge) × (List Int)) :=
  chk (v1.length * 24 ≤ 140737488355328) <|
  chk (v2.length * 8 ≤ 140737488355328) <|
  some (v0, v1, v2)
def ref11_With_o (k : Nat) (v0 : Int) (v1 : (List api_Edge)) (v2 : (List Int)) (v3 : Int) (v4 : Int) (v5 : Int) : Option (Int × (List api_Edge) × (List Int) × Int) :=
  bnd1 (ref11_Check k v0 v1 v2) fun v10 =>
  if v10 ≠ 0 then
    some (0, ([] : List api_Edge), ([] : List Int), 14)
  else
    bnd2 (ref11_index k v0 v1 v2 v3 v4) fun v11 v12 =>
    if v3 < 0 then
      some (0, ([] : List api_Edge), ([] : List Int), 4)
    else
      if v0 ≤ v3 then
        some (0, ([] : List api_Edge), ([] : List Int), 4)
      else
        if v4 < 0 then
          some (0, ([] : List api_Edge), ([] : List Int), 4)
        else
          if v0 ≤ v4 then
            some (0, ([] : List api_Edge), ([] : List Int), 4)
          else
            if v3 = v4 then
              some (0, ([] : List api_Edge), ([] : List Int), 4)
            else
              bnd1 (ref11_Has k v2 v3) fun v13 =>
              if v13 = true then
                some (0, ([] : List api_Edge), ([] : List Int), 4)
              else
                bnd1 (ref11_Has k v2 v4) fun v14 =>
                if v14 = true then
                  some (0, ([] : List api_Edge), ([] : List Int), 4)
                else
                  if v5 < 1 then
                    some (0, ([] : List api_Edge), ([] : List Int), 2)
                  else
                    if 3 < v5 then
                      some (0, ([] : List api_Edge), ([] : List Int), 2)
                    else
                      if v12 = true then
                        some (0, ([] : List api_Edge), ([] : List Int), 19)
                      else
                        if (v1.length : Int) = 500 then
                          some (0, ([] : List api_Edge), ([] : List Int), 3)
                        else
                          bnd3 (ref11_Copy_o k v0 v1 v2) fun v15 v16 v17 =>
                          chk ((0 : Int) ≤ v11 ∧ (v11 : Int) ≤ (v1.length : Int)) <|
                          chk ((v1.take (v11).toNat).length * 24 ≤ 140737488355328) <|
                          chk (((v1.take (v11).toNat).length + ([(api_Edge.mk v3 v4 v5)] : List api_Edge).length) * 24 ≤ 140737488355328) <|
                          chk ((0 : Int) ≤ v11 ∧ (v11 : Int) ≤ (v1.length : Int)) <|
                          chk ((((v1.take (v11).toNat) ++ ([(api_Edge.mk v3 v4 v5)] : List api_Edge)).length + (v1.drop (v11).toNat).length) * 24 ≤ 140737488355328) <|
                          some (v15, ((v1.take (v11).toNat) ++ ([(api_Edge.mk v3 v4 v5)] : List api_Edge)) ++ (v1.drop (v11).toNat), v17, 0)
def made_Dice_Graph_o.J4 (k : Nat) (v13 : Int) (kb3 : Int → Int → Int → (List api_Edge) → (List Int) → Option (Int × (List api_Edge) × (List Int) × Int)) (v18 : Int) (v19 : Int) (v20 : (List api_Edge)) (v21 : (List Int)) : Option (Int × (List api_Edge) × (List Int) × Int) :=
  kb3 (IntKind.wrap .i64 (v13 - 1)) v18 v19 v20 v21
def made_Dice_Graph_o.L3 (k : Nat) (v0 : (List Int)) : Nat → Int → Int → Int → (List api_Edge) → (List Int) → Option (Int × (List api_Edge) × (List Int) × Int)
  | 0, _, _, _, _, _ => none
  | n + 1, v13, v14, v15, v16, v17 =>
    if 0 < v13 then
      bnd2 (made_Dice_Next k v0 v14 v15) fun v22 v23 =>
      bnd2 (made_Dice_Next k v0 v23 v15) fun v24 v25 =>
      bnd2 (made_Dice_Next k v0 v25 3) fun v26 v27 =>
      bnd4 (ref11_With_o k v15 v16 v17 v22 v24 (IntKind.wrap .i64 (1 + v26))) fun v28 v29 v30 v31 =>
      if v31 = 0 then
        made_Dice_Graph_o.J4 k v13 (fun v13_ v14_ v15_ v16_ v17_ => made_Dice_Graph_o.L3 k v0 n v13_ v14_ v15_ v16_ v17_) v27 v28 v29 v30
      else
        made_Dice_Graph_o.J4 k v13 (fun v13_ v14_ v15_ v16_ v17_ => made_Dice_Graph_o.L3 k v0 n v13_ v14_ v15_ v16_ v17_) v27 v15 v16 v17
    else
      some (v15, v16, v17, v14)
def made_Dice_Graph_o.J2 (k : Nat) (v0 : (List Int)) (v8 : Int) (v9 : Int) (v10 : (List Int)) : Option (Int × (List api_Edge) × (List Int) × Int) :=
  bnd2 (made_Dice_Next k v0 v9 23) fun v11 v12 =>
  made_Dice_Graph_o.L3 k v0 k v11 v12 v8 ([] : List api_Edge) v10
def made_Dice_Graph_o.J1 (k : Nat) (v0 : (List Int)) (v7 : Int) (v8 : Int) : Option (Int × (List api_Edge) × (List Int) × Int) :=
  bnd2 (made_Dice_One k v0 v7 8) fun v32 v33 =>
  if v32 = true then
    bnd2 (made_Dice_Next k v0 v33 v8) fun v34 v35 =>
    made_Dice_Graph_o.J2 k v0 v8 v35 ([v34] : List Int)
  else
    made_Dice_Graph_o.J2 k v0 v8 v33 ([] : List Int)
def made_Dice_Graph_o (k : Nat) (v0 : (List Int)) (v1 : Int) : Option (Int × (List api_Edge) × (List Int) × Int) :=
  bnd2 (made_Dice_Next k v0 v1 8) fun v6 v7 =>
  if (v0.length : Int) = 0 then
    made_Dice_Graph_o.J1 k v0 v7 4
  else
    made_Dice_Graph_o.J1 k v0 v7 (IntKind.wrap .i64 (2 + v6))
def made_Dice_Of (k : Nat) (v0 : (List Int)) (v1 : Int) (v2 : (List Int)) : Option (Int × Int) :=
  bnd2 (made_Dice_Next k v0 v1 (v2.length : Int)) fun v5 v6 =>
  idx v2 v5 fun v7 =>
  some (v7, v6)
def ref11_Put.J2 (k : Nat) (v0 : (List Int)) (v1 : Int) (v3 : Int) : Option (List Int) :=
  chk ((0 : Int) ≤ v3 ∧ (v3 : Int) ≤ (v0.length : Int)) <|
  chk ((v0.take (v3).toNat).length * 8 ≤ 140737488355328) <|
  chk (((v0.take (v3).toNat).length + ([v1] : List Int).length) * 8 ≤ 140737488355328) <|
  chk ((0 : Int) ≤ v3 ∧ (v3 : Int) ≤ (v0.length : Int)) <|
  chk ((((v0.take (v3).toNat) ++ ([v1] : List Int)).length + (v0.drop (v3).toNat).length) * 8 ≤ 140737488355328) <|
  some (((v0.take (v3).toNat) ++ ([v1] : List Int)) ++ (v0.drop (v3).toNat))
def ref11_Put.J1 (k : Nat) (v0 : (List Int)) (v1 : Int) (v3 : Int) : Option (List Int) :=
  if v3 < (v0.length : Int) then
    idx v0 v3 fun v4 =>
    if v4 = v1 then
      chk (v0.length * 8 ≤ 140737488355328) <|
      some v0
    else
      ref11_Put.J2 k v0 v1 v3
  else
    ref11_Put.J2 k v0 v1 v3
def ref11_Put.L3 (k : Nat) (v0 : (List Int)) (v1 : Int) : Nat → Int → Option (List Int)
  | 0, _ => none
  | n + 1, v5 =>
    if v5 < (v0.length : Int) then
      idx v0 v5 fun v6 =>
      if v6 < v1 then
        ref11_Put.L3 k v0 v1 n (IntKind.wrap .i64 (v5 + 1))
      else
        ref11_Put.J1 k v0 v1 v5
    else
      ref11_Put.J1 k v0 v1 v5
def ref11_Put (k : Nat) (v0 : (List Int)) (v1 : Int) : Option (List Int) :=
  ref11_Put.L3 k v0 v1 k 0
def made_Dice_Policy.L2 (k : Nat) (v0 : (List Int)) (v11 : Int) (v14 : (List Int)) : Nat → Int → Int → Int → (List Int) → Option ((List Int) × (List Int) × Int × Int)
  | 0, _, _, _, _ => none
  | n + 1, v19, v20, v21, v22 =>
    if 0 < v20 then
      chk ((v22.length + ([v19] : List Int).length) * 8 ≤ 140737488355328) <|
      bnd2 (made_Dice_Next k v0 v21 3) fun v23 v24 =>
      let1 (if 1 < (IntKind.wrap .i64 (v19 - v23)) then IntKind.wrap .i64 (v19 - v23) else 1) fun v25 =>
      made_Dice_Policy.L2 k v0 v11 v14 n v25 (IntKind.wrap .i64 (v20 - 1)) v24 (v22 ++ ([v19] : List Int))
    else
      some (v14, v22, v11, v21)
def made_Dice_Policy.J1 (k : Nat) (v0 : (List Int)) (v11 : Int) (v13 : Int) (v14 : (List Int)) : Option ((List Int) × (List Int) × Int × Int) :=
  bnd2 (made_Dice_Of k v0 v13 ([3, 2, 1, 6, 0] : List Int)) fun v15 v16 =>
  bnd2 (made_Dice_Next k v0 v16 4) fun v17 v18 =>
  made_Dice_Policy.L2 k v0 v11 v14 k (IntKind.wrap .i64 (1 + v15)) (IntKind.wrap .i64 (1 + v17)) v18 ([] : List Int)
def made_Dice_Policy (k : Nat) (v0 : (List Int)) (v1 : Int) (v2 : Int) (v3 : (List api_Edge)) (v4 : (List Int)) : Option ((List Int) × (List Int) × Int × Int) :=
  bnd2 (made_Dice_Next k v0 v1 v2) fun v9 v10 =>
  bnd2 (made_Dice_Of k v0 v10 ([1, 1, 2, 3] : List Int)) fun v11 v12 =>
  bnd2 (made_Dice_One k v0 v12 3) fun v26 v27 =>
  if v26 = true then
    bnd2 (made_Dice_Next k v0 v27 v2) fun v28 v29 =>
    bnd1 (ref11_Put k ([v9] : List Int) v28) fun v30 =>
    made_Dice_Policy.J1 k v0 v11 v29 v30
  else
    made_Dice_Policy.J1 k v0 v11 v27 ([v9] : List Int)
def made_Dice_Some.J2 (k : Nat) (v5 : Int) (kb1 : Int → Int → (List Int) → Option ((List Int) × Int)) (v8 : Int) (v9 : (List Int)) : Option ((List Int) × Int) :=
  kb1 (IntKind.wrap .i64 (v5 + 1)) v8 v9
def made_Dice_Some.L1 (k : Nat) (v0 : (List Int)) (v2 : Int) : Nat → Int → Int → (List Int) → Option ((List Int) × Int)
  | 0, _, _, _ => none
  | n + 1, v5, v6, v7 =>
    if v5 < v2 then
      bnd2 (made_Dice_Next k v0 v6 3) fun v10 v11 =>
      if v10 = 0 then
        chk ((v7.length + ([v5] : List Int).length) * 8 ≤ 140737488355328) <|
        made_Dice_Some.J2 k v5 (fun v5_ v6_ v7_ => made_Dice_Some.L1 k v0 v2 n v5_ v6_ v7_) v11 (v7 ++ ([v5] : List Int))
      else
        made_Dice_Some.J2 k v5 (fun v5_ v6_ v7_ => made_Dice_Some.L1 k v0 v2 n v5_ v6_ v7_) v11 v7
    else
      some (v7, v6)
def made_Dice_Some (k : Nat) (v0 : (List Int)) (v1 : Int) (v2 : Int) : Option ((List Int) × Int) :=
  made_Dice_Some.L1 k v0 v2 k 0 v1 ([] : List Int)
def ref11_Level.J2 (k : Nat) (v10 : Int) (kb1 : Int → (List api_Edge) → Option (Int × (List api_Edge) × (List Int))) (v12 : (List api_Edge)) : Option (Int × (List api_Edge) × (List Int)) :=
  kb1 (IntKind.wrap .i64 (v10 + 1)) v12
def ref11_Level.L1 (k : Nat) (v1 : (List api_Edge)) (v3 : Int) (v7 : Int) (v9 : (List Int)) : Nat → Int → (List api_Edge) → Option (Int × (List api_Edge) × (List Int))
  | 0, _, _ => none
  | n + 1, v10, v11 =>
    if v10 < (v1.length : Int) then
      idx v1 v10 fun v13 =>
      if v3 ≤ v13.Level then
        chk ((v11.length + ([v13] : List api_Edge).length) * 24 ≤ 140737488355328) <|
        ref11_Level.J2 k v10 (fun v10_ v11_ => ref11_Level.L1 k v1 v3 v7 v9 n v10_ v11_) (v11 ++ ([v13] : List api_Edge))
      else
        ref11_Level.J2 k v10 (fun v10_ v11_ => ref11_Level.L1 k v1 v3 v7 v9 n v10_ v11_) v11
    else
      some (v7, v11, v9)
def ref11_Level (k : Nat) (v0 : Int) (v1 : (List api_Edge)) (v2 : (List Int)) (v3 : Int) : Option (Int × (List api_Edge) × (List Int)) :=
  bnd3 (ref11_Copy_o k v0 v1 v2) fun v7 v8 v9 =>
  ref11_Level.L1 k v1 v3 v7 v9 k 0 ([] : List api_Edge)
def ref12_All.J2 (k : Nat) (v5 : Int) (kb1 : Int → (List Int) → Option (List Int)) (v7 : (List Int)) : Option (List Int) :=
  kb1 (IntKind.wrap .i64 (v5 + 1)) v7
def ref12_All.J5 (k : Nat) (v12 : Int) (kb4 : Int → (List Int) → Option (List Int)) (v14 : (List Int)) : Option (List Int) :=
  kb4 (IntKind.wrap .i64 (v12 + 1)) v14
def ref12_All.L4 (k : Nat) (v1 : (List api_Edge)) (v10 : Int) (kb3 : Int → (List Int) → Option (List Int)) : Nat → Int → (List Int) → Option (List Int)
  | 0, _, _ => none
  | n + 1, v12, v13 =>
    if v12 < (v1.length : Int) then
      idx v1 v12 fun v15 =>
      chk ((0 : Int) ≤ v15.From ∧ (v15.From).toNat < v13.length) <|
      idx v13 v15.From fun v16 =>
      if v16 = v10 then
        chk ((0 : Int) ≤ v15.To ∧ (v15.To).toNat < v13.length) <|
        idx v13 v15.To fun v17 =>
        if v17 = (-1) then
          chk ((0 : Int) ≤ v15.To ∧ (v15.To).toNat < v13.length) <|
          ref12_All.J5 k v12 (fun v12_ v13_ => ref12_All.L4 k v1 v10 kb3 n v12_ v13_) (v13.set (v15.To).toNat (IntKind.wrap .i64 (v10 + 1)))
        else
          ref12_All.J5 k v12 (fun v12_ v13_ => ref12_All.L4 k v1 v10 kb3 n v12_ v13_) v13
      else
        ref12_All.J5 k v12 (fun v12_ v13_ => ref12_All.L4 k v1 v10 kb3 n v12_ v13_) v13
    else
      kb3 (IntKind.wrap .i64 (v10 + 1)) v13
def ref12_All.L3 (k : Nat) (v0 : Int) (v1 : (List api_Edge)) : Nat → Int → (List Int) → Option (List Int)
  | 0, _, _ => none
  | n + 1, v10, v11 =>
    if v10 < v0 then
      ref12_All.L4 k v1 v10 (fun v10_ v11_ => ref12_All.L3 k v0 v1 n v10_ v11_) k 0 v11
    else
      some v11
def ref12_All.L1 (k : Nat) (v0 : Int) (v1 : (List api_Edge)) (v2 : (List Int)) (v3 : (List Int)) : Nat → Int → (List Int) → Option (List Int)
  | 0, _, _ => none
  | n + 1, v5, v6 =>
    if v5 < v0 then
      chk ((v6.length + ([-1] : List Int).length) * 8 ≤ 140737488355328) <|
      bnd1 (ref11_Has k v3 v5) fun v8 =>
      if v8 = true then
        bnd1 (ref11_Has k v2 v5) fun v9 =>
        if (!v9) = true then
          chk ((0 : Int) ≤ v5 ∧ (v5).toNat < (v6 ++ ([-1] : List Int)).length) <|
          ref12_All.J2 k v5 (fun v5_ v6_ => ref12_All.L1 k v0 v1 v2 v3 n v5_ v6_) ((v6 ++ ([-1] : List Int)).set (v5).toNat 0)
        else
          ref12_All.J2 k v5 (fun v5_ v6_ => ref12_All.L1 k v0 v1 v2 v3 n v5_ v6_) (v6 ++ ([-1] : List Int))
      else
        ref12_All.J2 k v5 (fun v5_ v6_ => ref12_All.L1 k v0 v1 v2 v3 n v5_ v6_) (v6 ++ ([-1] : List Int))
    else
      ref12_All.L3 k v0 v1 k 0 v6
def ref12_All (k : Nat) (v0 : Int) (v1 : (List api_Edge)) (v2 : (List Int)) (v3 : (List Int)) : Option (List Int) :=
  ref12_All.L1 k v0 v1 v2 v3 k 0 ([] : List Int)
def ref13_Of (k : Nat) (v0 : (List Int)) (v1 : (List Int)) (v2 : Int) (v3 : Int) : Option Int :=
  if v3 < 0 then
    some 0
  else
    if v3 < (v1.length : Int) then
      idx v1 v3 fun v5 =>
      some v5
    else
      some 1
def ref13_All.L1 (k : Nat) (v3 : (List Int)) (v4 : (List Int)) (v5 : Int) (v10 : (List Int)) : Nat → Int → (List Int) → Option (List Int)
  | 0, _, _ => none
  | n + 1, v11, v12 =>
    if v11 < (v10.length : Int) then
      idx v10 v11 fun v13 =>
      bnd1 (ref13_Of k v3 v4 v5 v13) fun v14 =>
      chk ((v12.length + ([v14] : List Int).length) * 8 ≤ 140737488355328) <|
      ref13_All.L1 k v3 v4 v5 v10 n (IntKind.wrap .i64 (v11 + 1)) (v12 ++ ([v14] : List Int))
    else
      some v12
def ref13_All (k : Nat) (v0 : Int) (v1 : (List api_Edge)) (v2 : (List Int)) (v3 : (List Int)) (v4 : (List Int)) (v5 : Int) : Option (List Int) :=
  bnd3 (ref11_Level k v0 v1 v2 v5) fun v7 v8 v9 =>
  bnd1 (ref12_All k v7 v8 v9 v3) fun v10 =>
  ref13_All.L1 k v3 v4 v5 v10 k 0 ([] : List Int)
def law14_SplitShape.J2 (k : Nat) (v22 : Int) (kb1 : Int → Int → Int → Option Bool) (v23 : Int) (v24 : Int) : Option Bool :=
  kb1 v23 v24 (IntKind.wrap .i64 (v22 + 1))
def law14_SplitShape.J4 (k : Nat) (v39 : Int) (kb3 : Int → Int → Int → Option Bool) (v40 : Int) (v41 : Int) : Option Bool :=
  kb3 v40 v41 (IntKind.wrap .i64 (v39 + 1))
def law14_SplitShape.J5 (k : Nat) (v14 : (List Int)) (v19 : (List Int)) (v38 : Int) (v39 : Int) (kb3 : Int → Int → Int → Option Bool) (v42 : Int) : Option Bool :=
  idx v19 v39 fun v43 =>
  if 0 < v43 then
    bnd1 (ref11_Has k v14 v39) fun v44 =>
    if v44 = true then
      law14_SplitShape.J4 k v39 kb3 v42 (IntKind.wrap .i64 (v38 - 1))
    else
      law14_SplitShape.J4 k v39 kb3 v42 v38
  else
    law14_SplitShape.J4 k v39 kb3 v42 v38
def law14_SplitShape.L3 (k : Nat) (v6 : Int) (v10 : (List Int)) (v14 : (List Int)) (v19 : (List Int)) : Nat → Int → Int → Int → Option Bool
  | 0, _, _, _ => none
  | n + 1, v37, v38, v39 =>
    if v39 < v6 then
      idx v19 v39 fun v45 =>
      if 0 < v45 then
        bnd1 (ref11_Has k v10 v39) fun v46 =>
        if v46 = true then
          law14_SplitShape.J5 k v14 v19 v38 v39 (fun v37_ v38_ v39_ => law14_SplitShape.L3 k v6 v10 v14 v19 n v37_ v38_ v39_) (IntKind.wrap .i64 (v37 - 1))
        else
          law14_SplitShape.J5 k v14 v19 v38 v39 (fun v37_ v38_ v39_ => law14_SplitShape.L3 k v6 v10 v14 v19 n v37_ v38_ v39_) v37
      else
        law14_SplitShape.J5 k v14 v19 v38 v39 (fun v37_ v38_ v39_ => law14_SplitShape.L3 k v6 v10 v14 v19 n v37_ v38_ v39_) v37
    else
      bnd1 (law14_awake k) fun v47 =>
      if v47 = true then
        if v37 = 0 then
          some (v38 == 0)
        else
          some false
      else
        some false
def law14_SplitShape.L1 (k : Nat) (v6 : Int) (v10 : (List Int)) (v14 : (List Int)) (v16 : Int) (v17 : (List api_Arc)) (v19 : (List Int)) : Nat → Int → Int → Int → Option Bool
  | 0, _, _, _ => none
  | n + 1, v20, v21, v22 =>
    if v22 < (v17.length : Int) then
      idx v17 v22 fun v25 =>
      if v25.From = 1 then
        some false
      else
        if v25.To = 0 then
          some false
        else
          if v25.From < 0 then
            some false
          else
            if v25.To < 1 then
              some false
            else
              if v16 ≤ v25.From then
                some false
              else
                if v16 ≤ v25.To then
                  some false
                else
                  if v25.From = 0 then
                    bnd1 (split_Entry k (IntKind.wrap .i64 (Int.tdiv (IntKind.wrap .i64 (v25.To - 2)) 2))) fun v26 =>
                    if v25.To ≠ v26 then
                      some false
                    else
                      bnd1 (ref11_Has k v10 (IntKind.wrap .i64 (Int.tdiv (IntKind.wrap .i64 (v25.To - 2)) 2))) fun v27 =>
                      if (!v27) = true then
                        some false
                      else
                        idx v19 (IntKind.wrap .i64 (Int.tdiv (IntKind.wrap .i64 (v25.To - 2)) 2)) fun v28 =>
                        if v25.Cap ≠ v28 then
                          some false
                        else
                          if v25.Cap < 1 then
                            some false
                          else
                            law14_SplitShape.J2 k v22 (fun v20_ v21_ v22_ => law14_SplitShape.L1 k v6 v10 v14 v16 v17 v19 n v20_ v21_ v22_) (IntKind.wrap .i64 (v20 + 1)) v21
                  else
                    if v25.To = 1 then
                      bnd1 (split_Entry k (IntKind.wrap .i64 (Int.tdiv (IntKind.wrap .i64 (v25.From - 2)) 2))) fun v29 =>
                      if v25.From ≠ v29 then
                        some false
                      else
                        bnd1 (ref11_Has k v14 (IntKind.wrap .i64 (Int.tdiv (IntKind.wrap .i64 (v25.From - 2)) 2))) fun v30 =>
                        if (!v30) = true then
                          some false
                        else
                          if v25.Cap ≠ 1 then
                            some false
                          else
                            idx v19 (IntKind.wrap .i64 (Int.tdiv (IntKind.wrap .i64 (v25.From - 2)) 2)) fun v31 =>
                            if v31 < 1 then
                              some false
                            else
                              law14_SplitShape.J2 k v22 (fun v20_ v21_ v22_ => law14_SplitShape.L1 k v6 v10 v14 v16 v17 v19 n v20_ v21_ v22_) v20 (IntKind.wrap .i64 (v21 + 1))
                    else
                      if (Int.tmod v25.From 2) = 0 then
                        bnd1 (split_Exit k (IntKind.wrap .i64 (Int.tdiv (IntKind.wrap .i64 (v25.From - 2)) 2))) fun v32 =>
                        if v25.To ≠ v32 then
                          some false
                        else
                          idx v19 (IntKind.wrap .i64 (Int.tdiv (IntKind.wrap .i64 (v25.From - 2)) 2)) fun v33 =>
                          if v25.Cap ≠ (IntKind.wrap .i64 (v33 - 1)) then
                            some false
                          else
                            law14_SplitShape.J2 k v22 (fun v20_ v21_ v22_ => law14_SplitShape.L1 k v6 v10 v14 v16 v17 v19 n v20_ v21_ v22_) v20 v21
                      else
                        if v25.Cap ≠ 64 then
                          some false
                        else
                          idx v19 (IntKind.wrap .i64 (Int.tdiv (IntKind.wrap .i64 (v25.From - 3)) 2)) fun v34 =>
                          if v34 < 1 then
                            some false
                          else
                            idx v19 (IntKind.wrap .i64 (Int.tdiv (IntKind.wrap .i64 (v25.To - 2)) 2)) fun v35 =>
                            if v35 < 1 then
                              some false
                            else
                              bnd1 (split_Entry k (IntKind.wrap .i64 (Int.tdiv (IntKind.wrap .i64 (v25.To - 2)) 2))) fun v36 =>
                              if v25.To ≠ v36 then
                                some false
                              else
                                law14_SplitShape.J2 k v22 (fun v20_ v21_ v22_ => law14_SplitShape.L1 k v6 v10 v14 v16 v17 v19 n v20_ v21_ v22_) v20 v21
    else
      law14_SplitShape.L3 k v6 v10 v14 v19 k v20 v21 0
def law14_SplitShape (k : Nat) (v0 : (List Int)) : Option Bool :=
  bnd1 (made_Light k v0) fun v2 =>
  if (!v2) = true then
    bnd1 (law14_awake k) fun v3 =>
    some v3
  else
    bnd2 (made_Roll k v0) fun v4 v5 =>
    bnd4 (made_Dice_Graph_o k v4 v5) fun v6 v7 v8 v9 =>
    bnd4 (made_Dice_Policy k v4 v9 v6 v7 v8) fun v10 v11 v12 v13 =>
    bnd2 (made_Dice_Some k v4 v13 v6) fun v14 v15 =>
    bnd3 (split_Network k v6 v7 v8 v10 v11 v12 v14) fun v16 v17 v18 =>
    bnd1 (ref13_All k v6 v7 v8 v10 v11 v12) fun v19 =>
    if v18 ≠ 0 then
      some false
    else
      if v16 ≠ (IntKind.wrap .i64 (2 + IntKind.wrap .i64 (2 * v6))) then
        some false
      else
        if 1200 < (v17.length : Int) then
          some false
        else
          law14_SplitShape.L1 k v6 v10 v14 v16 v17 v19 k 0 0 0
end Go.TF
