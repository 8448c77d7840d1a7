/- Walks: the Go text computes the Lean functions (printed by a program of our own). -/
import Derived.Test.YtepdfenlkeaefaaFPu
import Derived.Test.YtepdfenlkeaefaaFAbsT
import Derived.Test.YtepdfenlkeaefaaFWa0
import Derived.Test.YtepdfenlkeaefaaFWa1
import Derived.Test.YtepdfenlkeaefaaFWa3
set_option linter.unusedVariables false
set_option linter.unusedSimpArgs false
set_option maxRecDepth 100000
set_option maxHeartbeats 4000000
namespace Go.TF
open Go Go.Abs Go.Proofs Go.Proofs.YtepdfenlkeaefaaFT
theorem w_wire_Int (k : Nat) (v0 : (List Int)) (v1 : Int) (v2 : (List Int)) (hF : wire_Int k v0 v1 = some v2) :
  FCall Try.prog 129 [AV.lst false false (List.map (AV.int .u8) v0), AV.int .i64 v1] [] (AV.slc 0 0 1 v2.length false) [some (.grow (List.map (AV.int .u8) v2))] := by
 unfold wire_Int at hF
 refine EN Try.func129 ?_
 intro c0 w0 Q h0 hQ
 refine WK [(0, Lb v0), (1, Iz v1)] [] 0 (by simp) (by simp) ?_
 refine SQ [] [none] fun _ _ g r => ?_
 try simp
 and_intros <;> first | exact g _ (by kernel_rfl) | refine r _ _ _ ?_ | omega | (simp [maxLen] <;> omega)
 refine WK [(0, Lb v0), (1, Iz v1)] [] 0 (by simp) (by simp) ?_
 refine SQ [] [none, none, none, none, none] fun _ _ g r => ?_
 try simp
 and_intros
 try any_goals first | omega | (simp [maxLen] <;> omega)
 obtain ⟨v3, h1, hF⟩ := bnd1_elim hF
 refine AC (w_slices_Clone_byte_byte k _ _ h1) (.cons (.same (by simp)) .nil) ?_
 try simp
 and_intros
 try any_goals first | omega | (simp [maxLen] <;> omega)
 obtain ⟨v4, h2, hF⟩ := bnd1_elim hF
 refine aCall_l (w_wire_put k _ _ _ h2) (by simp) [0] [] [0] rfl (.cons (.same (by simp)) (.cons (.same (by simp)) .nil)) (by simp) (by decide) (by simp) (by simp) (.inl rfl) (by simp) (by simp) ?_
 try simp
 and_intros <;> first | exact g _ (by kernel_rfl) | refine r _ _ _ ?_ | omega | (simp [maxLen] <;> omega)
 refine RM h0 [(0, 1)] [(4, AV.slc 0 0 1 v4.length false)] [(0, .grow (List.map (AV.int .u8) v4))] 1 (by simp) (by simp) ?_
 simp only [Option.some.injEq] at hF
 subst hF
 refine AW.ret (hQ _ _ _ ?_ (matchO_0 ?_)).1
 ·simp [Try.f129]
 ·simp
theorem w_wire_Text (k : Nat) (v0 : (List Int)) (v1 : ByteArray) (v2 : (List Int)) (hF : wire_Text k v0 v1 = some v2) :
  FCall Try.prog 130 [AV.lst false false (List.map (AV.int .u8) v0), AV.str v1] [] (AV.slc 0 0 1 v2.length false) [some (.grow (List.map (AV.int .u8) v2))] := by
 unfold wire_Text at hF
 refine EN Try.func130 ?_
 intro c0 w0 Q h0 hQ
 refine WK [(0, Lb v0), (1, AV.str v1)] [] 0 (by simp) (by simp) ?_
 refine SQ [] [none] fun _ _ g r => ?_
 try simp
 and_intros <;> first | exact g _ (by kernel_rfl) | refine r _ _ _ ?_ | omega | (simp [maxLen] <;> omega)
 refine WK [(0, Lb v0), (1, AV.str v1)] [] 0 (by simp) (by simp) ?_
 refine SQ [] [none, none, none, none, none, none, none] fun _ _ g r => ?_
 try simp
 and_intros
 try any_goals first | omega | (simp [maxLen] <;> omega)
 obtain ⟨v3, h1, hF⟩ := bnd1_elim hF
 refine AC (w_wire_Int k _ _ _ h1) (.cons (.same (by simp)) (.cons (.same (by simp)) .nil)) ?_
 obtain ⟨h2, hF⟩ := chk_elim hF
 have h2_ := h2
 try simp at h2_
 try simp [h2]
 and_intros <;> first | exact g _ (by kernel_rfl) | refine r _ _ _ ?_ | omega | (simp [h2, maxLen] <;> omega)
 refine RM h0 [(0, 1)] [(4, AV.slc 0 0 1 ((v3 ++ (bI v1)).length) false)] [(0, .grow (List.map (AV.int .u8) (v3 ++ (bI v1))))] 1 (by simp [h2] <;> omega) (by simp [h2]) ?_
 simp only [Option.some.injEq] at hF
 subst hF
 refine AW.ret (hQ _ _ _ ?_ (matchO_0 ?_)).1
 ·simp [Try.f130, h2]
 ·simp [h2]
theorem w_wire_Ints (k : Nat) (v0 : (List Int)) (v1 : (List Int)) (v2 : (List Int)) (hF : wire_Ints k v0 v1 = some v2) :
  FCall Try.prog 131 [AV.lst false false (List.map (AV.int .u8) v0), AV.lst false false (List.map (AV.int .i64) v1)] [] (AV.slc 0 0 1 v2.length false) [some (.grow (List.map (AV.int .u8) v2))] := by
 unfold wire_Ints at hF
 refine EN Try.func131 ?_
 intro c0 w0 Q h0 hQ
 refine WK [(0, Lb v0), (1, Lz v1)] [] 0 (by simp) (by simp) ?_
 refine SQ [] [none] fun _ _ g r => ?_
 try simp
 and_intros <;> first | exact g _ (by kernel_rfl) | refine r _ _ _ ?_ | omega | (simp [maxLen] <;> omega)
 refine WK [(0, Lb v0), (1, Lz v1)] [] 0 (by simp) (by simp) ?_
 refine SQ [] [none, none, none, none, none] fun _ _ g r => ?_
 try simp
 and_intros
 try any_goals first | omega | (simp [maxLen] <;> omega)
 obtain ⟨v3, h1, hF⟩ := bnd1_elim hF
 refine AC (w_wire_Int k _ _ _ h1) (.cons (.same (by simp)) (.cons (.same (by simp)) .nil)) ?_
 try simp
 and_intros <;> first | exact g _ (by kernel_rfl) | refine r _ _ _ ?_ | omega | (simp [maxLen] <;> omega)
 refine WK [(1, Lz v1), (5, AV.slc 0 0 1 v3.length false)] [(0, .grow (List.map (AV.int .u8) v3))] 1 (by simp) (by simp) ?_
 refine AW.seq fun K109 hK109 => ?_
 refine SQ [] [none, none, none] fun _ _ g r => ?_
 try simp
 and_intros <;> first | exact g _ (by kernel_rfl) | refine r _ _ _ ?_ | omega | (simp [maxLen] <;> omega)
 refine WK [(5, AV.slc 0 0 1 v3.length false), (12, Lz v1), (13, Iz (v1.length : Int)), (14, Iz 0)] [(0, .grow (List.map (AV.int .u8) v3))] 1 (by simp) (by simp) ?_
 refine AW.block ?_
 refine AW.loopF (α := (Int × (List Int))) (fun n (v4, v5) => wire_Ints.L1 k v1 n v4 v5 = some v2) (fun (v4, v5) => [(5, AV.slc 0 0 1 v5.length false), (12, Lz v1), (13, Iz (v1.length : Int)), (14, Iz v4)]) (fun (v4, v5) => [(0, .grow (List.map (AV.int .u8) v5))]) 1 k ((0, v3)) hF (by simp) (by simp) (by simp) ?_
 rintro (_|n1) ⟨v4, v5⟩ hF K135 hK135
 ·try dsimp only at hF
  rw [wire_Ints.L1] at hF; cases hF
 try dsimp only at hF
 rw [wire_Ints.L1] at hF
 refine SQ [] [none] fun _ _ g r => ?_
 try simp
 and_intros <;> first | exact g _ (by kernel_rfl) | refine r _ _ _ ?_ | omega | (simp [maxLen] <;> omega)
 refine WK [(5, AV.slc 0 0 1 v5.length false), (12, Lz v1), (13, Iz (v1.length : Int)), (14, Iz v4), (15, AV.bool (decide (v4 < (v1.length : Int))))] [(0, .grow (List.map (AV.int .u8) v5))] 1 (by simp) (by simp) ?_
 refine AW.seq fun K137 hK137 => ?_
 by_cases h2 : v4 < (v1.length : Int)
 ·replace hF := ite_t h2 hF
  have h2_ := h2
  try simp at h2_
  refine CT (by simp [h2, h2_] <;> omega) ?_
  refine AW.skip ?_
  refine hK137 _ _ _ ?_
  refine AW.seq fun K140 hK140 => ?_
  refine AW.block ?_
  refine SQ [] [none, none, none] fun _ _ g r => ?_
  obtain ⟨v6, h3, h4, h5, hF⟩ := idx_elim hF
  have h5_ := get_of h5
  try simp at h5_
  have h4_ := h4
  try simp at h4_
  have F1 := And.intro h2 (And.intro h2_ (And.intro h3 (And.intro h4 (And.intro h5 (And.intro h5_ h4_)))))
  try simp [F1]
  and_intros <;> first | exact g _ (by kernel_rfl) | refine r _ _ _ ?_ | omega | (simp [maxLen, F1] <;> omega)
  refine WK [(5, AV.slc 0 0 1 v5.length false), (7, Iz v6), (12, Lz v1), (13, Iz (v1.length : Int)), (14, Iz v4)] [(0, .grow (List.map (AV.int .u8) v5))] 1 (by simp [F1]) (by simp [F1]) ?_
  refine RG [] [none, none, none, none] fun _ _ g r => ?_
  try simp [F1]
  and_intros
  try any_goals first | omega | (simp [maxLen, F1] <;> omega)
  obtain ⟨v7, h6, hF⟩ := bnd1_elim hF
  refine aCall_l (w_wire_put k _ _ _ h6) (by simp) [0] [] [0] rfl (.cons (.same (by simp [F1])) (.cons (.same (by simp [F1])) .nil)) (by simp [F1]) (by decide) (by simp) (by simp) (.inl rfl) (by simp) (by simp) ?_
  try simp [F1]
  and_intros <;> first | exact g _ (by kernel_rfl) | refine r _ _ _ ?_ | omega | (simp [maxLen, F1] <;> omega)
  refine hK140 _ _ _ ?_
  refine WK [(5, AV.slc 1 0 1 v7.length false), (12, Lz v1), (13, Iz (v1.length : Int)), (14, Iz v4)] [(1, .grow (List.map (AV.int .u8) v7))] 2 (by simp [F1]) (by simp [F1]) ?_
  refine RG [] [none, none] fun _ _ g r => ?_
  try simp [F1]
  and_intros <;> first | exact g _ (by kernel_rfl) | refine r _ _ _ ?_ | omega | (simp [maxLen, F1] <;> omega)
  refine hK135 _ _ _ ?_
  refine RN h0 [(0, 1)] [(5, AV.slc 0 0 1 v7.length false), (12, Lz v1), (13, Iz (v1.length : Int)), (14, Iz (IntKind.wrap .i64 (v4 + 1)))] [(0, .grow (List.map (AV.int .u8) v7))] 1 (by simp [F1]) (by simp [F1]) ?_
  exact Can.next (k' := n1) ((IntKind.wrap .i64 (v4 + 1), v7)) (by omega) hF (by simp [F1]) (by simp [F1]) (by simp)
 ·replace hF := ite_f h2 hF
  have h2_ := h2
  try simp at h2_
  refine CF (by simp [h2, h2_] <;> omega) ?_
  refine AW.exit ?_
  try simp
  refine hK109 _ _ _ ?_
  refine SQ [] [none, none] fun _ _ g r => ?_
  try simp [h2, h2_]
  and_intros <;> first | exact g _ (by kernel_rfl) | refine r _ _ _ ?_ | omega | (simp [h2, h2_, maxLen] <;> omega)
  refine WK [(4, AV.slc 0 0 1 v5.length false)] [(0, .grow (List.map (AV.int .u8) v5))] 1 (by simp [h2, h2_]) (by simp [h2, h2_]) ?_
  simp only [Option.some.injEq] at hF
  subst hF
  refine AW.ret (hQ _ _ _ ?_ (matchO_0 ?_)).1
  ·simp [Try.f131, h2, h2_]
  ·simp [h2, h2_]
abbrev c_statement_Bytes (v0 : Int) (v1 : Int) (v2 : ByteArray) (v3 : Int) (v4 : Int) (v5 : Int) (v6 : Int) (v7 : Int) (v8 : (List Int)) (v9 : (List api_Pin)) (v10 : ByteArray) (v11 : Int) (v12 : ByteArray) : AObj := .cells [Iz v0, Iz v1, AV.str v2, Iz v3, Iz v4, Iz v5, Iz v6, Iz v7, Lz v8, AV.lst false false (List.map api_Pin.av v9), AV.str v10, Iz v11, AV.str v12]
theorem w_statement_Bytes (k : Nat) (v0 : Int) (v1 : Int) (v2 : ByteArray) (v3 : Int) (v4 : Int) (v5 : Int) (v6 : Int) (v7 : Int) (v8 : (List Int)) (v9 : (List api_Pin)) (v10 : ByteArray) (v11 : Int) (v12 : ByteArray) (v13 : (List Int)) (hF : statement_Bytes k v0 v1 v2 v3 v4 v5 v6 v7 v8 v9 v10 v11 v12 = some v13) :
  FCall Try.prog 120 [AV.agg [AV.int .i64 v0, AV.int .i64 v1, AV.str v2, AV.int .i64 v3, AV.int .i64 v4, AV.int .i64 v5, AV.int .i64 v6, AV.int .i64 v7, AV.lst false false (List.map (AV.int .i64) v8), AV.lst false false (List.map api_Pin.av v9), AV.str v10, AV.int .i64 v11, AV.str v12]] [] (AV.slc 0 0 1 v13.length false) [some (.grow (List.map (AV.int .u8) v13))] := by
 unfold statement_Bytes at hF
 refine EN Try.func120 ?_
 intro c0 w0 Q h0 hQ
 refine WK [(0, AV.agg [Iz v0, Iz v1, AV.str v2, Iz v3, Iz v4, Iz v5, Iz v6, Iz v7, Lz v8, AV.lst false false (List.map api_Pin.av v9), AV.str v10, Iz v11, AV.str v12])] [] 0 (by simp) (by simp) ?_
 refine SQ [] [none, none] fun _ _ g r => ?_
 try simp
 and_intros <;> first | exact g _ (by kernel_rfl) | refine r _ _ _ ?_ | omega | (simp [maxLen] <;> omega)
 refine WK [(1, AV.ptr 0 0)] [(0, c_statement_Bytes v0 v1 v2 v3 v4 v5 v6 v7 v8 v9 v10 v11 v12)] 1 (by simp) (by simp) ?_
 refine SQ [] [none, none, none, none] fun _ _ g r => ?_
 try simp
 and_intros
 try any_goals first | omega | (simp [maxLen] <;> omega)
 obtain ⟨v14, h1, hF⟩ := bnd1_elim hF
 refine AC (w_wire_Int k _ _ _ h1) (.cons (Coe.fl (by simp)) (.cons (.same (by simp)) .nil)) ?_
 try simp
 and_intros <;> first | exact g _ (by kernel_rfl) | refine r _ _ _ ?_ | omega | (simp [maxLen] <;> omega)
 refine WK [(1, AV.ptr 0 0), (3, AV.slc 1 0 1 v14.length false)] [(0, c_statement_Bytes v0 v1 v2 v3 v4 v5 v6 v7 v8 v9 v10 v11 v12), (1, .grow (List.map (AV.int .u8) v14))] 2 (by simp) (by simp) ?_
 refine AW.frz 1 (o := .grow (List.map (AV.int .u8) v14)) (by simp) rfl [(3, Lb v14)] [] ⟨(.l (by simp) (by simp) (by simp) (by simp)), trivial⟩ trivial ?_
 refine WK [(1, AV.ptr 0 0), (3, Lb v14)] [(0, c_statement_Bytes v0 v1 v2 v3 v4 v5 v6 v7 v8 v9 v10 v11 v12)] 2 (by simp) (by simp) ?_
 refine SQ [] [none, none, none, none, none] fun _ _ g r => ?_
 try simp
 and_intros
 try any_goals first | omega | (simp [maxLen] <;> omega)
 obtain ⟨v15, h2, hF⟩ := bnd1_elim hF
 refine AC (w_wire_Int k _ _ _ h2) (.cons (.same (by simp)) (.cons (.same (by simp)) .nil)) ?_
 try simp
 and_intros <;> first | exact g _ (by kernel_rfl) | refine r _ _ _ ?_ | omega | (simp [maxLen] <;> omega)
 refine WK [(1, AV.ptr 0 0), (3, AV.slc 2 0 1 v15.length false)] [(0, c_statement_Bytes v0 v1 v2 v3 v4 v5 v6 v7 v8 v9 v10 v11 v12), (2, .grow (List.map (AV.int .u8) v15))] 3 (by simp) (by simp) ?_
 refine AW.frz 2 (o := .grow (List.map (AV.int .u8) v15)) (by simp) rfl [(3, Lb v15)] [] ⟨(.l (by simp) (by simp) (by simp) (by simp)), trivial⟩ trivial ?_
 refine WK [(1, AV.ptr 0 0), (3, Lb v15)] [(0, c_statement_Bytes v0 v1 v2 v3 v4 v5 v6 v7 v8 v9 v10 v11 v12)] 3 (by simp) (by simp) ?_
 refine SQ [] [none, none, none, none, none] fun _ _ g r => ?_
 try simp
 and_intros
 try any_goals first | omega | (simp [maxLen] <;> omega)
 obtain ⟨v16, h3, hF⟩ := bnd1_elim hF
 refine AC (w_wire_Text k _ _ _ h3) (.cons (.same (by simp)) (.cons (.same (by simp)) .nil)) ?_
 try simp
 and_intros <;> first | exact g _ (by kernel_rfl) | refine r _ _ _ ?_ | omega | (simp [maxLen] <;> omega)
 refine WK [(1, AV.ptr 0 0), (3, AV.slc 3 0 1 v16.length false)] [(0, c_statement_Bytes v0 v1 v2 v3 v4 v5 v6 v7 v8 v9 v10 v11 v12), (3, .grow (List.map (AV.int .u8) v16))] 4 (by simp) (by simp) ?_
 refine AW.frz 3 (o := .grow (List.map (AV.int .u8) v16)) (by simp) rfl [(3, Lb v16)] [] ⟨(.l (by simp) (by simp) (by simp) (by simp)), trivial⟩ trivial ?_
 refine WK [(1, AV.ptr 0 0), (3, Lb v16)] [(0, c_statement_Bytes v0 v1 v2 v3 v4 v5 v6 v7 v8 v9 v10 v11 v12)] 4 (by simp) (by simp) ?_
 refine AW.seq fun K184 hK184 => ?_
 refine SQ [] [none, none, none, none, none, none, none, none, none, none, none, none] fun _ _ g r => ?_
 try simp
 and_intros <;> first | exact g _ (by kernel_rfl) | refine r _ _ _ ?_ | omega | (simp [maxLen] <;> omega)
 refine WK [(1, AV.ptr 0 0), (3, Lb v16), (29, AV.agg (List.map (AV.int .i64) ([v3, v4, v5, v6, v7] : List Int))), (30, Iz 0)] [(0, c_statement_Bytes v0 v1 v2 v3 v4 v5 v6 v7 v8 v9 v10 v11 v12)] 4 (by simp) (by simp) ?_
 refine AW.block ?_
 refine RM h0 [(0, 0)] [(1, AV.ptr 0 0), (3, Lb v16), (29, AV.agg (List.map (AV.int .i64) ([v3, v4, v5, v6, v7] : List Int))), (30, Iz 0)] [(0, c_statement_Bytes v0 v1 v2 v3 v4 v5 v6 v7 v8 v9 v10 v11 v12)] 1 (by simp) (by simp) ?_
 refine AW.loopF (α := ((List Int) × Int)) (fun n (v17, v18) => statement_Bytes.L1 k v3 v4 v5 v6 v7 v8 v9 v10 n v17 v18 = some v13) (fun (v17, v18) => [(1, AV.ptr 0 0), (3, Lb v17), (29, AV.agg (List.map (AV.int .i64) ([v3, v4, v5, v6, v7] : List Int))), (30, Iz v18)]) (fun (v17, v18) => [(0, c_statement_Bytes v0 v1 v2 v3 v4 v5 v6 v7 v8 v9 v10 v11 v12)]) 1 k ((v16, 0)) hF (by simp) (by simp) (by simp) ?_
 rintro (_|n1) ⟨v17, v18⟩ hF K210 hK210
 ·try dsimp only at hF
  rw [statement_Bytes.L1] at hF; cases hF
 try dsimp only at hF
 rw [statement_Bytes.L1] at hF
 refine SQ [] [none] fun _ _ g r => ?_
 try simp
 and_intros <;> first | exact g _ (by kernel_rfl) | refine r _ _ _ ?_ | omega | (simp [maxLen] <;> omega)
 refine WK [(1, AV.ptr 0 0), (3, Lb v17), (29, AV.agg (List.map (AV.int .i64) ([v3, v4, v5, v6, v7] : List Int))), (30, Iz v18), (31, AV.bool (decide (v18 < 5)))] [(0, c_statement_Bytes v0 v1 v2 v3 v4 v5 v6 v7 v8 v9 v10 v11 v12)] 1 (by simp) (by simp) ?_
 refine AW.seq fun K212 hK212 => ?_
 by_cases h4 : v18 < 5
 ·replace hF := ite_t h4 hF
  have h4_ := h4
  try simp at h4_
  refine CT (by simp [h4, h4_] <;> omega) ?_
  refine AW.skip ?_
  refine hK212 _ _ _ ?_
  refine AW.seq fun K215 hK215 => ?_
  refine AW.block ?_
  refine SQ [] [none, none] fun _ _ g r => ?_
  obtain ⟨h5, hF⟩ := chk_elim hF
  obtain ⟨v19, h6, h7, h8, hF⟩ := idx_elim hF
  have h8_ := get_of h8
  try simp at h8_
  have h7_ := h7
  try simp at h7_
  have h8__ := get_of (map_get ((AV.int .i64)) h8)
  try simp at h8__
  have F1 := And.intro h4 (And.intro h4_ (And.intro h5 (And.intro h6 (And.intro h7 (And.intro h8 (And.intro h8_ (And.intro h7_ h8__)))))))
  try simp [F1]
  and_intros <;> first | exact g _ (by kernel_rfl) | refine r _ _ _ ?_ | omega | (simp [maxLen, F1] <;> omega)
  refine WK [(1, AV.ptr 0 0), (3, Lb v17), (5, Iz v19), (29, AV.agg (List.map (AV.int .i64) ([v3, v4, v5, v6, v7] : List Int))), (30, Iz v18)] [(0, c_statement_Bytes v0 v1 v2 v3 v4 v5 v6 v7 v8 v9 v10 v11 v12)] 1 (by simp [F1]) (by simp [F1]) ?_
  refine RG [] [none, none, none, none] fun _ _ g r => ?_
  try simp [F1]
  and_intros
  try any_goals first | omega | (simp [maxLen, F1] <;> omega)
  obtain ⟨v20, h9, hF⟩ := bnd1_elim hF
  refine AC (w_wire_Int k _ _ _ h9) (.cons (.same (by simp [F1])) (.cons (.same (by simp [F1])) .nil)) ?_
  try simp [F1]
  and_intros <;> first | exact g _ (by kernel_rfl) | refine r _ _ _ ?_ | omega | (simp [maxLen, F1] <;> omega)
  refine hK215 _ _ _ ?_
  refine WK [(1, AV.ptr 0 0), (3, AV.slc 1 0 1 v20.length false), (29, AV.agg (List.map (AV.int .i64) ([v3, v4, v5, v6, v7] : List Int))), (30, Iz v18)] [(0, c_statement_Bytes v0 v1 v2 v3 v4 v5 v6 v7 v8 v9 v10 v11 v12), (1, .grow (List.map (AV.int .u8) v20))] 2 (by simp [F1]) (by simp [F1]) ?_
  refine AW.frz 1 (o := .grow (List.map (AV.int .u8) v20)) (by simp [F1]) rfl [(3, Lb v20)] [] ⟨(.l (by simp) (by simp) (by simp) (by simp)), trivial⟩ trivial ?_
  refine WK [(1, AV.ptr 0 0), (3, Lb v20), (29, AV.agg (List.map (AV.int .i64) ([v3, v4, v5, v6, v7] : List Int))), (30, Iz v18)] [(0, c_statement_Bytes v0 v1 v2 v3 v4 v5 v6 v7 v8 v9 v10 v11 v12)] 2 (by simp [F1]) (by simp [F1]) ?_
  refine RG [] [none, none] fun _ _ g r => ?_
  try simp [F1]
  and_intros <;> first | exact g _ (by kernel_rfl) | refine r _ _ _ ?_ | omega | (simp [maxLen, F1] <;> omega)
  refine hK210 _ _ _ ?_
  refine RN h0 [(0, 0)] [(1, AV.ptr 0 0), (3, Lb v20), (29, AV.agg (List.map (AV.int .i64) ([v3, v4, v5, v6, v7] : List Int))), (30, Iz (IntKind.wrap .i64 (v18 + 1)))] [(0, c_statement_Bytes v0 v1 v2 v3 v4 v5 v6 v7 v8 v9 v10 v11 v12)] 1 (by simp [F1]) (by simp [F1]) ?_
  exact Can.next (k' := n1) ((v20, IntKind.wrap .i64 (v18 + 1))) (by omega) hF (by simp [F1]) (by simp [F1]) (by simp)
 ·replace hF := ite_f h4 hF
  have h4_ := h4
  try simp at h4_
  refine CF (by simp [h4, h4_] <;> omega) ?_
  refine AW.exit ?_
  try simp
  refine hK184 _ _ _ ?_
  refine SQ [] [none, none, none, none, none] fun _ _ g r => ?_
  try simp [h4, h4_]
  and_intros
  try any_goals first | omega | (simp [h4, h4_, maxLen] <;> omega)
  obtain ⟨v21, h10, hF⟩ := bnd1_elim hF
  refine AC (w_wire_Ints k _ _ _ h10) (.cons (.same (by simp [h4, h4_])) (.cons (.same (by simp [h4, h4_])) .nil)) ?_
  try simp [h4, h4_]
  and_intros <;> first | exact g _ (by kernel_rfl) | refine r _ _ _ ?_ | omega | (simp [h4, h4_, maxLen] <;> omega)
  refine WK [(1, AV.ptr 0 0), (3, AV.slc 1 0 1 v21.length false)] [(0, c_statement_Bytes v0 v1 v2 v3 v4 v5 v6 v7 v8 v9 v10 v11 v12), (1, .grow (List.map (AV.int .u8) v21))] 2 (by simp [h4, h4_]) (by simp [h4, h4_]) ?_
  refine AW.frz 1 (o := .grow (List.map (AV.int .u8) v21)) (by simp [h4, h4_]) rfl [(3, Lb v21)] [] ⟨(.l (by simp) (by simp) (by simp) (by simp)), trivial⟩ trivial ?_
  refine WK [(1, AV.ptr 0 0), (3, Lb v21)] [(0, c_statement_Bytes v0 v1 v2 v3 v4 v5 v6 v7 v8 v9 v10 v11 v12)] 2 (by simp [h4, h4_]) (by simp [h4, h4_]) ?_
  refine SQ [] [none, none, none, none, none, none] fun _ _ g r => ?_
  try simp [h4, h4_]
  and_intros
  try any_goals first | omega | (simp [h4, h4_, maxLen] <;> omega)
  obtain ⟨v22, h11, hF⟩ := bnd1_elim hF
  refine AC (w_wire_Int k _ _ _ h11) (.cons (.same (by simp [h4, h4_])) (.cons (.same (by simp [h4, h4_])) .nil)) ?_
  try simp [h4, h4_]
  and_intros <;> first | exact g _ (by kernel_rfl) | refine r _ _ _ ?_ | omega | (simp [h4, h4_, maxLen] <;> omega)
  refine WK [(1, AV.ptr 0 0), (3, AV.slc 2 0 1 v22.length false)] [(0, c_statement_Bytes v0 v1 v2 v3 v4 v5 v6 v7 v8 v9 v10 v11 v12), (2, .grow (List.map (AV.int .u8) v22))] 3 (by simp [h4, h4_]) (by simp [h4, h4_]) ?_
  refine AW.frz 2 (o := .grow (List.map (AV.int .u8) v22)) (by simp [h4, h4_]) rfl [(3, Lb v22)] [] ⟨(.l (by simp) (by simp) (by simp) (by simp)), trivial⟩ trivial ?_
  refine WK [(1, AV.ptr 0 0), (3, Lb v22)] [(0, c_statement_Bytes v0 v1 v2 v3 v4 v5 v6 v7 v8 v9 v10 v11 v12)] 3 (by simp [h4, h4_]) (by simp [h4, h4_]) ?_
  refine AW.seq fun K255 hK255 => ?_
  refine SQ [] [none, none, none, none] fun _ _ g r => ?_
  try simp [h4, h4_]
  and_intros <;> first | exact g _ (by kernel_rfl) | refine r _ _ _ ?_ | omega | (simp [h4, h4_, maxLen] <;> omega)
  refine WK [(1, AV.ptr 0 0), (3, Lb v22), (47, AV.lst false false (List.map api_Pin.av v9)), (48, Iz (v9.length : Int)), (49, Iz 0)] [(0, c_statement_Bytes v0 v1 v2 v3 v4 v5 v6 v7 v8 v9 v10 v11 v12)] 3 (by simp [h4, h4_]) (by simp [h4, h4_]) ?_
  refine AW.block ?_
  refine RM h0 [(0, 0)] [(1, AV.ptr 0 0), (3, Lb v22), (47, AV.lst false false (List.map api_Pin.av v9)), (48, Iz (v9.length : Int)), (49, Iz 0)] [(0, c_statement_Bytes v0 v1 v2 v3 v4 v5 v6 v7 v8 v9 v10 v11 v12)] 1 (by simp [h4, h4_]) (by simp [h4, h4_]) ?_
  refine AW.loopF (α := ((List Int) × Int)) (fun n (v23, v24) => statement_Bytes.L2 k v9 v10 n v23 v24 = some v13) (fun (v23, v24) => [(1, AV.ptr 0 0), (3, Lb v23), (47, AV.lst false false (List.map api_Pin.av v9)), (48, Iz (v9.length : Int)), (49, Iz v24)]) (fun (v23, v24) => [(0, c_statement_Bytes v0 v1 v2 v3 v4 v5 v6 v7 v8 v9 v10 v11 v12)]) 1 k ((v22, 0)) hF (by simp [h4, h4_]) (by simp [h4, h4_]) (by simp) ?_
  rintro (_|n2) ⟨v23, v24⟩ hF K281 hK281
  ·try dsimp only at hF
   rw [statement_Bytes.L2] at hF; cases hF
  try dsimp only at hF
  rw [statement_Bytes.L2] at hF
  refine SQ [] [none] fun _ _ g r => ?_
  try simp [h4, h4_]
  and_intros <;> first | exact g _ (by kernel_rfl) | refine r _ _ _ ?_ | omega | (simp [h4, h4_, maxLen] <;> omega)
  refine WK [(1, AV.ptr 0 0), (3, Lb v23), (47, AV.lst false false (List.map api_Pin.av v9)), (48, Iz (v9.length : Int)), (49, Iz v24), (50, AV.bool (decide (v24 < (v9.length : Int))))] [(0, c_statement_Bytes v0 v1 v2 v3 v4 v5 v6 v7 v8 v9 v10 v11 v12)] 1 (by simp [h4, h4_]) (by simp [h4, h4_]) ?_
  refine AW.seq fun K283 hK283 => ?_
  by_cases h12 : v24 < (v9.length : Int)
  ·replace hF := ite_t h12 hF
   have h12_ := h12
   try simp at h12_
   have F2 := And.intro h4 (And.intro h4_ (And.intro h12 h12_))
   refine CT (by simp [F2] <;> omega) ?_
   refine AW.skip ?_
   refine hK283 _ _ _ ?_
   refine AW.seq fun K286 hK286 => ?_
   refine AW.block ?_
   refine SQ [] [none, none, none, none] fun _ _ g r => ?_
   obtain ⟨v25, h13, h14, h15, hF⟩ := idx_elim hF
   have h15_ := get_of h15
   try simp at h15_
   have h14_ := h14
   try simp at h14_
   have F3 := And.intro F2 (And.intro h13 (And.intro h14 (And.intro h15 (And.intro h15_ h14_))))
   try simp [F3]
   and_intros <;> first | exact g _ (by kernel_rfl) | refine r _ _ _ ?_ | omega | (simp [maxLen, F3] <;> omega)
   refine WK [(1, AV.ptr 0 0), (3, Lb v23), (7, AV.ptr 1 0), (47, AV.lst false false (List.map api_Pin.av v9)), (48, Iz (v9.length : Int)), (49, Iz v24)] [(0, c_statement_Bytes v0 v1 v2 v3 v4 v5 v6 v7 v8 v9 v10 v11 v12), (1, .cells [Iz v25.Author, Iz v25.Height, AV.str v25.Digest])] 2 (by simp [F3]) (by simp [F3]) ?_
   refine RG [] [none, none, none, none, none, none, none, none, none, none, none] fun _ _ g r => ?_
   try simp [F3]
   and_intros
   try any_goals first | omega | (simp [maxLen, F3] <;> omega)
   obtain ⟨v26, h16, hF⟩ := bnd1_elim hF
   refine AC (w_wire_Int k _ _ _ h16) (.cons (.same (by simp [F3])) (.cons (.same (by simp [F3])) .nil)) ?_
   try simp [F3]
   and_intros
   try any_goals first | omega | (simp [maxLen, F3] <;> omega)
   obtain ⟨v27, h17, hF⟩ := bnd1_elim hF
   refine aCall_l (w_wire_Int k _ _ _ h17) (by simp) [] [2] [] rfl (.cons (Coe.l (o := .grow (List.map (AV.int .u8) v26)) (by simp [F3]) rfl (by simp [F3]) (by simp [noIdsL]) (by simp [F3]) (by simp [F3])) (.cons (.same (by simp [F3])) .nil)) (by simp [F3]) (by decide) (by simp) (by simp) (.inr ⟨by simp, by simp⟩) (by simp) (by simp) ?_
   try simp [F3]
   and_intros
   try any_goals first | omega | (simp [maxLen, F3] <;> omega)
   obtain ⟨v28, h18, hF⟩ := bnd1_elim hF
   refine aCall_l (w_wire_Text k _ _ _ h18) (by simp) [] [3] [] rfl (.cons (Coe.l (o := .grow (List.map (AV.int .u8) v27)) (by simp [F3]) rfl (by simp [F3]) (by simp [noIdsL]) (by simp [F3]) (by simp [F3])) (.cons (.same (by simp [F3])) .nil)) (by simp [F3]) (by decide) (by simp) (by simp) (.inr ⟨by simp, by simp⟩) (by simp) (by simp) ?_
   try simp [F3]
   and_intros <;> first | exact g _ (by kernel_rfl) | refine r _ _ _ ?_ | omega | (simp [maxLen, F3] <;> omega)
   refine hK286 _ _ _ ?_
   refine WK [(1, AV.ptr 0 0), (3, AV.slc 4 0 1 v28.length false), (47, AV.lst false false (List.map api_Pin.av v9)), (48, Iz (v9.length : Int)), (49, Iz v24)] [(0, c_statement_Bytes v0 v1 v2 v3 v4 v5 v6 v7 v8 v9 v10 v11 v12), (4, .grow (List.map (AV.int .u8) v28))] 5 (by simp [F3]) (by simp [F3]) ?_
   refine AW.frz 4 (o := .grow (List.map (AV.int .u8) v28)) (by simp [F3]) rfl [(3, Lb v28)] [] ⟨(.l (by simp) (by simp) (by simp) (by simp)), trivial⟩ trivial ?_
   refine WK [(1, AV.ptr 0 0), (3, Lb v28), (47, AV.lst false false (List.map api_Pin.av v9)), (48, Iz (v9.length : Int)), (49, Iz v24)] [(0, c_statement_Bytes v0 v1 v2 v3 v4 v5 v6 v7 v8 v9 v10 v11 v12)] 5 (by simp [F3]) (by simp [F3]) ?_
   refine RG [] [none, none] fun _ _ g r => ?_
   try simp [F3]
   and_intros <;> first | exact g _ (by kernel_rfl) | refine r _ _ _ ?_ | omega | (simp [maxLen, F3] <;> omega)
   refine hK281 _ _ _ ?_
   refine RN h0 [(0, 0)] [(1, AV.ptr 0 0), (3, Lb v28), (47, AV.lst false false (List.map api_Pin.av v9)), (48, Iz (v9.length : Int)), (49, Iz (IntKind.wrap .i64 (v24 + 1)))] [(0, c_statement_Bytes v0 v1 v2 v3 v4 v5 v6 v7 v8 v9 v10 v11 v12)] 1 (by simp [F3]) (by simp [F3]) ?_
   exact Can.next (k' := n2) ((v28, IntKind.wrap .i64 (v24 + 1))) (by omega) hF (by simp [F3]) (by simp [F3]) (by simp)
  ·replace hF := ite_f h12 hF
   have h12_ := h12
   try simp at h12_
   have F4 := And.intro h4 (And.intro h4_ (And.intro h12 h12_))
   refine CF (by simp [F4] <;> omega) ?_
   refine AW.exit ?_
   try simp
   refine hK255 _ _ _ ?_
   refine SQ [] [none, none, none, none, none] fun _ _ g r => ?_
   try simp [F4]
   and_intros
   try any_goals first | omega | (simp [maxLen, F4] <;> omega)
   obtain ⟨v29, h19, hF⟩ := bnd1_elim hF
   refine AC (w_wire_Text k _ _ _ h19) (.cons (.same (by simp [F4])) (.cons (.same (by simp [F4])) .nil)) ?_
   try simp [F4]
   and_intros <;> first | exact g _ (by kernel_rfl) | refine r _ _ _ ?_ | omega | (simp [maxLen, F4] <;> omega)
   refine RM h0 [(0, 1)] [(2, AV.slc 0 0 1 v29.length false)] [(0, .grow (List.map (AV.int .u8) v29))] 1 (by simp [F4]) (by simp [F4]) ?_
   simp only [Option.some.injEq] at hF
   subst hF
   refine AW.ret (hQ _ _ _ ?_ (matchO_0 ?_)).1
   ·simp [Try.f120, F4]
   ·simp [F4]
theorem w_digest_rounds (k : Nat) (v0 : (List Int)) (hF : digest_rounds k = some v0) :
  FCall Try.prog 58 [] [] (AV.agg (List.map (AV.int .u32) v0)) [] := by
 unfold digest_rounds at hF
 refine EN Try.func58 ?_
 intro c0 w0 Q h0 hQ
 refine WK [] [] 0 (by simp) (by simp) ?_
 refine SQ [] [none] fun _ _ g r => ?_
 try simp
 and_intros <;> first | exact g _ (by kernel_rfl) | refine r _ _ _ ?_ | omega | (simp [maxLen] <;> omega)
 refine WK [(0, AV.ptr 0 0)] [(0, .cells (List.map (AV.int .u32) (List.replicate 64 0)))] 1 (by simp) (by simp) ?_
 refine SQ [] [none, none] fun _ _ g r => ?_
 obtain ⟨h1, hF⟩ := chk_elim hF
 try simp [h1]
 and_intros <;> first | exact g _ (by kernel_rfl) | refine r _ _ _ ?_ | omega | (simp [h1, maxLen] <;> omega)
 refine WK [(0, AV.ptr 0 0)] [(0, .cells (List.map (AV.int .u32) ([1116352408, 1899447441, 3049323471, 3921009573, 961987163, 1508970993, 2453635748, 2870763221, 3624381080, 310598401, 607225278, 1426881987, 1925078388, 2162078206, 2614888103, 3248222580, 3835390401, 4022224774, 264347078, 604807628, 770255983, 1249150122, 1555081692, 1996064986, 2554220882, 2821834349, 2952996808, 3210313671, 3336571891, 3584528711, 113926993, 338241895, 666307205, 773529912, 1294757372, 1396182291, 1695183700, 1986661051, 2177026350, 2456956037, 2730485921, 2820302411, 3259730800, 3345764771, 3516065817, 3600352804, 4094571909, 275423344, 430227734, 506948616, 659060556, 883997877, 958139571, 1322822218, 1537002063, 1747873779, 1955562222, 2024104815, 2227730452, 2361852424, 2428436474, 2756734187, 3204031479, 3329325298] : List Int)))] 1 (by simp [h1]) (by simp [h1]) ?_
 obtain ⟨h2, hF⟩ := chk_elim hF
 have h2_ := ne_of_len h2 (by decide)
 simp only [Option.some.injEq] at hF
 subst hF
 refine AW.ret (hQ _ _ _ ?_ (matchO_0 ?_)).1
 ·have F1 := And.intro h1 (And.intro h2 h2_)
  simp [Try.f58, F1]
 ·have F2 := And.intro h1 (And.intro h2 h2_)
  simp [F2]
theorem w_math_bits_RotateLeft32 (k : Nat) (v0 : Int) (v1 : Int) (v2 : Int) (hF : math_bits_RotateLeft32 k v0 v1 = some v2) :
  FCall Try.prog 94 [AV.int .u32 v0, AV.int .i64 v1] [] (AV.int .u32 v2) [] := by
 unfold math_bits_RotateLeft32 at hF
 refine EN Try.func94 ?_
 intro c0 w0 Q h0 hQ
 refine WK [(0, AV.int .u32 v0), (1, Iz v1)] [] 0 (by simp) (by simp) ?_
 refine SQ [] [none] fun _ _ g r => ?_
 try simp
 and_intros <;> first | exact g _ (by kernel_rfl) | refine r _ _ _ ?_ | omega | (simp [maxLen] <;> omega)
 refine WK [(0, AV.int .u32 v0), (1, Iz v1)] [] 0 (by simp) (by simp) ?_
 refine SQ [] [none, none, none, none] fun _ _ g r => ?_
 try simp
 and_intros <;> first | exact g _ (by kernel_rfl) | refine r _ _ _ ?_ | omega | (simp [maxLen] <;> omega)
 refine WK [(0, AV.int .u32 v0), (5, AV.int .u64 (bitsV .and .u64 (IntKind.wrap .u64 v1) 31))] [] 0 (by simp) (by simp) ?_
 refine SQ [] [none, none, none, none, none, none, none, none, none] fun _ _ g r => ?_
 obtain ⟨h1, hF⟩ := chk_elim hF
 obtain ⟨h2, hF⟩ := chk_elim hF
 try simp [h1, h2]
 and_intros <;> first | exact g _ (by kernel_rfl) | refine r _ _ _ ?_ | omega | (simp [h1, h2, maxLen] <;> omega)
 refine WK [(4, AV.int .u32 (bitsV .or .u32 (IntKind.wrap .u32 (v0 * 2 ^ (min ((bitsV .and .u64 (IntKind.wrap .u64 v1) 31).toNat) 32))) (Int.fdiv v0 (2 ^ (min ((IntKind.wrap .u64 (32 - bitsV .and .u64 (IntKind.wrap .u64 v1) 31)).toNat) 32)))))] [] 0 (by simp [h1, h2]) (by simp [h1, h2]) ?_
 simp only [Option.some.injEq] at hF
 subst hF
 refine AW.ret (hQ _ _ _ ?_ (matchO_0 ?_)).1
 ·simp [Try.f94, h1, h2]
 ·simp [h1, h2]
theorem w_digest_state_block_1 (k : Nat) (v0 : Int) (v1 : Int) (v2 : Int) (hF : digest_state_block_1 k v0 v1 = some v2) :
  FCall Try.prog 93 [AV.int .u32 v0, AV.int .i64 v1] [] (AV.int .u32 v2) [] := by
 unfold digest_state_block_1 at hF
 refine EN Try.func93 ?_
 intro c0 w0 Q h0 hQ
 refine WK [(0, AV.int .u32 v0), (1, Iz v1)] [] 0 (by simp) (by simp) ?_
 refine SQ [] [none] fun _ _ g r => ?_
 try simp
 and_intros <;> first | exact g _ (by kernel_rfl) | refine r _ _ _ ?_ | omega | (simp [maxLen] <;> omega)
 refine WK [(0, AV.int .u32 v0), (1, Iz v1)] [] 0 (by simp) (by simp) ?_
 refine SQ [] [none, none, none, none, none] fun _ _ g r => ?_
 try simp
 and_intros
 try any_goals first | omega | (simp [maxLen] <;> omega)
 obtain ⟨v3, h1, hF⟩ := bnd1_elim hF
 refine AC (w_math_bits_RotateLeft32 k _ _ _ h1) (.cons (.same (by simp)) (.cons (.same (by simp)) .nil)) ?_
 try simp
 and_intros <;> first | exact g _ (by kernel_rfl) | refine r _ _ _ ?_ | omega | (simp [maxLen] <;> omega)
 refine WK [(4, AV.int .u32 v3)] [] 0 (by simp) (by simp) ?_
 simp only [Option.some.injEq] at hF
 subst hF
 refine AW.ret (hQ _ _ _ ?_ (matchO_0 ?_)).1
 ·simp [Try.f93]
 ·simp
theorem w_digest_state_block (k : Nat) (v0 : (List Int)) (v1 : (List Int)) (v2 : (List Int)) (v3 : (List Int)) (hF : digest_state_block k v0 v1 v2 = some v3) :
  FCall Try.prog 59 [AV.ptr 0 0, AV.lst false false (List.map (AV.int .u8) v1), AV.ptr 1 0] [.cells (List.map (AV.int .u32) v0), .cells (List.map (AV.int .u32) v2)] (AV.tup []) [some (.cells (List.map (AV.int .u32) v3)), some (.cells (List.map (AV.int .u32) v2))] := by
 unfold digest_state_block at hF
 refine EN Try.func59 ?_
 intro c0 w0 Q h0 hQ
 refine WK [(0, AV.ptr 0 0), (1, Lb v1), (2, AV.ptr 1 0)] [(0, .cells (List.map (AV.int .u32) v0)), (1, .cells (List.map (AV.int .u32) v2))] 2 (by simp) (by simp) ?_
 refine SQ [] [none] fun _ _ g r => ?_
 try simp
 and_intros <;> first | exact g _ (by kernel_rfl) | refine r _ _ _ ?_ | omega | (simp [maxLen] <;> omega)
 refine WK [(0, AV.ptr 0 0), (1, Lb v1), (2, AV.ptr 1 0), (6, AV.ptr 2 0)] [(0, .cells (List.map (AV.int .u32) v0)), (1, .cells (List.map (AV.int .u32) v2)), (2, .cells (List.map (AV.int .u32) (List.replicate 64 0)))] 3 (by simp) (by simp) ?_
 refine AW.seq fun K336 hK336 => ?_
 refine SQ [] [none] fun _ _ g r => ?_
 try simp
 and_intros <;> first | exact g _ (by kernel_rfl) | refine r _ _ _ ?_ | omega | (simp [maxLen] <;> omega)
 refine WK [(0, AV.ptr 0 0), (1, Lb v1), (2, AV.ptr 1 0), (6, AV.ptr 2 0), (19, Iz 0)] [(0, .cells (List.map (AV.int .u32) v0)), (1, .cells (List.map (AV.int .u32) v2)), (2, .cells (List.map (AV.int .u32) (List.replicate 64 0)))] 3 (by simp) (by simp) ?_
 refine AW.block ?_
 refine AW.loopF (α := (Int × (List Int))) (fun n (v4, v5) => digest_state_block.L1 k v0 v1 v2 n v4 v5 = some v3) (fun (v4, v5) => [(0, AV.ptr 0 0), (1, Lb v1), (2, AV.ptr 1 0), (6, AV.ptr 2 0), (19, Iz v4)]) (fun (v4, v5) => [(0, .cells (List.map (AV.int .u32) v0)), (1, .cells (List.map (AV.int .u32) v2)), (2, .cells (List.map (AV.int .u32) v5))]) 3 k ((0, (List.replicate 64 0))) hF (by simp) (by simp) (by simp) ?_
 rintro (_|n1) ⟨v4, v5⟩ hF K362 hK362
 ·try dsimp only at hF
  rw [digest_state_block.L1] at hF; cases hF
 try dsimp only at hF
 rw [digest_state_block.L1] at hF
 refine SQ [] [none] fun _ _ g r => ?_
 try simp
 and_intros <;> first | exact g _ (by kernel_rfl) | refine r _ _ _ ?_ | omega | (simp [maxLen] <;> omega)
 refine WK [(0, AV.ptr 0 0), (1, Lb v1), (2, AV.ptr 1 0), (6, AV.ptr 2 0), (19, Iz v4), (20, AV.bool (decide (v4 < 16)))] [(0, .cells (List.map (AV.int .u32) v0)), (1, .cells (List.map (AV.int .u32) v2)), (2, .cells (List.map (AV.int .u32) v5))] 3 (by simp) (by simp) ?_
 refine AW.seq fun K364 hK364 => ?_
 by_cases h1 : v4 < 16
 ·replace hF := ite_t h1 hF
  have h1_ := h1
  try simp at h1_
  refine CT (by simp [h1, h1_] <;> omega) ?_
  refine AW.skip ?_
  refine hK364 _ _ _ ?_
  refine AW.seq fun K367 hK367 => ?_
  refine AW.block ?_
  refine SQ [] [none, none] fun _ _ g r => ?_
  try simp [h1, h1_]
  and_intros <;> first | exact g _ (by kernel_rfl) | refine r _ _ _ ?_ | omega | (simp [h1, h1_, maxLen] <;> omega)
  refine WK [(0, AV.ptr 0 0), (1, Lb v1), (2, AV.ptr 1 0), (6, AV.ptr 2 0), (7, Iz v4), (19, Iz v4)] [(0, .cells (List.map (AV.int .u32) v0)), (1, .cells (List.map (AV.int .u32) v2)), (2, .cells (List.map (AV.int .u32) v5))] 3 (by simp [h1, h1_]) (by simp [h1, h1_]) ?_
  refine RG [] [none, none, none, none, none, none, none, none, none, none, none, none, none, none, none, none, none, none, none, none, none, none, none, none, none, none, none, none, none, none, none, none, none, none, none, none] fun _ _ g r => ?_
  obtain ⟨v6, h2, h3, h4, hF⟩ := idx_elim hF
  have h4_ := get_of h4
  try simp at h4_
  have h3_ := h3
  try simp at h3_
  obtain ⟨v7, h5, h6, h7, hF⟩ := idx_elim hF
  have h7_ := get_of h7
  try simp at h7_
  have h6_ := h6
  try simp at h6_
  obtain ⟨v8, h8, h9, h10, hF⟩ := idx_elim hF
  have h10_ := get_of h10
  try simp at h10_
  have h9_ := h9
  try simp at h9_
  obtain ⟨v9, h11, h12, h13, hF⟩ := idx_elim hF
  have h13_ := get_of h13
  try simp at h13_
  have h12_ := h12
  try simp at h12_
  obtain ⟨⟨h14, h16, h15⟩, hF⟩ := chk_elim hF
  have h15_ := ne_of_lt h15
  have F1 := And.intro h1 (And.intro h1_ (And.intro h2 (And.intro h3 (And.intro h4 (And.intro h4_ (And.intro h3_ (And.intro h5 (And.intro h6 (And.intro h7 (And.intro h7_ (And.intro h6_ (And.intro h8 (And.intro h9 (And.intro h10 (And.intro h10_ (And.intro h9_ (And.intro h11 (And.intro h12 (And.intro h13 (And.intro h13_ (And.intro h12_ (And.intro h14 (And.intro h15 (And.intro h16 h15_))))))))))))))))))))))))
  try simp [F1]
  and_intros <;> first | exact g _ (by kernel_rfl) | refine r _ _ _ ?_ | omega | (simp [maxLen, F1] <;> omega)
  refine hK367 _ _ _ ?_
  refine WK [(0, AV.ptr 0 0), (1, Lb v1), (2, AV.ptr 1 0), (6, AV.ptr 2 0), (19, Iz v4)] [(0, .cells (List.map (AV.int .u32) v0)), (1, .cells (List.map (AV.int .u32) v2)), (2, .cells (List.map (AV.int .u32) (v5.set (v4).toNat (bitsV .or .u32 (bitsV .or .u32 (bitsV .or .u32 (IntKind.wrap .u32 ((IntKind.wrap .u32 v6) * 2 ^ (24))) (IntKind.wrap .u32 ((IntKind.wrap .u32 v7) * 2 ^ (16)))) (IntKind.wrap .u32 ((IntKind.wrap .u32 v8) * 2 ^ (8)))) (IntKind.wrap .u32 v9)))))] 3 (by simp [F1]) (by simp [F1]) ?_
  refine RG [] [none, none] fun _ _ g r => ?_
  try simp [F1]
  and_intros <;> first | exact g _ (by kernel_rfl) | refine r _ _ _ ?_ | omega | (simp [maxLen, F1] <;> omega)
  refine hK362 _ _ _ ?_
  exact Can.next (k' := n1) ((IntKind.wrap .i64 (v4 + 1), v5.set (v4).toNat (bitsV .or .u32 (bitsV .or .u32 (bitsV .or .u32 (IntKind.wrap .u32 ((IntKind.wrap .u32 v6) * 2 ^ (24))) (IntKind.wrap .u32 ((IntKind.wrap .u32 v7) * 2 ^ (16)))) (IntKind.wrap .u32 ((IntKind.wrap .u32 v8) * 2 ^ (8)))) (IntKind.wrap .u32 v9)))) (by omega) hF (by simp [F1]) (by simp [F1]) (by simp)
 ·replace hF := ite_f h1 hF
  have h1_ := h1
  try simp at h1_
  refine CF (by simp [h1, h1_] <;> omega) ?_
  refine AW.exit ?_
  try simp
  refine hK336 _ _ _ ?_
  refine SQ [] [none] fun _ _ g r => ?_
  try simp [h1, h1_]
  and_intros <;> first | exact g _ (by kernel_rfl) | refine r _ _ _ ?_ | omega | (simp [h1, h1_, maxLen] <;> omega)
  refine WK [(0, AV.ptr 0 0), (2, AV.ptr 1 0), (6, AV.ptr 2 0), (8, AV.fn 93 [])] [(0, .cells (List.map (AV.int .u32) v0)), (1, .cells (List.map (AV.int .u32) v2)), (2, .cells (List.map (AV.int .u32) v5))] 3 (by simp [h1, h1_]) (by simp [h1, h1_]) ?_
  refine AW.seq fun K410 hK410 => ?_
  refine SQ [] [none] fun _ _ g r => ?_
  try simp [h1, h1_]
  and_intros <;> first | exact g _ (by kernel_rfl) | refine r _ _ _ ?_ | omega | (simp [h1, h1_, maxLen] <;> omega)
  refine WK [(0, AV.ptr 0 0), (2, AV.ptr 1 0), (6, AV.ptr 2 0), (8, AV.fn 93 []), (9, Iz 16)] [(0, .cells (List.map (AV.int .u32) v0)), (1, .cells (List.map (AV.int .u32) v2)), (2, .cells (List.map (AV.int .u32) v5))] 3 (by simp [h1, h1_]) (by simp [h1, h1_]) ?_
  refine AW.block ?_
  refine AW.loopF (α := (Int × (List Int))) (fun n (v10, v11) => digest_state_block.L2 k v0 v2 n v10 v11 = some v3) (fun (v10, v11) => [(0, AV.ptr 0 0), (2, AV.ptr 1 0), (6, AV.ptr 2 0), (8, AV.fn 93 []), (9, Iz v10)]) (fun (v10, v11) => [(0, .cells (List.map (AV.int .u32) v0)), (1, .cells (List.map (AV.int .u32) v2)), (2, .cells (List.map (AV.int .u32) v11))]) 3 k ((16, v5)) hF (by simp [h1, h1_]) (by simp [h1, h1_]) (by simp) ?_
  rintro (_|n2) ⟨v10, v11⟩ hF K439 hK439
  ·try dsimp only at hF
   rw [digest_state_block.L2] at hF; cases hF
  try dsimp only at hF
  rw [digest_state_block.L2] at hF
  refine AW.seq fun K441 hK441 => ?_
  refine SQ [] [none, none] fun _ _ g r => ?_
  try simp [h1, h1_]
  and_intros <;> first | exact g _ (by kernel_rfl) | refine r _ _ _ ?_ | omega | (simp [h1, h1_, maxLen] <;> omega)
  refine WK [(0, AV.ptr 0 0), (2, AV.ptr 1 0), (6, AV.ptr 2 0), (8, AV.fn 93 []), (9, Iz v10), (59, AV.bool (decide (v10 < 64)))] [(0, .cells (List.map (AV.int .u32) v0)), (1, .cells (List.map (AV.int .u32) v2)), (2, .cells (List.map (AV.int .u32) v11))] 3 (by simp [h1, h1_]) (by simp [h1, h1_]) ?_
  by_cases h17 : v10 < 64
  ·replace hF := ite_t h17 hF
   have h17_ := h17
   try simp at h17_
   have F2 := And.intro h1 (And.intro h1_ (And.intro h17 h17_))
   refine CT (by simp [F2] <;> omega) ?_
   refine AW.skip ?_
   refine hK441 _ _ _ ?_
   refine AW.seq fun K445 hK445 => ?_
   refine AW.block ?_
   refine SQ [] [none, none, none, none, none, none, none, none, none, none] fun _ _ g r => ?_
   obtain ⟨⟨h18, h20, h19⟩, hF⟩ := chk_elim hF
   have h19_ := ne_of_lt h19
   obtain ⟨v12, h21, h22, h23, hF⟩ := idx_elim hF
   have h23_ := get_of h23
   try simp at h23_
   have h22_ := h22
   try simp at h22_
   obtain ⟨⟨h24, h26, h25⟩, hF⟩ := chk_elim hF
   have h25_ := ne_of_lt h25
   obtain ⟨v13, h27, h28, h29, hF⟩ := idx_elim hF
   have h29_ := get_of h29
   try simp at h29_
   have h28_ := h28
   try simp at h28_
   have F3 := And.intro F2 (And.intro h18 (And.intro h19 (And.intro h20 (And.intro h19_ (And.intro h21 (And.intro h22 (And.intro h23 (And.intro h23_ (And.intro h22_ (And.intro h24 (And.intro h25 (And.intro h26 (And.intro h25_ (And.intro h27 (And.intro h28 (And.intro h29 (And.intro h29_ h28_)))))))))))))))))
   try simp [F3]
   and_intros <;> first | exact g _ (by kernel_rfl) | refine r _ _ _ ?_ | omega | (simp [maxLen, F3] <;> omega)
   refine WK [(0, AV.ptr 0 0), (2, AV.ptr 1 0), (6, AV.ptr 2 0), (8, AV.fn 93 []), (9, Iz v10), (10, AV.int .u32 v12), (11, AV.int .u32 v13)] [(0, .cells (List.map (AV.int .u32) v0)), (1, .cells (List.map (AV.int .u32) v2)), (2, .cells (List.map (AV.int .u32) v11))] 3 (by simp [F3]) (by simp [F3]) ?_
   refine RG [] [none, none, none, none, none, none, none, none, none, none, none, none, none, none, none, none, none, none, none, none, none, none, none, none, none, none, none, none, none, none, none, none, none, none] fun _ _ g r => ?_
   obtain ⟨⟨h30, h32, h31⟩, hF⟩ := chk_elim hF
   have h31_ := ne_of_lt h31
   obtain ⟨v14, h33, h34, h35, hF⟩ := idx_elim hF
   have h35_ := get_of h35
   try simp at h35_
   have h34_ := h34
   try simp at h34_
   have F4 := And.intro F3 (And.intro h30 (And.intro h31 (And.intro h32 (And.intro h31_ (And.intro h33 (And.intro h34 (And.intro h35 (And.intro h35_ h34_))))))))
   try simp [F4]
   and_intros
   try any_goals first | omega | (simp [maxLen, F4] <;> omega)
   obtain ⟨v15, h36, hF⟩ := bnd1_elim hF
   refine AC (w_digest_state_block_1 k _ _ _ h36) (.cons (.same (by simp [F4])) (.cons (.same (by simp [F4])) .nil)) ?_
   try simp [F4]
   and_intros
   try any_goals first | omega | (simp [maxLen, F4] <;> omega)
   obtain ⟨v16, h37, hF⟩ := bnd1_elim hF
   refine AC (w_digest_state_block_1 k _ _ _ h37) (.cons (.same (by simp [F4])) (.cons (.same (by simp [F4])) .nil)) ?_
   obtain ⟨⟨h38, h40, h39⟩, hF⟩ := chk_elim hF
   have h39_ := ne_of_lt h39
   obtain ⟨v17, h41, h42, h43, hF⟩ := idx_elim hF
   have h43_ := get_of h43
   try simp at h43_
   have h42_ := h42
   try simp at h42_
   have F5 := And.intro F4 (And.intro h38 (And.intro h39 (And.intro h40 (And.intro h39_ (And.intro h41 (And.intro h42 (And.intro h43 (And.intro h43_ h42_))))))))
   try simp [F5]
   and_intros
   try any_goals first | omega | (simp [maxLen, F5] <;> omega)
   obtain ⟨v18, h44, hF⟩ := bnd1_elim hF
   refine AC (w_digest_state_block_1 k _ _ _ h44) (.cons (.same (by simp [F5])) (.cons (.same (by simp [F5])) .nil)) ?_
   try simp [F5]
   and_intros
   try any_goals first | omega | (simp [maxLen, F5] <;> omega)
   obtain ⟨v19, h45, hF⟩ := bnd1_elim hF
   refine AC (w_digest_state_block_1 k _ _ _ h45) (.cons (.same (by simp [F5])) (.cons (.same (by simp [F5])) .nil)) ?_
   obtain ⟨⟨h46, h48, h47⟩, hF⟩ := chk_elim hF
   have h47_ := ne_of_lt h47
   have F6 := And.intro F5 (And.intro h46 (And.intro h47 (And.intro h48 h47_)))
   try simp [F6]
   and_intros <;> first | exact g _ (by kernel_rfl) | refine r _ _ _ ?_ | omega | (simp [maxLen, F6] <;> omega)
   refine hK445 _ _ _ ?_
   refine WK [(0, AV.ptr 0 0), (2, AV.ptr 1 0), (6, AV.ptr 2 0), (8, AV.fn 93 []), (9, Iz v10)] [(0, .cells (List.map (AV.int .u32) v0)), (1, .cells (List.map (AV.int .u32) v2)), (2, .cells (List.map (AV.int .u32) (v11.set (v10).toNat (IntKind.wrap .u32 (IntKind.wrap .u32 (IntKind.wrap .u32 (v14 + bitsV .xor .u32 (bitsV .xor .u32 v15 v16) (Int.fdiv v12 (2 ^ (3)))) + v17) + bitsV .xor .u32 (bitsV .xor .u32 v18 v19) (Int.fdiv v13 (2 ^ (10))))))))] 3 (by simp [F6]) (by simp [F6]) ?_
   refine RG [] [none, none, none] fun _ _ g r => ?_
   try simp [F6]
   and_intros <;> first | exact g _ (by kernel_rfl) | refine r _ _ _ ?_ | omega | (simp [maxLen, F6] <;> omega)
   refine hK439 _ _ _ ?_
   exact Can.next (k' := n2) ((IntKind.wrap .i64 (v10 + 1), v11.set (v10).toNat (IntKind.wrap .u32 (IntKind.wrap .u32 (IntKind.wrap .u32 (v14 + bitsV .xor .u32 (bitsV .xor .u32 v15 v16) (Int.fdiv v12 (2 ^ (3)))) + v17) + bitsV .xor .u32 (bitsV .xor .u32 v18 v19) (Int.fdiv v13 (2 ^ (10))))))) (by omega) hF (by simp [F6]) (by simp [F6]) (by simp)
  ·replace hF := ite_f h17 hF
   have h17_ := h17
   try simp at h17_
   have F7 := And.intro h1 (And.intro h1_ (And.intro h17 h17_))
   refine CF (by simp [F7] <;> omega) ?_
   refine AW.exit ?_
   try simp
   refine hK410 _ _ _ ?_
   refine SQ [] [none, none, none, none, none] fun _ _ g r => ?_
   -- array load
   obtain ⟨h49, hF⟩ := chk_elim hF
   have h49_ := ne_of_len h49 (by decide)
   obtain ⟨h50, hF⟩ := chk_elim hF
   have F8 := And.intro F7 (And.intro h49 (And.intro h49_ h50))
   try simp [F8]
   and_intros <;> first | exact g _ (by kernel_rfl) | refine r _ _ _ ?_ | omega | (simp [maxLen, F8] <;> omega)
   refine WK [(0, AV.ptr 0 0), (2, AV.ptr 1 0), (6, AV.ptr 2 0), (8, AV.fn 93 []), (12, AV.ptr 3 0)] [(0, .cells (List.map (AV.int .u32) v0)), (1, .cells (List.map (AV.int .u32) v2)), (2, .cells (List.map (AV.int .u32) v11)), (3, .cells (List.map (AV.int .u32) v0))] 4 (by simp [F8]) (by simp [F8]) ?_
   refine AW.seq fun K508 hK508 => ?_
   refine SQ [] [none] fun _ _ g r => ?_
   try simp [F8]
   and_intros <;> first | exact g _ (by kernel_rfl) | refine r _ _ _ ?_ | omega | (simp [maxLen, F8] <;> omega)
   refine WK [(0, AV.ptr 0 0), (2, AV.ptr 1 0), (6, AV.ptr 2 0), (8, AV.fn 93 []), (12, AV.ptr 3 0), (106, Iz 0)] [(0, .cells (List.map (AV.int .u32) v0)), (1, .cells (List.map (AV.int .u32) v2)), (2, .cells (List.map (AV.int .u32) v11)), (3, .cells (List.map (AV.int .u32) v0))] 4 (by simp [F8]) (by simp [F8]) ?_
   refine AW.block ?_
   refine AW.loopF (α := (Int × (List Int))) (fun n (v20, v21) => digest_state_block.L3 k v0 v2 v11 n v20 v21 = some v3) (fun (v20, v21) => [(0, AV.ptr 0 0), (2, AV.ptr 1 0), (6, AV.ptr 2 0), (8, AV.fn 93 []), (12, AV.ptr 3 0), (106, Iz v20)]) (fun (v20, v21) => [(0, .cells (List.map (AV.int .u32) v0)), (1, .cells (List.map (AV.int .u32) v2)), (2, .cells (List.map (AV.int .u32) v11)), (3, .cells (List.map (AV.int .u32) v21))]) 4 k ((0, v0)) hF (by simp [F8]) (by simp [F8]) (by simp) ?_
   rintro (_|n3) ⟨v20, v21⟩ hF K552 hK552
   ·try dsimp only at hF
    rw [digest_state_block.L3] at hF; cases hF
   try dsimp only at hF
   rw [digest_state_block.L3] at hF
   refine SQ [] [none] fun _ _ g r => ?_
   try simp [F8]
   and_intros <;> first | exact g _ (by kernel_rfl) | refine r _ _ _ ?_ | omega | (simp [maxLen, F8] <;> omega)
   refine WK [(0, AV.ptr 0 0), (2, AV.ptr 1 0), (6, AV.ptr 2 0), (8, AV.fn 93 []), (12, AV.ptr 3 0), (106, Iz v20), (107, AV.bool (decide (v20 < 64)))] [(0, .cells (List.map (AV.int .u32) v0)), (1, .cells (List.map (AV.int .u32) v2)), (2, .cells (List.map (AV.int .u32) v11)), (3, .cells (List.map (AV.int .u32) v21))] 4 (by simp [F8]) (by simp [F8]) ?_
   refine AW.seq fun K554 hK554 => ?_
   by_cases h51 : v20 < 64
   ·replace hF := ite_t h51 hF
    have h51_ := h51
    try simp at h51_
    have F9 := And.intro F8 (And.intro h51 h51_)
    refine CT (by simp [F9] <;> omega) ?_
    refine AW.skip ?_
    refine hK554 _ _ _ ?_
    refine AW.seq fun K560 hK560 => ?_
    refine AW.block ?_
    refine SQ [] [none, none] fun _ _ g r => ?_
    try simp [F9]
    and_intros <;> first | exact g _ (by kernel_rfl) | refine r _ _ _ ?_ | omega | (simp [maxLen, F9] <;> omega)
    refine WK [(0, AV.ptr 0 0), (2, AV.ptr 1 0), (6, AV.ptr 2 0), (8, AV.fn 93 []), (12, AV.ptr 3 0), (13, Iz v20), (106, Iz v20)] [(0, .cells (List.map (AV.int .u32) v0)), (1, .cells (List.map (AV.int .u32) v2)), (2, .cells (List.map (AV.int .u32) v11)), (3, .cells (List.map (AV.int .u32) v21))] 4 (by simp [F9]) (by simp [F9]) ?_
    refine SQ [] [none, none, none, none, none, none] fun _ _ g r => ?_
    obtain ⟨⟨h52, h54, h53⟩, hF⟩ := chk_elim hF
    have h53_ := ne_of_lt h53
    obtain ⟨v22, h55, h56, h57, hF⟩ := idx_elim hF
    have h57_ := get_of h57
    try simp at h57_
    have h56_ := h56
    try simp at h56_
    have h57z := head_of h57
    obtain ⟨⟨h58, h60, h59⟩, hF⟩ := chk_elim hF
    have h59_ := ne_of_lt h59
    obtain ⟨v23, h61, h62, h63, hF⟩ := idx_elim hF
    have h63_ := get_of h63
    try simp at h63_
    have h62_ := h62
    try simp at h62_
    have F10 := And.intro F9 (And.intro h52 (And.intro h53 (And.intro h54 (And.intro h53_ (And.intro h55 (And.intro h56 (And.intro h57 (And.intro h57_ (And.intro h56_ (And.intro h57z (And.intro h58 (And.intro h59 (And.intro h60 (And.intro h59_ (And.intro h61 (And.intro h62 (And.intro h63 (And.intro h63_ h62_))))))))))))))))))
    try simp [F10]
    and_intros <;> first | exact g _ (by kernel_rfl) | refine r _ _ _ ?_ | omega | (simp [maxLen, F10] <;> omega)
    refine WK [(0, AV.ptr 0 0), (2, AV.ptr 1 0), (6, AV.ptr 2 0), (8, AV.fn 93 []), (12, AV.ptr 3 0), (13, Iz v20), (14, AV.int .u32 v22), (15, AV.int .u32 v23), (106, Iz v20)] [(0, .cells (List.map (AV.int .u32) v0)), (1, .cells (List.map (AV.int .u32) v2)), (2, .cells (List.map (AV.int .u32) v11)), (3, .cells (List.map (AV.int .u32) v21))] 4 (by simp [F10]) (by simp [F10]) ?_
    refine SQ [] [none, none, none, none, none, none, none, none, none, none, none, none, none, none, none, none, none, none, none, none, none, none, none, none, none, none, none, none, none, none, none, none, none, none, none, none] fun _ _ g r => ?_
    obtain ⟨⟨h64, h66, h65⟩, hF⟩ := chk_elim hF
    have h65_ := ne_of_lt h65
    obtain ⟨v24, h67, h68, h69, hF⟩ := idx_elim hF
    have h69_ := get_of h69
    try simp at h69_
    have h68_ := h68
    try simp at h68_
    have F11 := And.intro F10 (And.intro h64 (And.intro h65 (And.intro h66 (And.intro h65_ (And.intro h67 (And.intro h68 (And.intro h69 (And.intro h69_ h68_))))))))
    try simp [F11]
    and_intros
    try any_goals first | omega | (simp [maxLen, F11] <;> omega)
    obtain ⟨v25, h70, hF⟩ := bnd1_elim hF
    refine AC (w_digest_state_block_1 k _ _ _ h70) (.cons (.same (by simp [F11])) (.cons (.same (by simp [F11])) .nil)) ?_
    try simp [F11]
    and_intros
    try any_goals first | omega | (simp [maxLen, F11] <;> omega)
    obtain ⟨v26, h71, hF⟩ := bnd1_elim hF
    refine AC (w_digest_state_block_1 k _ _ _ h71) (.cons (.same (by simp [F11])) (.cons (.same (by simp [F11])) .nil)) ?_
    try simp [F11]
    and_intros
    try any_goals first | omega | (simp [maxLen, F11] <;> omega)
    obtain ⟨v27, h72, hF⟩ := bnd1_elim hF
    refine AC (w_digest_state_block_1 k _ _ _ h72) (.cons (.same (by simp [F11])) (.cons (.same (by simp [F11])) .nil)) ?_
    obtain ⟨⟨h73, h75, h74⟩, hF⟩ := chk_elim hF
    have h74_ := ne_of_lt h74
    obtain ⟨v28, h76, h77, h78, hF⟩ := idx_elim hF
    have h78_ := get_of h78
    try simp at h78_
    have h77_ := h77
    try simp at h77_
    obtain ⟨⟨h79, h81, h80⟩, hF⟩ := chk_elim hF
    have h80_ := ne_of_lt h80
    obtain ⟨v29, h82, h83, h84, hF⟩ := idx_elim hF
    have h84_ := get_of h84
    try simp at h84_
    have h83_ := h83
    try simp at h83_
    obtain ⟨⟨h85, h87, h86⟩, hF⟩ := chk_elim hF
    have h86_ := ne_of_lt h86
    obtain ⟨v30, h88, h89, h90, hF⟩ := idx_elim hF
    have h90_ := get_of h90
    try simp at h90_
    have h89_ := h89
    try simp at h89_
    obtain ⟨⟨h91, h93, h92⟩, hF⟩ := chk_elim hF
    have h92_ := ne_of_lt h92
    obtain ⟨v31, h94, h95, h96, hF⟩ := idx_elim hF
    have h96_ := get_of h96
    try simp at h96_
    have h95_ := h95
    try simp at h95_
    have F12 := And.intro F11 (And.intro h73 (And.intro h74 (And.intro h75 (And.intro h74_ (And.intro h76 (And.intro h77 (And.intro h78 (And.intro h78_ (And.intro h77_ (And.intro h79 (And.intro h80 (And.intro h81 (And.intro h80_ (And.intro h82 (And.intro h83 (And.intro h84 (And.intro h84_ (And.intro h83_ (And.intro h85 (And.intro h86 (And.intro h87 (And.intro h86_ (And.intro h88 (And.intro h89 (And.intro h90 (And.intro h90_ (And.intro h89_ (And.intro h91 (And.intro h92 (And.intro h93 (And.intro h92_ (And.intro h94 (And.intro h95 (And.intro h96 (And.intro h96_ h95_)))))))))))))))))))))))))))))))))))
    try simp [F12]
    and_intros <;> first | exact g _ (by kernel_rfl) | refine r _ _ _ ?_ | omega | (simp [maxLen, F12] <;> omega)
    refine WK [(0, AV.ptr 0 0), (2, AV.ptr 1 0), (6, AV.ptr 2 0), (8, AV.fn 93 []), (12, AV.ptr 3 0), (14, AV.int .u32 v22), (16, AV.int .u32 (IntKind.wrap .u32 (IntKind.wrap .u32 (IntKind.wrap .u32 (IntKind.wrap .u32 (v24 + bitsV .xor .u32 (bitsV .xor .u32 v25 v26) v27) + bitsV .xor .u32 (bitsV .and .u32 v23 v28) (bitsV .and .u32 (bitsV .xor .u32 (IntKind.max .u32) v23) v29)) + v30) + v31))), (106, Iz v20)] [(0, .cells (List.map (AV.int .u32) v0)), (1, .cells (List.map (AV.int .u32) v2)), (2, .cells (List.map (AV.int .u32) v11)), (3, .cells (List.map (AV.int .u32) v21))] 4 (by simp [F12]) (by simp [F12]) ?_
    refine SQ [] [none, none, none, none, none, none, none, none, none, none, none, none, none, none, none, none, none, none, none, none, none, none, none, none, none, none, none, none] fun _ _ g r => ?_
    try simp [F12]
    and_intros
    try any_goals first | omega | (simp [maxLen, F12] <;> omega)
    obtain ⟨v32, h97, hF⟩ := bnd1_elim hF
    refine AC (w_digest_state_block_1 k _ _ _ h97) (.cons (.same (by simp [F12])) (.cons (.same (by simp [F12])) .nil)) ?_
    try simp [F12]
    and_intros
    try any_goals first | omega | (simp [maxLen, F12] <;> omega)
    obtain ⟨v33, h98, hF⟩ := bnd1_elim hF
    refine AC (w_digest_state_block_1 k _ _ _ h98) (.cons (.same (by simp [F12])) (.cons (.same (by simp [F12])) .nil)) ?_
    try simp [F12]
    and_intros
    try any_goals first | omega | (simp [maxLen, F12] <;> omega)
    obtain ⟨v34, h99, hF⟩ := bnd1_elim hF
    refine AC (w_digest_state_block_1 k _ _ _ h99) (.cons (.same (by simp [F12])) (.cons (.same (by simp [F12])) .nil)) ?_
    obtain ⟨⟨h100, h102, h101⟩, hF⟩ := chk_elim hF
    have h101_ := ne_of_lt h101
    obtain ⟨v35, h103, h104, h105, hF⟩ := idx_elim hF
    have h105_ := get_of h105
    try simp at h105_
    have h104_ := h104
    try simp at h104_
    obtain ⟨⟨h106, h108, h107⟩, hF⟩ := chk_elim hF
    have h107_ := ne_of_lt h107
    obtain ⟨v36, h109, h110, h111, hF⟩ := idx_elim hF
    have h111_ := get_of h111
    try simp at h111_
    have h110_ := h110
    try simp at h110_
    obtain ⟨⟨h112, h114, h113⟩, hF⟩ := chk_elim hF
    have h113_ := ne_of_lt h113
    obtain ⟨⟨h115, h117, h116⟩, hF⟩ := chk_elim hF
    have h116_ := ne_of_lt h116
    have F13 := And.intro F12 (And.intro h100 (And.intro h101 (And.intro h102 (And.intro h101_ (And.intro h103 (And.intro h104 (And.intro h105 (And.intro h105_ (And.intro h104_ (And.intro h106 (And.intro h107 (And.intro h108 (And.intro h107_ (And.intro h109 (And.intro h110 (And.intro h111 (And.intro h111_ (And.intro h110_ (And.intro h112 (And.intro h113 (And.intro h114 (And.intro h113_ (And.intro h115 (And.intro h116 (And.intro h117 h116_)))))))))))))))))))))))))
    try simp [F13]
    and_intros <;> first | exact g _ (by kernel_rfl) | refine r _ _ _ ?_ | omega | (simp [maxLen, F13] <;> omega)
    refine WK [(0, AV.ptr 0 0), (2, AV.ptr 1 0), (6, AV.ptr 2 0), (8, AV.fn 93 []), (12, AV.ptr 3 0), (16, AV.int .u32 (IntKind.wrap .u32 (IntKind.wrap .u32 (IntKind.wrap .u32 (IntKind.wrap .u32 (v24 + bitsV .xor .u32 (bitsV .xor .u32 v25 v26) v27) + bitsV .xor .u32 (bitsV .and .u32 v23 v28) (bitsV .and .u32 (bitsV .xor .u32 (IntKind.max .u32) v23) v29)) + v30) + v31))), (17, AV.int .u32 (IntKind.wrap .u32 (bitsV .xor .u32 (bitsV .xor .u32 v32 v33) v34 + bitsV .xor .u32 (bitsV .xor .u32 (bitsV .and .u32 v22 v35) (bitsV .and .u32 v22 v36)) (bitsV .and .u32 v35 v36)))), (106, Iz v20)] [(0, .cells (List.map (AV.int .u32) v0)), (1, .cells (List.map (AV.int .u32) v2)), (2, .cells (List.map (AV.int .u32) v11)), (3, .cells (List.map (AV.int .u32) v21))] 4 (by simp [F13]) (by simp [F13]) ?_
    refine RG [] [none, none, none, none, none, none, none, none, none, none, none, none, none, none, none, none, none, none, none, none, none] fun _ _ g r => ?_
    obtain ⟨⟨h118, h120, h119⟩, hF⟩ := chk_elim hF
    have h119_ := ne_of_lt h119
    obtain ⟨⟨h121, h123, h122⟩, hF⟩ := chk_elim hF
    have h122_ := ne_of_lt h122
    obtain ⟨⟨h124, h126, h125⟩, hF⟩ := chk_elim hF
    have h125_ := ne_of_lt h125
    obtain ⟨⟨h127, h129, h128⟩, hF⟩ := chk_elim hF
    have h128_ := ne_of_lt h128
    obtain ⟨v37, h130, h131, h132, hF⟩ := idx_elim hF
    have h132_ := get_of h132
    try simp at h132_
    have h131_ := h131
    try simp at h131_
    obtain ⟨⟨h133, h135, h134⟩, hF⟩ := chk_elim hF
    have h134_ := ne_of_lt h134
    obtain ⟨⟨h136, h138, h137⟩, hF⟩ := chk_elim hF
    have h137_ := ne_of_lt h137
    obtain ⟨⟨h139, h141, h140⟩, hF⟩ := chk_elim hF
    have h140_ := ne_of_lt h140
    obtain ⟨h142, hF⟩ := chk_elim hF
    have F14 := And.intro F13 (And.intro h118 (And.intro h119 (And.intro h120 (And.intro h119_ (And.intro h121 (And.intro h122 (And.intro h123 (And.intro h122_ (And.intro h124 (And.intro h125 (And.intro h126 (And.intro h125_ (And.intro h127 (And.intro h128 (And.intro h129 (And.intro h128_ (And.intro h130 (And.intro h131 (And.intro h132 (And.intro h132_ (And.intro h131_ (And.intro h133 (And.intro h134 (And.intro h135 (And.intro h134_ (And.intro h136 (And.intro h137 (And.intro h138 (And.intro h137_ (And.intro h139 (And.intro h140 (And.intro h141 (And.intro h140_ h142)))))))))))))))))))))))))))))))))
    try simp [F14]
    and_intros <;> first | exact g _ (by kernel_rfl) | refine r _ _ _ ?_ | omega | (simp [maxLen, F14] <;> omega)
    refine hK560 _ _ _ ?_
    refine WK [(0, AV.ptr 0 0), (2, AV.ptr 1 0), (6, AV.ptr 2 0), (8, AV.fn 93 []), (12, AV.ptr 3 0), (106, Iz v20)] [(0, .cells (List.map (AV.int .u32) v0)), (1, .cells (List.map (AV.int .u32) v2)), (2, .cells (List.map (AV.int .u32) v11)), (3, .cells (List.map (AV.int .u32) ([IntKind.wrap .u32 (IntKind.wrap .u32 (IntKind.wrap .u32 (IntKind.wrap .u32 (IntKind.wrap .u32 (v24 + bitsV .xor .u32 (bitsV .xor .u32 v25 v26) v27) + bitsV .xor .u32 (bitsV .and .u32 v23 v28) (bitsV .and .u32 (bitsV .xor .u32 (IntKind.max .u32) v23) v29)) + v30) + v31) + IntKind.wrap .u32 (bitsV .xor .u32 (bitsV .xor .u32 v32 v33) v34 + bitsV .xor .u32 (bitsV .xor .u32 (bitsV .and .u32 v22 v35) (bitsV .and .u32 v22 v36)) (bitsV .and .u32 v35 v36))), v22, v35, v36, IntKind.wrap .u32 (v37 + IntKind.wrap .u32 (IntKind.wrap .u32 (IntKind.wrap .u32 (IntKind.wrap .u32 (v24 + bitsV .xor .u32 (bitsV .xor .u32 v25 v26) v27) + bitsV .xor .u32 (bitsV .and .u32 v23 v28) (bitsV .and .u32 (bitsV .xor .u32 (IntKind.max .u32) v23) v29)) + v30) + v31)), v23, v28, v29] : List Int)))] 4 (by simp [F14]) (by simp [F14]) ?_
    refine RG [] [none, none] fun _ _ g r => ?_
    try simp [F14]
    and_intros <;> first | exact g _ (by kernel_rfl) | refine r _ _ _ ?_ | omega | (simp [maxLen, F14] <;> omega)
    refine hK552 _ _ _ ?_
    exact Can.next (k' := n3) ((IntKind.wrap .i64 (v20 + 1), ([IntKind.wrap .u32 (IntKind.wrap .u32 (IntKind.wrap .u32 (IntKind.wrap .u32 (IntKind.wrap .u32 (v24 + bitsV .xor .u32 (bitsV .xor .u32 v25 v26) v27) + bitsV .xor .u32 (bitsV .and .u32 v23 v28) (bitsV .and .u32 (bitsV .xor .u32 (IntKind.max .u32) v23) v29)) + v30) + v31) + IntKind.wrap .u32 (bitsV .xor .u32 (bitsV .xor .u32 v32 v33) v34 + bitsV .xor .u32 (bitsV .xor .u32 (bitsV .and .u32 v22 v35) (bitsV .and .u32 v22 v36)) (bitsV .and .u32 v35 v36))), v22, v35, v36, IntKind.wrap .u32 (v37 + IntKind.wrap .u32 (IntKind.wrap .u32 (IntKind.wrap .u32 (IntKind.wrap .u32 (v24 + bitsV .xor .u32 (bitsV .xor .u32 v25 v26) v27) + bitsV .xor .u32 (bitsV .and .u32 v23 v28) (bitsV .and .u32 (bitsV .xor .u32 (IntKind.max .u32) v23) v29)) + v30) + v31)), v23, v28, v29] : List Int))) (by omega) hF (by simp [F14]) (by simp [F14]) (by simp)
   ·replace hF := ite_f h51 hF
    have h51_ := h51
    try simp at h51_
    have F15 := And.intro F8 (And.intro h51 h51_)
    refine CF (by simp [F15] <;> omega) ?_
    refine AW.exit ?_
    try simp
    refine hK508 _ _ _ ?_
    refine SQ [] [none] fun _ _ g r => ?_
    try simp [F15]
    and_intros <;> first | exact g _ (by kernel_rfl) | refine r _ _ _ ?_ | omega | (simp [maxLen, F15] <;> omega)
    refine WK [(0, AV.ptr 0 0), (12, AV.ptr 3 0), (196, Iz 0)] [(0, .cells (List.map (AV.int .u32) v0)), (1, .cells (List.map (AV.int .u32) v2)), (3, .cells (List.map (AV.int .u32) v21))] 4 (by simp [F15]) (by simp [F15]) ?_
    refine AW.block ?_
    refine AW.rnm (m := 2) h0 [(0, 0), (1, 1), (2, 3)] [(0, AV.ptr 0 0), (12, AV.ptr 2 0), (196, Iz 0)] [(0, .cells (List.map (AV.int .u32) v0)), (1, .cells (List.map (AV.int .u32) v2)), (2, .cells (List.map (AV.int .u32) v21))] 3 (by decide) (by decide) (by decide) rfl (by simp [F15]) (by simp [F15]) ?_
    refine AW.loopF (α := (Int × (List Int))) (fun n (v38, v39) => digest_state_block.L4 k v21 n v38 v39 = some v3) (fun (v38, v39) => [(0, AV.ptr 0 0), (12, AV.ptr 2 0), (196, Iz v38)]) (fun (v38, v39) => [(0, .cells (List.map (AV.int .u32) v39)), (1, .cells (List.map (AV.int .u32) v2)), (2, .cells (List.map (AV.int .u32) v21))]) 3 k ((0, v0)) hF (by simp [F15]) (by simp [F15]) (by simp) ?_
    rintro (_|n4) ⟨v38, v39⟩ hF K592 hK592
    ·try dsimp only at hF
     rw [digest_state_block.L4] at hF; cases hF
    try dsimp only at hF
    rw [digest_state_block.L4] at hF
    refine SQ [] [none] fun _ _ g r => ?_
    try simp [F15]
    and_intros <;> first | exact g _ (by kernel_rfl) | refine r _ _ _ ?_ | omega | (simp [maxLen, F15] <;> omega)
    refine WK [(0, AV.ptr 0 0), (12, AV.ptr 2 0), (196, Iz v38), (197, AV.bool (decide (v38 < 8)))] [(0, .cells (List.map (AV.int .u32) v39)), (1, .cells (List.map (AV.int .u32) v2)), (2, .cells (List.map (AV.int .u32) v21))] 3 (by simp [F15]) (by simp [F15]) ?_
    refine AW.seq fun K594 hK594 => ?_
    by_cases h143 : v38 < 8
    ·replace hF := ite_t h143 hF
     have h143_ := h143
     try simp at h143_
     have F16 := And.intro F15 (And.intro h143 h143_)
     refine CT (by simp [F16] <;> omega) ?_
     refine AW.skip ?_
     refine hK594 _ _ _ ?_
     refine AW.seq fun K597 hK597 => ?_
     refine AW.block ?_
     refine SQ [] [none, none] fun _ _ g r => ?_
     try simp [F16]
     and_intros <;> first | exact g _ (by kernel_rfl) | refine r _ _ _ ?_ | omega | (simp [maxLen, F16] <;> omega)
     refine WK [(0, AV.ptr 0 0), (12, AV.ptr 2 0), (18, Iz v38), (196, Iz v38)] [(0, .cells (List.map (AV.int .u32) v39)), (1, .cells (List.map (AV.int .u32) v2)), (2, .cells (List.map (AV.int .u32) v21))] 3 (by simp [F16]) (by simp [F16]) ?_
     refine RG [] [none, none, none, none, none, none, none, none, none, none, none, none] fun _ _ g r => ?_
     obtain ⟨⟨h144, h146, h145⟩, hF⟩ := chk_elim hF
     have h145_ := ne_of_lt h145
     obtain ⟨v40, h147, h148, h149, hF⟩ := idx_elim hF
     have h149_ := get_of h149
     try simp at h149_
     have h148_ := h148
     try simp at h148_
     obtain ⟨⟨h150, h152, h151⟩, hF⟩ := chk_elim hF
     have h151_ := ne_of_lt h151
     obtain ⟨v41, h153, h154, h155, hF⟩ := idx_elim hF
     have h155_ := get_of h155
     try simp at h155_
     have h154_ := h154
     try simp at h154_
     obtain ⟨⟨h156, h158, h157⟩, hF⟩ := chk_elim hF
     have h157_ := ne_of_lt h157
     have F17 := And.intro F16 (And.intro h144 (And.intro h145 (And.intro h146 (And.intro h145_ (And.intro h147 (And.intro h148 (And.intro h149 (And.intro h149_ (And.intro h148_ (And.intro h150 (And.intro h151 (And.intro h152 (And.intro h151_ (And.intro h153 (And.intro h154 (And.intro h155 (And.intro h155_ (And.intro h154_ (And.intro h156 (And.intro h157 (And.intro h158 h157_)))))))))))))))))))))
     try simp [F17]
     and_intros <;> first | exact g _ (by kernel_rfl) | refine r _ _ _ ?_ | omega | (simp [maxLen, F17] <;> omega)
     refine hK597 _ _ _ ?_
     refine WK [(0, AV.ptr 0 0), (12, AV.ptr 2 0), (196, Iz v38)] [(0, .cells (List.map (AV.int .u32) (v39.set (v38).toNat (IntKind.wrap .u32 (v40 + v41))))), (1, .cells (List.map (AV.int .u32) v2)), (2, .cells (List.map (AV.int .u32) v21))] 3 (by simp [F17]) (by simp [F17]) ?_
     refine RG [] [none, none] fun _ _ g r => ?_
     try simp [F17]
     and_intros <;> first | exact g _ (by kernel_rfl) | refine r _ _ _ ?_ | omega | (simp [maxLen, F17] <;> omega)
     refine hK592 _ _ _ ?_
     exact Can.next (k' := n4) ((IntKind.wrap .i64 (v38 + 1), v39.set (v38).toNat (IntKind.wrap .u32 (v40 + v41)))) (by omega) hF (by simp [F17]) (by simp [F17]) (by simp)
    ·replace hF := ite_f h143 hF
     have h143_ := h143
     try simp at h143_
     have F18 := And.intro F15 (And.intro h143 h143_)
     refine CF (by simp [F18] <;> omega) ?_
     refine AW.exit ?_
     try simp
     simp only [Option.some.injEq] at hF
     subst hF
     refine (hQ _ _ _ ?_ (matchO_0 ?_)).2
     ·simp [Try.f59, F18]
     ·simp [F18]
theorem w_digest_Sum (k : Nat) (v0 : (List Int)) (v1 : ByteArray) (hF : digest_Sum k v0 = some v1) :
  FCall Try.prog 14 [AV.lst false false (List.map (AV.int .u8) v0)] [] (AV.str v1) [] := by
 unfold digest_Sum at hF
 refine EN Try.func14 ?_
 intro c0 w0 Q h0 hQ
 refine WK [(0, Lb v0)] [] 0 (by simp) (by simp) ?_
 refine SQ [] [none] fun _ _ g r => ?_
 try simp
 and_intros <;> first | exact g _ (by kernel_rfl) | refine r _ _ _ ?_ | omega | (simp [maxLen] <;> omega)
 refine WK [(0, Lb v0)] [] 0 (by simp) (by simp) ?_
 refine SQ [12] [none, none, none, none, none] fun _ _ g r => ?_
 obtain ⟨h1, hF⟩ := chk_elim hF
 have h1_ := h1
 try simp at h1_
 obtain ⟨h2, hF⟩ := chk_elim hF
 have h2_ := h2
 try simp at h2_
 try simp [h1, h2]
 and_intros <;> first | exact g _ (by kernel_rfl) | refine r _ _ _ ?_ | omega | (simp [h1, h2, maxLen] <;> omega)
 refine WK [(0, Lb v0), (3, AV.slc 1 0 1 ((v0 ++ ([128] : List Int)).length) false)] [(1, .grow (List.map (AV.int .u8) (v0 ++ ([128] : List Int))))] 2 (by simp [h1, h2] <;> omega) (by simp [h1, h2]) ?_
 refine AW.seq fun K250 hK250 => ?_
 refine AW.block ?_
 refine RM h0 [(0, 1)] [(0, Lb v0), (3, AV.slc 0 0 1 ((v0 ++ ([128] : List Int)).length) false)] [(0, .grow (List.map (AV.int .u8) (v0 ++ ([128] : List Int))))] 1 (by simp [h1, h2]) (by simp [h1, h2]) ?_
 refine AW.loopF (α := (List Int)) (fun n v2 => digest_Sum.L1 k v0 n v2 = some v1) (fun v2 => [(0, Lb v0), (3, AV.slc 0 0 1 v2.length false)]) (fun v2 => [(0, .grow (List.map (AV.int .u8) v2))]) 1 k (v0 ++ ([128] : List Int)) hF (by simp [h1, h2]) (by simp [h1, h2]) (by simp) ?_
 rintro (_|n1) v2 hF K263 hK263
 ·try dsimp only at hF
  rw [digest_Sum.L1] at hF; cases hF
 try dsimp only at hF
 rw [digest_Sum.L1] at hF
 refine AW.seq fun K265 hK265 => ?_
 refine SQ [] [none, none, none, none] fun _ _ g r => ?_
 try simp [h1, h2]
 and_intros <;> first | exact g _ (by kernel_rfl) | refine r _ _ _ ?_ | omega | (simp [h1, h2, maxLen] <;> omega)
 refine WK [(0, Lb v0), (3, AV.slc 0 0 1 v2.length false), (18, AV.bool ((Int.tmod (v2.length : Int) 64) != 56))] [(0, .grow (List.map (AV.int .u8) v2))] 1 (by simp [h1, h2]) (by simp [h1, h2]) ?_
 by_cases h3 : (Int.tmod (v2.length : Int) 64) ≠ 56
 ·replace hF := ite_t h3 hF
  have h3_ := eqb_f h3
  have h3__ := neb_t h3
  refine CT (by simp [h1, h2, h3, h3_, h3__] <;> omega) ?_
  refine AW.skip ?_
  refine hK265 _ _ _ ?_
  refine AW.block ?_
  refine RG [] [none, none, none, none] fun _ _ g r => ?_
  obtain ⟨h4, hF⟩ := chk_elim hF
  have h4_ := h4
  try simp at h4_
  have F1 := And.intro h1 (And.intro h2 (And.intro h3 (And.intro h3_ (And.intro h3__ h4))))
  try simp [F1]
  and_intros <;> first | exact g _ (by kernel_rfl) | refine r _ _ _ ?_ | omega | (simp [maxLen, F1] <;> omega)
  refine hK263 _ _ _ ?_
  refine RN h0 [(0, 1)] [(0, Lb v0), (3, AV.slc 0 0 1 ((v2 ++ ([0] : List Int)).length) false)] [(0, .grow (List.map (AV.int .u8) (v2 ++ ([0] : List Int))))] 1 (by simp [F1] <;> omega) (by simp [F1]) ?_
  exact Can.next (k' := n1) (v2 ++ ([0] : List Int)) (by omega) hF (by simp [F1]) (by simp [F1]) (by simp)
 ·replace hF := ite_f h3 hF
  have h3q : (Int.tmod (v2.length : Int) 64) = 56 := Classical.not_not.1 h3
  have h3_ := eqb_t h3q
  have h3__ := neb_f h3q
  have F2 := And.intro h1 (And.intro h2 (And.intro h3_ (And.intro h3__ h3q)))
  refine CF (by simp [F2] <;> omega) ?_
  refine AW.exit ?_
  try simp
  refine hK250 _ _ _ ?_
  refine SQ [] [none, none, none, none, none] fun _ _ g r => ?_
  try simp [F2]
  and_intros <;> first | exact g _ (by kernel_rfl) | refine r _ _ _ ?_ | omega | (simp [maxLen, F2] <;> omega)
  refine WK [(3, AV.slc 0 0 1 v2.length false), (4, AV.int .u64 (IntKind.wrap .u64 (IntKind.wrap .u64 (v0.length : Int) * 8)))] [(0, .grow (List.map (AV.int .u8) v2))] 1 (by simp [F2]) (by simp [F2]) ?_
  refine AW.seq fun K299 hK299 => ?_
  refine SQ [] [none] fun _ _ g r => ?_
  try simp [F2]
  and_intros <;> first | exact g _ (by kernel_rfl) | refine r _ _ _ ?_ | omega | (simp [maxLen, F2] <;> omega)
  refine WK [(3, AV.slc 0 0 1 v2.length false), (4, AV.int .u64 (IntKind.wrap .u64 (IntKind.wrap .u64 (v0.length : Int) * 8))), (5, Iz 56)] [(0, .grow (List.map (AV.int .u8) v2))] 1 (by simp [F2]) (by simp [F2]) ?_
  refine AW.block ?_
  refine AW.loopF (α := (Int × (List Int))) (fun n (v3, v4) => digest_Sum.L2 k v0 n v3 v4 = some v1) (fun (v3, v4) => [(3, AV.slc 0 0 1 v4.length false), (4, AV.int .u64 (IntKind.wrap .u64 (IntKind.wrap .u64 (v0.length : Int) * 8))), (5, Iz v3)]) (fun (v3, v4) => [(0, .grow (List.map (AV.int .u8) v4))]) 1 k ((56, v2)) hF (by simp [F2]) (by simp [F2]) (by simp) ?_
  rintro (_|n2) ⟨v3, v4⟩ hF K322 hK322
  ·try dsimp only at hF
   rw [digest_Sum.L2] at hF; cases hF
  try dsimp only at hF
  rw [digest_Sum.L2] at hF
  refine AW.seq fun K324 hK324 => ?_
  refine SQ [] [none, none] fun _ _ g r => ?_
  try simp [F2]
  and_intros <;> first | exact g _ (by kernel_rfl) | refine r _ _ _ ?_ | omega | (simp [maxLen, F2] <;> omega)
  refine WK [(3, AV.slc 0 0 1 v4.length false), (4, AV.int .u64 (IntKind.wrap .u64 (IntKind.wrap .u64 (v0.length : Int) * 8))), (5, Iz v3), (27, AV.bool (decide (0 ≤ v3)))] [(0, .grow (List.map (AV.int .u8) v4))] 1 (by simp [F2]) (by simp [F2]) ?_
  by_cases h5 : 0 ≤ v3
  ·replace hF := ite_t h5 hF
   have h5_ := h5
   try simp at h5_
   have F3 := And.intro F2 (And.intro h5 h5_)
   refine CT (by simp [F3] <;> omega) ?_
   refine AW.skip ?_
   refine hK324 _ _ _ ?_
   refine AW.seq fun K327 hK327 => ?_
   refine AW.block ?_
   refine RG [] [none, none, none, none, none, none, none, none, none] fun _ _ g r => ?_
   obtain ⟨h6, hF⟩ := chk_elim hF
   obtain ⟨h7, hF⟩ := chk_elim hF
   have h7_ := h7
   try simp at h7_
   have F4 := And.intro F3 (And.intro h6 h7)
   try simp [F4]
   and_intros <;> first | exact g _ (by kernel_rfl) | refine r _ _ _ ?_ | omega | (simp [maxLen, F4] <;> omega)
   refine hK327 _ _ _ ?_
   refine WK [(3, AV.slc 1 0 1 ((v4 ++ ([IntKind.wrap .u8 (Int.fdiv (IntKind.wrap .u64 (IntKind.wrap .u64 (v0.length : Int) * 8)) (2 ^ (min ((IntKind.wrap .u64 v3).toNat) 64)))] : List Int)).length) false), (4, AV.int .u64 (IntKind.wrap .u64 (IntKind.wrap .u64 (v0.length : Int) * 8))), (5, Iz v3)] [(1, .grow (List.map (AV.int .u8) (v4 ++ ([IntKind.wrap .u8 (Int.fdiv (IntKind.wrap .u64 (IntKind.wrap .u64 (v0.length : Int) * 8)) (2 ^ (min ((IntKind.wrap .u64 v3).toNat) 64)))] : List Int))))] 2 (by simp [F4] <;> omega) (by simp [F4]) ?_
   refine RG [] [none, none, none] fun _ _ g r => ?_
   try simp [F4]
   and_intros <;> first | exact g _ (by kernel_rfl) | refine r _ _ _ ?_ | omega | (simp [maxLen, F4] <;> omega)
   refine hK322 _ _ _ ?_
   refine RN h0 [(0, 1)] [(3, AV.slc 0 0 1 ((v4 ++ ([IntKind.wrap .u8 (Int.fdiv (IntKind.wrap .u64 (IntKind.wrap .u64 (v0.length : Int) * 8)) (2 ^ (min ((IntKind.wrap .u64 v3).toNat) 64)))] : List Int)).length) false), (4, AV.int .u64 (IntKind.wrap .u64 (IntKind.wrap .u64 (v0.length : Int) * 8))), (5, Iz (IntKind.wrap .i64 (v3 - 8)))] [(0, .grow (List.map (AV.int .u8) (v4 ++ ([IntKind.wrap .u8 (Int.fdiv (IntKind.wrap .u64 (IntKind.wrap .u64 (v0.length : Int) * 8)) (2 ^ (min ((IntKind.wrap .u64 v3).toNat) 64)))] : List Int))))] 1 (by simp [F4] <;> omega) (by simp [F4]) ?_
   exact Can.next (k' := n2) ((IntKind.wrap .i64 (v3 - 8), v4 ++ ([IntKind.wrap .u8 (Int.fdiv (IntKind.wrap .u64 (IntKind.wrap .u64 (v0.length : Int) * 8)) (2 ^ (min ((IntKind.wrap .u64 v3).toNat) 64)))] : List Int))) (by omega) hF (by simp [F4]) (by simp [F4]) (by simp)
  ·replace hF := ite_f h5 hF
   have h5_ := h5
   try simp at h5_
   have F5 := And.intro F2 (And.intro h5 h5_)
   refine CF (by simp [F5] <;> omega) ?_
   refine AW.exit ?_
   try simp
   refine hK299 _ _ _ ?_
   refine WK [(3, AV.slc 0 0 1 v4.length false)] [(0, .grow (List.map (AV.int .u8) v4))] 1 (by simp [F5]) (by simp [F5]) ?_
   refine AW.frz 0 (o := .grow (List.map (AV.int .u8) v4)) (by simp [F5]) rfl [(3, Lb v4)] [] ⟨(.l (by simp) (by simp) (by simp) (by simp)), trivial⟩ trivial ?_
   refine WK [(3, Lb v4)] [] 1 (by simp [F5]) (by simp [F5]) ?_
   refine SQ [] [none, none, none, none, none, none] fun _ _ g r => ?_
   try simp [F5]
   and_intros
   try any_goals first | omega | (simp [maxLen, F5] <;> omega)
   obtain ⟨v5, h8, hF⟩ := bnd1_elim hF
   refine AC (w_digest_rounds k _ h8) .nil ?_
   obtain ⟨h9, hF⟩ := chk_elim hF
   obtain ⟨h10, hF⟩ := chk_elim hF
   have F6 := And.intro F5 (And.intro h9 h10)
   try simp [F6]
   and_intros <;> first | exact g _ (by kernel_rfl) | refine r _ _ _ ?_ | omega | (simp [maxLen, F6] <;> omega)
   refine WK [(3, Lb v4), (6, AV.ptr 1 0), (7, AV.ptr 2 0)] [(1, .cells (List.map (AV.int .u32) ([1779033703, 3144134277, 1013904242, 2773480762, 1359893119, 2600822924, 528734635, 1541459225] : List Int))), (2, .cells (List.map (AV.int .u32) v5))] 3 (by simp [F6]) (by simp [F6]) ?_
   refine AW.seq fun K360 hK360 => ?_
   refine AW.block ?_
   refine RM h0 [(0, 1), (1, 2)] [(3, Lb v4), (6, AV.ptr 0 0), (7, AV.ptr 1 0)] [(0, .cells (List.map (AV.int .u32) ([1779033703, 3144134277, 1013904242, 2773480762, 1359893119, 2600822924, 528734635, 1541459225] : List Int))), (1, .cells (List.map (AV.int .u32) v5))] 2 (by simp [F6]) (by simp [F6]) ?_
   refine AW.loopF (α := ((List Int) × (List Int))) (fun n (v6, v7) => digest_Sum.L3 k v5 n v6 v7 = some v1) (fun (v6, v7) => [(3, Lb v6), (6, AV.ptr 0 0), (7, AV.ptr 1 0)]) (fun (v6, v7) => [(0, .cells (List.map (AV.int .u32) v7)), (1, .cells (List.map (AV.int .u32) v5))]) 2 k ((v4, ([1779033703, 3144134277, 1013904242, 2773480762, 1359893119, 2600822924, 528734635, 1541459225] : List Int))) hF (by simp [F6]) (by simp [F6]) (by simp) ?_
   rintro (_|n3) ⟨v6, v7⟩ hF K382 hK382
   ·try dsimp only at hF
    rw [digest_Sum.L3] at hF; cases hF
   try dsimp only at hF
   rw [digest_Sum.L3] at hF
   refine AW.seq fun K384 hK384 => ?_
   refine SQ [] [none, none, none] fun _ _ g r => ?_
   try simp [F6]
   and_intros <;> first | exact g _ (by kernel_rfl) | refine r _ _ _ ?_ | omega | (simp [maxLen, F6] <;> omega)
   refine WK [(3, Lb v6), (6, AV.ptr 0 0), (7, AV.ptr 1 0), (42, AV.bool (decide (0 < (v6.length : Int))))] [(0, .cells (List.map (AV.int .u32) v7)), (1, .cells (List.map (AV.int .u32) v5))] 2 (by simp [F6]) (by simp [F6]) ?_
   by_cases h11 : 0 < (v6.length : Int)
   ·replace hF := ite_t h11 hF
    have h11_ := h11
    try simp at h11_
    have F7 := And.intro F6 (And.intro h11 h11_)
    refine CT (by simp [F7] <;> omega) ?_
    refine AW.skip ?_
    refine hK384 _ _ _ ?_
    refine AW.seq fun K387 hK387 => ?_
    refine AW.block ?_
    refine RG [] [none, none, none] fun _ _ g r => ?_
    obtain ⟨h12, hF⟩ := chk_elim hF
    have h12_ := h12
    try simp at h12_
    have F8 := And.intro F7 (And.intro h12 h12_)
    try simp [F8]
    and_intros
    try any_goals first | omega | (simp [maxLen, F8] <;> omega)
    obtain ⟨v8, h13, hF⟩ := bnd1_elim hF
    refine aCall_l (w_digest_state_block k _ _ _ _ h13) (by simp) [0, 1] [] [0] rfl (.cons (.same (by simp [F8])) (.cons (.same (by simp [F8])) (.cons (.same (by simp [F8])) .nil))) (by simp [F8]) (by decide) (by simp) (by simp) (.inl rfl) (by simp) (by simp) ?_
    try simp [F8]
    and_intros <;> first | exact g _ (by kernel_rfl) | refine r _ _ _ ?_ | omega | (simp [maxLen, F8] <;> omega)
    refine hK387 _ _ _ ?_
    refine WK [(3, Lb v6), (6, AV.ptr 0 0), (7, AV.ptr 1 0)] [(0, .cells (List.map (AV.int .u32) v8)), (1, .cells (List.map (AV.int .u32) v5))] 2 (by simp [F8]) (by simp [F8]) ?_
    refine RG [] [none, none, none] fun _ _ g r => ?_
    obtain ⟨h14, hF⟩ := chk_elim hF
    have h14_ := h14
    try simp at h14_
    have F9 := And.intro F8 (And.intro h14 h14_)
    try simp [F9]
    and_intros <;> first | exact g _ (by kernel_rfl) | refine r _ _ _ ?_ | omega | (simp [maxLen, F9] <;> omega)
    refine hK382 _ _ _ ?_
    exact Can.next (k' := n3) ((v6.drop (64 : Int).toNat, v8)) (by omega) hF (by simp [F9]) (by simp [F9]) (by simp)
   ·replace hF := ite_f h11 hF
    have h11_ := h11
    try simp at h11_
    have F10 := And.intro F6 (And.intro h11 h11_)
    refine CF (by simp [F10] <;> omega) ?_
    refine AW.exit ?_
    try simp
    refine hK360 _ _ _ ?_
    refine SQ [] [none] fun _ _ g r => ?_
    try simp [F10]
    and_intros <;> first | exact g _ (by kernel_rfl) | refine r _ _ _ ?_ | omega | (simp [maxLen, F10] <;> omega)
    refine WK [(6, AV.ptr 0 0), (8, AV.lst true true (List.map (AV.int .u8) ([] : List Int)))] [(0, .cells (List.map (AV.int .u32) v7))] 2 (by simp [F10]) (by simp [F10]) ?_
    refine AW.seq fun K425 hK425 => ?_
    refine SQ [] [none, none] fun _ _ g r => ?_
    -- array load
    obtain ⟨h15, hF⟩ := chk_elim hF
    have h15_ := ne_of_len h15 (by decide)
    have F11 := And.intro F10 (And.intro h15 h15_)
    try simp [F11]
    and_intros <;> first | exact g _ (by kernel_rfl) | refine r _ _ _ ?_ | omega | (simp [maxLen, F11] <;> omega)
    refine WK [(8, AV.lst true true (List.map (AV.int .u8) ([] : List Int))), (48, AV.agg (List.map (AV.int .u32) v7)), (49, Iz 0)] [] 2 (by simp [F11]) (by simp [F11]) ?_
    refine AW.block ?_
    refine AW.own' 8 1 true (by simp [F11]) (by decide) ?_
    refine RM h0 [(0, 2)] [(8, AV.slc 0 0 1 (([] : List Int).length) false), (48, AV.agg (List.map (AV.int .u32) v7)), (49, Iz 0)] [(0, .grow (List.map (AV.int .u8) ([] : List Int)))] 1 (by simp [F11]) (by simp [F11]) ?_
    refine AW.loopF (α := (Int × (List Int))) (fun n (v9, v10) => digest_Sum.L4 k v7 n v9 v10 = some v1) (fun (v9, v10) => [(8, AV.slc 0 0 1 v10.length false), (48, AV.agg (List.map (AV.int .u32) v7)), (49, Iz v9)]) (fun (v9, v10) => [(0, .grow (List.map (AV.int .u8) v10))]) 1 k ((0, ([] : List Int))) hF (by simp [F11]) (by simp [F11]) (by simp) ?_
    rintro (_|n4) ⟨v9, v10⟩ hF K451 hK451
    ·try dsimp only at hF
     rw [digest_Sum.L4] at hF; cases hF
    try dsimp only at hF
    rw [digest_Sum.L4] at hF
    refine SQ [] [none] fun _ _ g r => ?_
    try simp [F11]
    and_intros <;> first | exact g _ (by kernel_rfl) | refine r _ _ _ ?_ | omega | (simp [maxLen, F11] <;> omega)
    refine WK [(8, AV.slc 0 0 1 v10.length false), (48, AV.agg (List.map (AV.int .u32) v7)), (49, Iz v9), (50, AV.bool (decide (v9 < 8)))] [(0, .grow (List.map (AV.int .u8) v10))] 1 (by simp [F11]) (by simp [F11]) ?_
    refine AW.seq fun K453 hK453 => ?_
    by_cases h16 : v9 < 8
    ·replace hF := ite_t h16 hF
     have h16_ := h16
     try simp at h16_
     have F12 := And.intro F11 (And.intro h16 h16_)
     refine CT (by simp [F12] <;> omega) ?_
     refine AW.skip ?_
     refine hK453 _ _ _ ?_
     refine AW.seq fun K456 hK456 => ?_
     refine AW.block ?_
     refine SQ [] [none, none] fun _ _ g r => ?_
     obtain ⟨h17, hF⟩ := chk_elim hF
     obtain ⟨v11, h18, h19, h20, hF⟩ := idx_elim hF
     have h20_ := get_of h20
     try simp at h20_
     have h19_ := h19
     try simp at h19_
     have F13 := And.intro F12 (And.intro h17 (And.intro h18 (And.intro h19 (And.intro h20 (And.intro h20_ h19_)))))
     try simp [F13]
     and_intros <;> first | exact g _ (by kernel_rfl) | refine r _ _ _ ?_ | omega | (simp [maxLen, F13] <;> omega)
     refine WK [(8, AV.slc 0 0 1 v10.length false), (10, AV.int .u32 v11), (48, AV.agg (List.map (AV.int .u32) v7)), (49, Iz v9)] [(0, .grow (List.map (AV.int .u8) v10))] 1 (by simp [F13]) (by simp [F13]) ?_
     refine RG [] [none, none, none, none, none, none, none, none, none, none, none, none, none, none, none] fun _ _ g r => ?_
     obtain ⟨h21, hF⟩ := chk_elim hF
     have h21_ := h21
     try simp at h21_
     have F14 := And.intro F13 h21
     try simp [F14]
     and_intros <;> first | exact g _ (by kernel_rfl) | refine r _ _ _ ?_ | omega | (simp [maxLen, F14] <;> omega)
     refine hK456 _ _ _ ?_
     refine WK [(8, AV.slc 1 0 1 ((v10 ++ ([IntKind.wrap .u8 (Int.fdiv v11 (2 ^ (24))), IntKind.wrap .u8 (Int.fdiv v11 (2 ^ (16))), IntKind.wrap .u8 (Int.fdiv v11 (2 ^ (8))), IntKind.wrap .u8 v11] : List Int)).length) false), (48, AV.agg (List.map (AV.int .u32) v7)), (49, Iz v9)] [(1, .grow (List.map (AV.int .u8) (v10 ++ ([IntKind.wrap .u8 (Int.fdiv v11 (2 ^ (24))), IntKind.wrap .u8 (Int.fdiv v11 (2 ^ (16))), IntKind.wrap .u8 (Int.fdiv v11 (2 ^ (8))), IntKind.wrap .u8 v11] : List Int))))] 2 (by simp [F14] <;> omega) (by simp [F14]) ?_
     refine RG [] [none, none] fun _ _ g r => ?_
     try simp [F14]
     and_intros <;> first | exact g _ (by kernel_rfl) | refine r _ _ _ ?_ | omega | (simp [maxLen, F14] <;> omega)
     refine hK451 _ _ _ ?_
     refine RN h0 [(0, 1)] [(8, AV.slc 0 0 1 ((v10 ++ ([IntKind.wrap .u8 (Int.fdiv v11 (2 ^ (24))), IntKind.wrap .u8 (Int.fdiv v11 (2 ^ (16))), IntKind.wrap .u8 (Int.fdiv v11 (2 ^ (8))), IntKind.wrap .u8 v11] : List Int)).length) false), (48, AV.agg (List.map (AV.int .u32) v7)), (49, Iz (IntKind.wrap .i64 (v9 + 1)))] [(0, .grow (List.map (AV.int .u8) (v10 ++ ([IntKind.wrap .u8 (Int.fdiv v11 (2 ^ (24))), IntKind.wrap .u8 (Int.fdiv v11 (2 ^ (16))), IntKind.wrap .u8 (Int.fdiv v11 (2 ^ (8))), IntKind.wrap .u8 v11] : List Int))))] 1 (by simp [F14] <;> omega) (by simp [F14]) ?_
     exact Can.next (k' := n4) ((IntKind.wrap .i64 (v9 + 1), v10 ++ ([IntKind.wrap .u8 (Int.fdiv v11 (2 ^ (24))), IntKind.wrap .u8 (Int.fdiv v11 (2 ^ (16))), IntKind.wrap .u8 (Int.fdiv v11 (2 ^ (8))), IntKind.wrap .u8 v11] : List Int))) (by omega) hF (by simp [F14]) (by simp [F14]) (by simp)
    ·replace hF := ite_f h16 hF
     have h16_ := h16
     try simp at h16_
     have F15 := And.intro F11 (And.intro h16 h16_)
     refine CF (by simp [F15] <;> omega) ?_
     refine AW.exit ?_
     try simp
     refine hK425 _ _ _ ?_
     refine WK [(8, AV.slc 0 0 1 v10.length false)] [(0, .grow (List.map (AV.int .u8) v10))] 1 (by simp [F15]) (by simp [F15]) ?_
     refine AW.frz 0 (o := .grow (List.map (AV.int .u8) v10)) (by simp [F15]) rfl [(8, Lb v10)] [] ⟨(.l (by simp) (by simp) (by simp) (by simp)), trivial⟩ trivial ?_
     refine WK [(8, Lb v10)] [] 1 (by simp [F15]) (by simp [F15]) ?_
     refine SQ [] [none, none, none] fun _ _ g r => ?_
     try simp [F15]
     and_intros <;> first | exact g _ (by kernel_rfl) | refine r _ _ _ ?_ | omega | (simp [maxLen, F15] <;> omega)
     refine WK [(2, AV.str (ofI v10))] [] 1 (by simp [F15]) (by simp [F15]) ?_
     simp only [Option.some.injEq] at hF
     subst hF
     refine AW.ret (hQ _ _ _ ?_ (matchO_0 ?_)).1
     ·simp [Try.f14, F15]
     ·simp [F15]
theorem w_statement_Digest (k : Nat) (v0 : Int) (v1 : Int) (v2 : ByteArray) (v3 : Int) (v4 : Int) (v5 : Int) (v6 : Int) (v7 : Int) (v8 : (List Int)) (v9 : (List api_Pin)) (v10 : ByteArray) (v11 : Int) (v12 : ByteArray) (v13 : ByteArray) (hF : statement_Digest k v0 v1 v2 v3 v4 v5 v6 v7 v8 v9 v10 v11 v12 = some v13) :
  FCall Try.prog 108 [AV.agg [AV.int .i64 v0, AV.int .i64 v1, AV.str v2, AV.int .i64 v3, AV.int .i64 v4, AV.int .i64 v5, AV.int .i64 v6, AV.int .i64 v7, AV.lst false false (List.map (AV.int .i64) v8), AV.lst false false (List.map api_Pin.av v9), AV.str v10, AV.int .i64 v11, AV.str v12]] [] (AV.str v13) [] := by
 unfold statement_Digest at hF
 refine EN Try.func108 ?_
 intro c0 w0 Q h0 hQ
 refine WK [(0, AV.agg [Iz v0, Iz v1, AV.str v2, Iz v3, Iz v4, Iz v5, Iz v6, Iz v7, Lz v8, AV.lst false false (List.map api_Pin.av v9), AV.str v10, Iz v11, AV.str v12])] [] 0 (by simp) (by simp) ?_
 refine SQ [] [none, none] fun _ _ g r => ?_
 try simp
 and_intros <;> first | exact g _ (by kernel_rfl) | refine r _ _ _ ?_ | omega | (simp [maxLen] <;> omega)
 refine WK [(1, AV.ptr 0 0)] [(0, .cells [Iz v0, Iz v1, AV.str v2, Iz v3, Iz v4, Iz v5, Iz v6, Iz v7, Lz v8, AV.lst false false (List.map api_Pin.av v9), AV.str v10, Iz v11, AV.str v12])] 1 (by simp) (by simp) ?_
 refine SQ [] [none, none, none, none] fun _ _ g r => ?_
 try simp
 and_intros
 try any_goals first | omega | (simp [maxLen] <;> omega)
 obtain ⟨v14, h1, hF⟩ := bnd1_elim hF
 refine AC (w_statement_Bytes k _ _ _ _ _ _ _ _ _ _ _ _ _ _ h1) (.cons (.same (by simp)) .nil) ?_
 try simp
 and_intros
 try any_goals first | omega | (simp [maxLen] <;> omega)
 obtain ⟨v15, h2, hF⟩ := bnd1_elim hF
 refine aCall_l (w_digest_Sum k _ _ h2) (by simp) [] [1] [] rfl (.cons (Coe.l (o := .grow (List.map (AV.int .u8) v14)) (by simp) rfl (by simp) (by simp [noIdsL]) (by simp) (by simp)) .nil) (by simp) (by decide) (by simp) (by simp) (.inr ⟨by simp, by simp⟩) (by simp) (by simp) ?_
 try simp
 and_intros <;> first | exact g _ (by kernel_rfl) | refine r _ _ _ ?_ | omega | (simp [maxLen] <;> omega)
 refine WK [(2, AV.str v15)] [] 2 (by simp) (by simp) ?_
 simp only [Option.some.injEq] at hF
 subst hF
 refine AW.ret (hQ _ _ _ ?_ (matchO_0 ?_)).1
 ·simp [Try.f108]
 ·simp
theorem w_statement_Sealed (k : Nat) (v0 : Int) (v1 : Int) (v2 : ByteArray) (v3 : Int) (v4 : Int) (v5 : Int) (v6 : Int) (v7 : Int) (v8 : (List Int)) (v9 : (List api_Pin)) (v10 : ByteArray) (v11 : Int) (v12 : ByteArray) (v13 : Bool) (hF : statement_Sealed k v0 v1 v2 v3 v4 v5 v6 v7 v8 v9 v10 v11 v12 = some v13) :
  FCall Try.prog 73 [AV.agg [AV.int .i64 v0, AV.int .i64 v1, AV.str v2, AV.int .i64 v3, AV.int .i64 v4, AV.int .i64 v5, AV.int .i64 v6, AV.int .i64 v7, AV.lst false false (List.map (AV.int .i64) v8), AV.lst false false (List.map api_Pin.av v9), AV.str v10, AV.int .i64 v11, AV.str v12]] [] (AV.bool v13) [] := by
 unfold statement_Sealed at hF
 refine EN Try.func73 ?_
 intro c0 w0 Q h0 hQ
 refine WK [(0, AV.agg [Iz v0, Iz v1, AV.str v2, Iz v3, Iz v4, Iz v5, Iz v6, Iz v7, Lz v8, AV.lst false false (List.map api_Pin.av v9), AV.str v10, Iz v11, AV.str v12])] [] 0 (by simp) (by simp) ?_
 refine SQ [] [none, none] fun _ _ g r => ?_
 try simp
 and_intros <;> first | exact g _ (by kernel_rfl) | refine r _ _ _ ?_ | omega | (simp [maxLen] <;> omega)
 refine WK [(1, AV.ptr 0 0)] [(0, .cells [Iz v0, Iz v1, AV.str v2, Iz v3, Iz v4, Iz v5, Iz v6, Iz v7, Lz v8, AV.lst false false (List.map api_Pin.av v9), AV.str v10, Iz v11, AV.str v12])] 1 (by simp) (by simp) ?_
 refine SQ [] [none, none, none, none, none, none, none, none, none] fun _ _ g r => ?_
 try simp
 and_intros
 try any_goals first | omega | (simp [maxLen] <;> omega)
 obtain ⟨v14, h1, hF⟩ := bnd1_elim hF
 refine AC (w_statement_Digest k _ _ _ _ _ _ _ _ _ _ _ _ _ _ h1) (.cons (.same (by simp)) .nil) ?_
 obtain ⟨v15, h2, hF⟩ := let1_elim hF
 have h2_ := h2
 try simp at h2_
 try simp [h2, h2_]
 and_intros <;> first | exact g _ (by kernel_rfl) | refine r _ _ _ ?_ | omega | (simp [h2, h2_, maxLen] <;> omega)
 refine WK [(2, AV.bool v15)] [] 1 (by simp [h2, h2_]) (by simp [h2, h2_]) ?_
 simp only [Option.some.injEq] at hF
 subst hF
 refine AW.ret (hQ _ _ _ ?_ (matchO_0 ?_)).1
 ·simp [Try.f73, h2, h2_]
 ·simp [h2, h2_]
abbrev c_guardian_Of (v0 : Int) (v1 : Int) (v2 : ByteArray) (v3 : Int) (v4 : Int) (v5 : Int) (v6 : Int) (v7 : Int) (v8 : (List Int)) (v9 : (List api_Pin)) (v10 : ByteArray) (v11 : Int) (v12 : ByteArray) : AObj := .cells [Iz v0, Iz v1, AV.str v2, Iz v3, Iz v4, Iz v5, Iz v6, Iz v7, Lz v8, AV.lst false false (List.map api_Pin.av v9), AV.str v10, Iz v11, AV.str v12]
theorem w_guardian_Of (k : Nat) (v0 : Int) (v1 : Int) (v2 : ByteArray) (v3 : Int) (v4 : Int) (v5 : Int) (v6 : Int) (v7 : Int) (v8 : (List Int)) (v9 : (List api_Pin)) (v10 : ByteArray) (v11 : Int) (v12 : ByteArray) (v13 : Int) (v14 : Int) (v15 : (List Int)) (v16 : Int) (hF : guardian_Of k v0 v1 v2 v3 v4 v5 v6 v7 v8 v9 v10 v11 v12 = some (v13, v14, v15, v16)) :
  FCall Try.prog 26 [AV.agg [AV.int .i64 v0, AV.int .i64 v1, AV.str v2, AV.int .i64 v3, AV.int .i64 v4, AV.int .i64 v5, AV.int .i64 v6, AV.int .i64 v7, AV.lst false false (List.map (AV.int .i64) v8), AV.lst false false (List.map api_Pin.av v9), AV.str v10, AV.int .i64 v11, AV.str v12]] [] (AV.tup [AV.agg [AV.int .i64 v13, AV.int .i64 v14, AV.lst false false (List.map (AV.int .i64) v15)], AV.int .i64 v16]) [] := by
 unfold guardian_Of at hF
 refine EN Try.func26 ?_
 intro c0 w0 Q h0 hQ
 refine WK [(0, AV.agg [Iz v0, Iz v1, AV.str v2, Iz v3, Iz v4, Iz v5, Iz v6, Iz v7, Lz v8, AV.lst false false (List.map api_Pin.av v9), AV.str v10, Iz v11, AV.str v12])] [] 0 (by simp) (by simp) ?_
 refine SQ [] [none, none, none] fun _ _ g r => ?_
 try simp
 and_intros <;> first | exact g _ (by kernel_rfl) | refine r _ _ _ ?_ | omega | (simp [maxLen] <;> omega)
 refine WK [(1, AV.ptr 0 0), (2, AV.ptr 1 0)] [(0, c_guardian_Of v0 v1 v2 v3 v4 v5 v6 v7 v8 v9 v10 v11 v12), (1, .cells [Iz 0, Iz 0, AV.lst true true (List.map (AV.int .i64) ([] : List Int))])] 2 (by simp) (by simp) ?_
 refine AW.seq fun K32 hK32 => ?_
 refine SQ [] [none, none, none] fun _ _ g r => ?_
 try simp
 and_intros
 try any_goals first | omega | (simp [maxLen] <;> omega)
 obtain ⟨v17, h1, hF⟩ := bnd1_elim hF
 refine AC (w_statement_Check k _ _ _ _ _ _ _ _ _ _ _ _ _ _ h1) (.cons (.same (by simp)) .nil) ?_
 try simp
 and_intros <;> first | exact g _ (by kernel_rfl) | refine r _ _ _ ?_ | omega | (simp [maxLen] <;> omega)
 refine WK [(1, AV.ptr 0 0), (2, AV.ptr 1 0), (4, Iz v17)] [(0, c_guardian_Of v0 v1 v2 v3 v4 v5 v6 v7 v8 v9 v10 v11 v12), (1, .cells [Iz 0, Iz 0, AV.lst true true (List.map (AV.int .i64) ([] : List Int))])] 2 (by simp) (by simp) ?_
 refine SQ [] [none, none] fun _ _ g r => ?_
 try simp
 and_intros <;> first | exact g _ (by kernel_rfl) | refine r _ _ _ ?_ | omega | (simp [maxLen] <;> omega)
 refine WK [(1, AV.ptr 0 0), (2, AV.ptr 1 0), (4, Iz v17), (9, AV.bool (v17 != 0))] [(0, c_guardian_Of v0 v1 v2 v3 v4 v5 v6 v7 v8 v9 v10 v11 v12), (1, .cells [Iz 0, Iz 0, AV.lst true true (List.map (AV.int .i64) ([] : List Int))])] 2 (by simp) (by simp) ?_
 by_cases h2 : v17 ≠ 0
 ·replace hF := ite_t h2 hF
  have h2_ := eqb_f h2
  have h2__ := neb_t h2
  have F1 := And.intro h2 (And.intro h2_ h2__)
  refine CT (by simp [F1] <;> omega) ?_
  refine SQ [] [none, none, none, none] fun _ _ g r => ?_
  try simp [F1]
  and_intros <;> first | exact g _ (by kernel_rfl) | refine r _ _ _ ?_ | omega | (simp [maxLen, F1] <;> omega)
  refine RM h0 [(0, 1)] [(2, AV.ptr 0 0), (3, Iz v17)] [(0, .cells [Iz 0, Iz 0, AV.lst true true (List.map (AV.int .i64) ([] : List Int))])] 1 (by simp [F1]) (by simp [F1]) ?_
  refine AW.flg [] [(0, .cells [Iz 0, Iz 0, AV.lst false false (List.map (AV.int .i64) ([] : List Int))])] trivial ⟨⟨AObj.cells [Iz 0, Iz 0, AV.lst true true (List.map (AV.int .i64) ([] : List Int))], by simp [F1], (.mk (.cons (.same _) (.cons (.same _) (.cons (.lst (by simp)) .nil))))⟩, trivial⟩ (by simp) ?_
  simp only [Option.some.injEq, Prod.mk.injEq] at hF
  obtain ⟨e0, e1, e2, e3⟩ := hF
  subst e0 e1 e2 e3
  refine AW.ret (hQ _ _ _ ?_ (matchO_0 ?_)).1
  ·simp [Try.f26, F1]
  ·simp [F1]
 ·replace hF := ite_f h2 hF
  have h2q : v17 = 0 := Classical.not_not.1 h2
  have h2_ := eqb_t h2q
  have h2__ := neb_f h2q
  have F2 := And.intro h2_ (And.intro h2__ h2q)
  refine CF (by simp [F2] <;> omega) ?_
  refine AW.skip ?_
  refine hK32 _ _ _ ?_
  refine SQ [] [none, none, none, none, none, none, none, none, none, none] fun _ _ g r => ?_
  try simp [F2]
  and_intros
  try any_goals first | omega | (simp [maxLen, F2] <;> omega)
  obtain ⟨v18, h3, hF⟩ := bnd1_elim hF
  refine AC (w_slices_Clone_int_int k _ _ h3) (.cons (.same (by simp [F2])) .nil) ?_
  try simp [F2]
  and_intros <;> first | exact g _ (by kernel_rfl) | refine r _ _ _ ?_ | omega | (simp [maxLen, F2] <;> omega)
  refine WK [(1, AV.ptr 0 0), (2, AV.ptr 1 0), (5, AV.ptr 3 0)] [(0, c_guardian_Of v0 v1 v2 v3 v4 v5 v6 v7 v8 v9 v10 v11 v12), (1, .cells [Iz 0, Iz 0, AV.lst true true (List.map (AV.int .i64) ([] : List Int))]), (2, .grow (List.map (AV.int .i64) v18)), (3, .cells [Iz v0, Iz v5, AV.slc 2 0 1 v18.length false])] 4 (by simp [F2]) (by simp [F2]) ?_
  refine AW.frz 2 (o := .grow (List.map (AV.int .i64) v18)) (by simp [F2]) rfl [] [(3, .cells [Iz v0, Iz v5, Lz v18])] trivial ⟨⟨by simp, AObj.cells [Iz v0, Iz v5, AV.slc 2 0 1 v18.length false], by simp [F2], (.mk (.cons (.same _) (.cons (.same _) (.cons (.l (by simp) (by simp) (by simp) (by simp)) .nil))))⟩, trivial⟩ ?_
  refine WK [(1, AV.ptr 0 0), (2, AV.ptr 1 0), (5, AV.ptr 3 0)] [(0, c_guardian_Of v0 v1 v2 v3 v4 v5 v6 v7 v8 v9 v10 v11 v12), (1, .cells [Iz 0, Iz 0, AV.lst true true (List.map (AV.int .i64) ([] : List Int))]), (3, .cells [Iz v0, Iz v5, Lz v18])] 4 (by simp [F2]) (by simp [F2]) ?_
  refine AW.seq fun K45 hK45 => ?_
  refine SQ [] [none, none, none, none, some (23, false), some (23, false), some (23, false), none, none, some (28, false), some (28, false), some (28, false), none, none, some (33, false), some (33, false), some (33, false), none, none, some (38, false), some (38, false), some (38, false), some (38, false), none, none, some (44, false), some (44, false), some (44, false), none, none, some (49, false), some (49, false), some (49, false), none] fun _ _ g r => ?_
  try simp [F2]
  and_intros
  try any_goals first | omega | (simp [maxLen, F2] <;> omega)
  obtain ⟨v19, h4, hF⟩ := bnd1_elim hF
  refine AC (w_statement_Sealed k _ _ _ _ _ _ _ _ _ _ _ _ _ _ h4) (.cons (.same (by simp [F2])) .nil) ?_
  by_cases h5 : (!v19) = true
  ·replace hF := ite_t h5 hF
   have h5_ := h5
   try simp at h5_
   have F3 := And.intro F2 (And.intro h5 h5_)
   try simp [F3]
   and_intros <;> first | exact g _ (by kernel_rfl) | refine r _ _ _ ?_ | omega | (simp [maxLen, F3] <;> omega)
   refine WK [(2, AV.ptr 1 0), (5, AV.ptr 3 0), (53, AV.bool true)] [(1, .cells [Iz 0, Iz 0, AV.lst true true (List.map (AV.int .i64) ([] : List Int))]), (3, .cells [Iz v0, Iz v5, Lz v18])] 4 (by simp [F3]) (by simp [F3]) ?_
   refine CT (by simp [F3]) ?_
   refine SQ [] [none, none, none] fun _ _ g r => ?_
   try simp [F3]
   and_intros <;> first | exact g _ (by kernel_rfl) | refine r _ _ _ ?_ | omega | (simp [maxLen, F3] <;> omega)
   refine RM h0 [(0, 1)] [(2, AV.ptr 0 0), (3, Iz 47)] [(0, .cells [Iz 0, Iz 0, AV.lst true true (List.map (AV.int .i64) ([] : List Int))])] 1 (by simp [F3]) (by simp [F3]) ?_
   refine AW.flg [] [(0, .cells [Iz 0, Iz 0, AV.lst false false (List.map (AV.int .i64) ([] : List Int))])] trivial ⟨⟨AObj.cells [Iz 0, Iz 0, AV.lst true true (List.map (AV.int .i64) ([] : List Int))], by simp [F3], (.mk (.cons (.same _) (.cons (.same _) (.cons (.lst (by simp)) .nil))))⟩, trivial⟩ (by simp) ?_
   simp only [Option.some.injEq, Prod.mk.injEq] at hF
   obtain ⟨e0, e1, e2, e3⟩ := hF
   subst e0 e1 e2 e3
   refine AW.ret (hQ _ _ _ ?_ (matchO_0 ?_)).1
   ·simp [Try.f26, F3]
   ·simp [F3]
  ·replace hF := ite_f h5 hF
   have h5_ := h5
   try simp at h5_
   by_cases h6 : v4 ≠ 12
   ·replace hF := ite_t h6 hF
    have h6_ := eqb_f h6
    have h6__ := neb_t h6
    have F4 := And.intro F2 (And.intro h5 (And.intro h5_ (And.intro h6 (And.intro h6_ h6__))))
    try simp [F4]
    and_intros <;> first | exact g _ (by kernel_rfl) | refine r _ _ _ ?_ | omega | (simp [maxLen, F4] <;> omega)
    refine WK [(2, AV.ptr 1 0), (5, AV.ptr 3 0), (53, AV.bool true)] [(1, .cells [Iz 0, Iz 0, AV.lst true true (List.map (AV.int .i64) ([] : List Int))]), (3, .cells [Iz v0, Iz v5, Lz v18])] 4 (by simp [F4]) (by simp [F4]) ?_
    refine CT (by simp [F4]) ?_
    refine SQ [] [none, none, none] fun _ _ g r => ?_
    try simp [F4]
    and_intros <;> first | exact g _ (by kernel_rfl) | refine r _ _ _ ?_ | omega | (simp [maxLen, F4] <;> omega)
    refine RM h0 [(0, 1)] [(2, AV.ptr 0 0), (3, Iz 47)] [(0, .cells [Iz 0, Iz 0, AV.lst true true (List.map (AV.int .i64) ([] : List Int))])] 1 (by simp [F4]) (by simp [F4]) ?_
    refine AW.flg [] [(0, .cells [Iz 0, Iz 0, AV.lst false false (List.map (AV.int .i64) ([] : List Int))])] trivial ⟨⟨AObj.cells [Iz 0, Iz 0, AV.lst true true (List.map (AV.int .i64) ([] : List Int))], by simp [F4], (.mk (.cons (.same _) (.cons (.same _) (.cons (.lst (by simp)) .nil))))⟩, trivial⟩ (by simp) ?_
    simp only [Option.some.injEq, Prod.mk.injEq] at hF
    obtain ⟨e0, e1, e2, e3⟩ := hF
    subst e0 e1 e2 e3
    refine AW.ret (hQ _ _ _ ?_ (matchO_0 ?_)).1
    ·simp [Try.f26, F4]
    ·simp [F4]
   ·replace hF := ite_f h6 hF
    have h6q : v4 = 12 := Classical.not_not.1 h6
    have h6_ := eqb_t h6q
    have h6__ := neb_f h6q
    by_cases h7 : v6 ≠ 0
    ·replace hF := ite_t h7 hF
     have h7_ := eqb_f h7
     have h7__ := neb_t h7
     have F5 := And.intro F2 (And.intro h5 (And.intro h5_ (And.intro h6_ (And.intro h6__ (And.intro h6q (And.intro h7 (And.intro h7_ h7__)))))))
     try simp [F5]
     and_intros <;> first | exact g _ (by kernel_rfl) | refine r _ _ _ ?_ | omega | (simp [maxLen, F5] <;> omega)
     refine WK [(2, AV.ptr 1 0), (5, AV.ptr 3 0), (53, AV.bool true)] [(1, .cells [Iz 0, Iz 0, AV.lst true true (List.map (AV.int .i64) ([] : List Int))]), (3, .cells [Iz v0, Iz v5, Lz v18])] 4 (by simp [F5]) (by simp [F5]) ?_
     refine CT (by simp [F5]) ?_
     refine SQ [] [none, none, none] fun _ _ g r => ?_
     try simp [F5]
     and_intros <;> first | exact g _ (by kernel_rfl) | refine r _ _ _ ?_ | omega | (simp [maxLen, F5] <;> omega)
     refine RM h0 [(0, 1)] [(2, AV.ptr 0 0), (3, Iz 47)] [(0, .cells [Iz 0, Iz 0, AV.lst true true (List.map (AV.int .i64) ([] : List Int))])] 1 (by simp [F5]) (by simp [F5]) ?_
     refine AW.flg [] [(0, .cells [Iz 0, Iz 0, AV.lst false false (List.map (AV.int .i64) ([] : List Int))])] trivial ⟨⟨AObj.cells [Iz 0, Iz 0, AV.lst true true (List.map (AV.int .i64) ([] : List Int))], by simp [F5], (.mk (.cons (.same _) (.cons (.same _) (.cons (.lst (by simp)) .nil))))⟩, trivial⟩ (by simp) ?_
     simp only [Option.some.injEq, Prod.mk.injEq] at hF
     obtain ⟨e0, e1, e2, e3⟩ := hF
     subst e0 e1 e2 e3
     refine AW.ret (hQ _ _ _ ?_ (matchO_0 ?_)).1
     ·simp [Try.f26, F5]
     ·simp [F5]
    ·replace hF := ite_f h7 hF
     have h7q : v6 = 0 := Classical.not_not.1 h7
     have h7_ := eqb_t h7q
     have h7__ := neb_f h7q
     by_cases h8 : v7 ≠ 0
     ·replace hF := ite_t h8 hF
      have h8_ := eqb_f h8
      have h8__ := neb_t h8
      have F6 := And.intro F2 (And.intro h5 (And.intro h5_ (And.intro h6_ (And.intro h6__ (And.intro h6q (And.intro h7_ (And.intro h7__ (And.intro h7q (And.intro h8 (And.intro h8_ h8__))))))))))
      try simp [F6]
      and_intros <;> first | exact g _ (by kernel_rfl) | refine r _ _ _ ?_ | omega | (simp [maxLen, F6] <;> omega)
      refine WK [(2, AV.ptr 1 0), (5, AV.ptr 3 0), (53, AV.bool true)] [(1, .cells [Iz 0, Iz 0, AV.lst true true (List.map (AV.int .i64) ([] : List Int))]), (3, .cells [Iz v0, Iz v5, Lz v18])] 4 (by simp [F6]) (by simp [F6]) ?_
      refine CT (by simp [F6]) ?_
      refine SQ [] [none, none, none] fun _ _ g r => ?_
      try simp [F6]
      and_intros <;> first | exact g _ (by kernel_rfl) | refine r _ _ _ ?_ | omega | (simp [maxLen, F6] <;> omega)
      refine RM h0 [(0, 1)] [(2, AV.ptr 0 0), (3, Iz 47)] [(0, .cells [Iz 0, Iz 0, AV.lst true true (List.map (AV.int .i64) ([] : List Int))])] 1 (by simp [F6]) (by simp [F6]) ?_
      refine AW.flg [] [(0, .cells [Iz 0, Iz 0, AV.lst false false (List.map (AV.int .i64) ([] : List Int))])] trivial ⟨⟨AObj.cells [Iz 0, Iz 0, AV.lst true true (List.map (AV.int .i64) ([] : List Int))], by simp [F6], (.mk (.cons (.same _) (.cons (.same _) (.cons (.lst (by simp)) .nil))))⟩, trivial⟩ (by simp) ?_
      simp only [Option.some.injEq, Prod.mk.injEq] at hF
      obtain ⟨e0, e1, e2, e3⟩ := hF
      subst e0 e1 e2 e3
      refine AW.ret (hQ _ _ _ ?_ (matchO_0 ?_)).1
      ·simp [Try.f26, F6]
      ·simp [F6]
     ·replace hF := ite_f h8 hF
      have h8q : v7 = 0 := Classical.not_not.1 h8
      have h8_ := eqb_t h8q
      have h8__ := neb_f h8q
      by_cases h9 : 0 < (v9.length : Int)
      ·replace hF := ite_t h9 hF
       have h9_ := h9
       try simp at h9_
       have F7 := And.intro F2 (And.intro h5 (And.intro h5_ (And.intro h6_ (And.intro h6__ (And.intro h6q (And.intro h7_ (And.intro h7__ (And.intro h7q (And.intro h8_ (And.intro h8__ (And.intro h8q (And.intro h9 h9_))))))))))))
       try simp [F7]
       and_intros <;> first | exact g _ (by kernel_rfl) | refine r _ _ _ ?_ | omega | (simp [maxLen, F7] <;> omega)
       refine WK [(2, AV.ptr 1 0), (5, AV.ptr 3 0), (53, AV.bool true)] [(1, .cells [Iz 0, Iz 0, AV.lst true true (List.map (AV.int .i64) ([] : List Int))]), (3, .cells [Iz v0, Iz v5, Lz v18])] 4 (by simp [F7]) (by simp [F7]) ?_
       refine CT (by simp [F7]) ?_
       refine SQ [] [none, none, none] fun _ _ g r => ?_
       try simp [F7]
       and_intros <;> first | exact g _ (by kernel_rfl) | refine r _ _ _ ?_ | omega | (simp [maxLen, F7] <;> omega)
       refine RM h0 [(0, 1)] [(2, AV.ptr 0 0), (3, Iz 47)] [(0, .cells [Iz 0, Iz 0, AV.lst true true (List.map (AV.int .i64) ([] : List Int))])] 1 (by simp [F7]) (by simp [F7]) ?_
       refine AW.flg [] [(0, .cells [Iz 0, Iz 0, AV.lst false false (List.map (AV.int .i64) ([] : List Int))])] trivial ⟨⟨AObj.cells [Iz 0, Iz 0, AV.lst true true (List.map (AV.int .i64) ([] : List Int))], by simp [F7], (.mk (.cons (.same _) (.cons (.same _) (.cons (.lst (by simp)) .nil))))⟩, trivial⟩ (by simp) ?_
       simp only [Option.some.injEq, Prod.mk.injEq] at hF
       obtain ⟨e0, e1, e2, e3⟩ := hF
       subst e0 e1 e2 e3
       refine AW.ret (hQ _ _ _ ?_ (matchO_0 ?_)).1
       ·simp [Try.f26, F7]
       ·simp [F7]
      ·replace hF := ite_f h9 hF
       have h9_ := h9
       try simp at h9_
       by_cases h10 : (!strEq v10 (ByteArray.mk #[])) = true
       ·replace hF := ite_t h10 hF
        have h10_ := h10
        try simp at h10_
        have F8 := And.intro F2 (And.intro h5 (And.intro h5_ (And.intro h6_ (And.intro h6__ (And.intro h6q (And.intro h7_ (And.intro h7__ (And.intro h7q (And.intro h8_ (And.intro h8__ (And.intro h8q (And.intro h9 (And.intro h9_ (And.intro h10 h10_))))))))))))))
        try simp [F8]
        and_intros <;> first | exact g _ (by kernel_rfl) | refine r _ _ _ ?_ | omega | (simp [maxLen, F8] <;> omega)
        refine WK [(2, AV.ptr 1 0), (5, AV.ptr 3 0), (53, AV.bool true)] [(1, .cells [Iz 0, Iz 0, AV.lst true true (List.map (AV.int .i64) ([] : List Int))]), (3, .cells [Iz v0, Iz v5, Lz v18])] 4 (by simp [F8]) (by simp [F8]) ?_
        refine CT (by simp [F8]) ?_
        refine SQ [] [none, none, none] fun _ _ g r => ?_
        try simp [F8]
        and_intros <;> first | exact g _ (by kernel_rfl) | refine r _ _ _ ?_ | omega | (simp [maxLen, F8] <;> omega)
        refine RM h0 [(0, 1)] [(2, AV.ptr 0 0), (3, Iz 47)] [(0, .cells [Iz 0, Iz 0, AV.lst true true (List.map (AV.int .i64) ([] : List Int))])] 1 (by simp [F8]) (by simp [F8]) ?_
        refine AW.flg [] [(0, .cells [Iz 0, Iz 0, AV.lst false false (List.map (AV.int .i64) ([] : List Int))])] trivial ⟨⟨AObj.cells [Iz 0, Iz 0, AV.lst true true (List.map (AV.int .i64) ([] : List Int))], by simp [F8], (.mk (.cons (.same _) (.cons (.same _) (.cons (.lst (by simp)) .nil))))⟩, trivial⟩ (by simp) ?_
        simp only [Option.some.injEq, Prod.mk.injEq] at hF
        obtain ⟨e0, e1, e2, e3⟩ := hF
        subst e0 e1 e2 e3
        refine AW.ret (hQ _ _ _ ?_ (matchO_0 ?_)).1
        ·simp [Try.f26, F8]
        ·simp [F8]
       ·replace hF := ite_f h10 hF
        have h10_ := h10
        try simp at h10_
        have F9 := And.intro F2 (And.intro h5 (And.intro h5_ (And.intro h6_ (And.intro h6__ (And.intro h6q (And.intro h7_ (And.intro h7__ (And.intro h7q (And.intro h8_ (And.intro h8__ (And.intro h8q (And.intro h9 (And.intro h9_ (And.intro h10 h10_))))))))))))))
        try simp [F9]
        and_intros
        try any_goals first | omega | (simp [maxLen, F9] <;> omega)
        obtain ⟨v20, h11, hF⟩ := bnd1_elim hF
        refine AC (w_guardian_Valid k _ _ _ _ h11) (.cons (.same (by simp [F9])) .nil) ?_
        try simp [F9]
        and_intros <;> first | exact g _ (by kernel_rfl) | refine r _ _ _ ?_ | omega | (simp [maxLen, F9] <;> omega)
        refine WK [(2, AV.ptr 1 0), (5, AV.ptr 3 0), (53, AV.bool (!v20))] [(1, .cells [Iz 0, Iz 0, AV.lst true true (List.map (AV.int .i64) ([] : List Int))]), (3, .cells [Iz v0, Iz v5, Lz v18])] 4 (by simp [F9]) (by simp [F9]) ?_
        by_cases h12 : (!v20) = true
        ·replace hF := ite_t h12 hF
         have h12_ := h12
         try simp at h12_
         have F10 := And.intro F9 (And.intro h12 h12_)
         refine CT (by simp [F10] <;> omega) ?_
         refine SQ [] [none, none, none] fun _ _ g r => ?_
         try simp [F10]
         and_intros <;> first | exact g _ (by kernel_rfl) | refine r _ _ _ ?_ | omega | (simp [maxLen, F10] <;> omega)
         refine RM h0 [(0, 1)] [(2, AV.ptr 0 0), (3, Iz 47)] [(0, .cells [Iz 0, Iz 0, AV.lst true true (List.map (AV.int .i64) ([] : List Int))])] 1 (by simp [F10]) (by simp [F10]) ?_
         refine AW.flg [] [(0, .cells [Iz 0, Iz 0, AV.lst false false (List.map (AV.int .i64) ([] : List Int))])] trivial ⟨⟨AObj.cells [Iz 0, Iz 0, AV.lst true true (List.map (AV.int .i64) ([] : List Int))], by simp [F10], (.mk (.cons (.same _) (.cons (.same _) (.cons (.lst (by simp)) .nil))))⟩, trivial⟩ (by simp) ?_
         simp only [Option.some.injEq, Prod.mk.injEq] at hF
         obtain ⟨e0, e1, e2, e3⟩ := hF
         subst e0 e1 e2 e3
         refine AW.ret (hQ _ _ _ ?_ (matchO_0 ?_)).1
         ·simp [Try.f26, F10]
         ·simp [F10]
        ·replace hF := ite_f h12 hF
         have h12_ := h12
         try simp at h12_
         have F11 := And.intro F9 (And.intro h12 h12_)
         refine CF (by simp [F11] <;> omega) ?_
         refine AW.skip ?_
         refine hK45 _ _ _ ?_
         refine SQ [] [none, none, none] fun _ _ g r => ?_
         try simp [F11]
         and_intros <;> first | exact g _ (by kernel_rfl) | refine r _ _ _ ?_ | omega | (simp [maxLen, F11] <;> omega)
         refine RM h0 [(0, 1)] [(2, AV.ptr 0 0), (3, Iz 0)] [(0, .cells [Iz v0, Iz v5, Lz v18])] 1 (by simp [F11]) (by simp [F11]) ?_
         simp only [Option.some.injEq, Prod.mk.injEq] at hF
         obtain ⟨e0, e1, e2, e3⟩ := hF
         subst e0 e1 e2 e3
         refine AW.ret (hQ _ _ _ ?_ (matchO_0 ?_)).1
         ·simp [Try.f26, F11]
         ·simp [F11]
end Go.TF
