/- Walks: the Go text computes the Lean functions (printed by a program of our own). -/
import Derived.Test.YtepdfenlkeaefaaIPu
import Derived.Test.YtepdfenlkeaefaaIAbsT
import Derived.Test.YtepdfenlkeaefaaIWa0
import Derived.Test.YtepdfenlkeaefaaIWa1
import Derived.Test.YtepdfenlkeaefaaIWa2
set_option linter.unusedVariables false
set_option linter.unusedSimpArgs false
set_option maxRecDepth 100000
set_option maxHeartbeats 4000000
namespace Go.TF
open Go Go.Abs Go.Proofs Go.Proofs.YtepdfenlkeaefaaIT
theorem w_beacon_bytes_v2 (k : Nat) (v0 : (List Int)) (v1 : (List Int)) (v2 : (List Int)) (hF : beacon_bytes_v2 k v0 v1 = some v2) :
  FCall Try.prog 82 [AV.lst false true (List.map (AV.int .u8) v0), AV.lst false false (List.map (AV.int .i64) v1)] [] (AV.lst false false (List.map (AV.int .u8) v2)) [] := by
 unfold beacon_bytes_v2 at hF
 refine EN Try.func82 ?_
 intro c0 w0 Q h0 hQ
 refine WK [(0, AV.lst false true (List.map (AV.int .u8) v0)), (1, Lz v1)] [] 0 (by simp) (by simp) ?_
 refine SQ [] [none] fun _ _ g r => ?_
 try simp
 and_intros <;> first | exact g _ (by kernel_rfl) | refine r _ _ _ ?_ | omega | (simp [maxLen] <;> omega)
 refine WK [(0, AV.lst false true (List.map (AV.int .u8) v0)), (1, Lz v1)] [] 0 (by simp) (by simp) ?_
 refine AW.midF (α := (List Int)) (fun v3 => beacon_bytes_v2.J1 k v3 = some v2) (fun v3 => [(0, Lb v3)]) (fun v3 => []) 0 (fun K1101 hK1101 => ?_) ?_
 ·refine SQ [] [none, none, none] fun _ _ g r => ?_
  try simp
  and_intros <;> first | exact g _ (by kernel_rfl) | refine r _ _ _ ?_ | omega | (simp [maxLen] <;> omega)
  refine WK [(0, AV.lst false true (List.map (AV.int .u8) v0)), (8, Lz v1), (9, Iz (v1.length : Int)), (10, Iz 0)] [] 0 (by simp) (by simp) ?_
  refine AW.block ?_
  refine AW.loopF (α := Option (Int × (List Int))) (fun n o => match o with | none => beacon_bytes_v2.P4 k v0 v1 n = some v2 | some (v4, v5) => beacon_bytes_v2.L2 k v1 n v4 v5 = some v2) (fun o => match o with | none => [(0, AV.lst false true (List.map (AV.int .u8) v0)), (8, Lz v1), (9, Iz (v1.length : Int)), (10, Iz 0)] | some (v4, v5) => [(0, AV.slc 0 0 1 v5.length false), (8, Lz v1), (9, Iz (v1.length : Int)), (10, Iz v4)]) (fun o => match o with | none => [] | some (v4, v5) => [(0, .grow (List.map (AV.int .u8) v5))]) 1 k none hF (by simp) (by simp) (by simp) ?_
  rintro (_|n2) (_|⟨v4, v5⟩) hF K1317 hK1317
  ·try dsimp only at hF
   rw [beacon_bytes_v2.P4] at hF; cases hF
  ·try dsimp only at hF
   rw [beacon_bytes_v2.L2] at hF; cases hF
  ·try dsimp only at hF
   rw [beacon_bytes_v2.P4] at hF
   refine SQ [] [none] fun _ _ g r => ?_
   try simp
   and_intros <;> first | exact g _ (by kernel_rfl) | refine r _ _ _ ?_ | omega | (simp [maxLen] <;> omega)
   refine WK [(0, AV.lst false true (List.map (AV.int .u8) v0)), (8, Lz v1), (9, Iz (v1.length : Int)), (10, Iz 0), (11, AV.bool (decide (0 < (v1.length : Int))))] [] 1 (by simp) (by simp) ?_
   refine AW.seq fun K1386 hK1386 => ?_
   by_cases h8 : 0 < (v1.length : Int)
   ·replace hF := ite_t h8 hF
    have h8_ := h8
    try simp at h8_
    refine CT (by simp [h8, h8_] <;> omega) ?_
    refine AW.skip ?_
    refine hK1386 _ _ _ ?_
    refine AW.seq fun K1426 hK1426 => ?_
    refine AW.block ?_
    refine SQ [] [none, none, none] fun _ _ g r => ?_
    obtain ⟨v9, h9, h10, h11, hF⟩ := idx_elim hF
    have h11_ := get_of h11
    try simp at h11_
    have h10_ := h10
    try simp at h10_
    have h11z := head_of h11
    have F1 := And.intro h8 (And.intro h8_ (And.intro h9 (And.intro h10 (And.intro h11 (And.intro h11_ (And.intro h10_ h11z))))))
    try simp [F1]
    and_intros <;> first | exact g _ (by kernel_rfl) | refine r _ _ _ ?_ | omega | (simp [maxLen, F1] <;> omega)
    refine WK [(0, AV.lst false true (List.map (AV.int .u8) v0)), (6, Iz v9), (8, Lz v1), (9, Iz (v1.length : Int)), (10, Iz 0)] [] 1 (by simp [F1]) (by simp [F1]) ?_
    refine SQ [] [none] fun _ _ g r => ?_
    try simp [F1]
    and_intros <;> first | exact g _ (by kernel_rfl) | refine r _ _ _ ?_ | omega | (simp [maxLen, F1] <;> omega)
    refine WK [(0, AV.lst false true (List.map (AV.int .u8) v0)), (6, Iz v9), (7, Iz 56), (8, Lz v1), (9, Iz (v1.length : Int)), (10, Iz 0)] [] 1 (by simp [F1]) (by simp [F1]) ?_
    refine AW.block ?_
    refine AW.loopF (α := Option (Int × (List Int))) (fun n o => match o with | none => beacon_bytes_v2.P6 k v0 v9 (fun v4_ v5_ => beacon_bytes_v2.L2 k v1 n2 v4_ v5_) n = some v2 | some (v10, v11) => beacon_bytes_v2.L5 k v9 (fun v4_ v5_ => beacon_bytes_v2.L2 k v1 n2 v4_ v5_) n v10 v11 = some v2) (fun o => match o with | none => [(0, AV.lst false true (List.map (AV.int .u8) v0)), (6, Iz v9), (7, Iz 56), (8, Lz v1), (9, Iz (v1.length : Int)), (10, Iz 0)] | some (v10, v11) => [(0, AV.slc 0 0 1 v11.length false), (6, Iz v9), (7, Iz v10), (8, Lz v1), (9, Iz (v1.length : Int)), (10, Iz 0)]) (fun o => match o with | none => [] | some (v10, v11) => [(0, .grow (List.map (AV.int .u8) v11))]) 1 k none hF (by simp [F1]) (by simp [F1]) (by simp) ?_
    rintro (_|n5) (_|⟨v10, v11⟩) hF K1450 hK1450
    ·try dsimp only at hF
     rw [beacon_bytes_v2.P6] at hF; cases hF
    ·try dsimp only at hF
     rw [beacon_bytes_v2.L5] at hF; cases hF
    ·try dsimp only at hF
     rw [beacon_bytes_v2.P6] at hF
     refine AW.seq fun K1461 hK1461 => ?_
     refine SQ [] [none, none] fun _ _ g r => ?_
     try simp [F1]
     and_intros <;> first | exact g _ (by kernel_rfl) | refine r _ _ _ ?_ | omega | (simp [maxLen, F1] <;> omega)
     refine WK [(0, AV.lst false true (List.map (AV.int .u8) v0)), (6, Iz v9), (7, Iz 56), (8, Lz v1), (9, Iz (v1.length : Int)), (10, Iz 0), (15, AV.bool true)] [] 1 (by simp [F1]) (by simp [F1]) ?_
     refine CT (by simp [F1]) ?_
     refine AW.skip ?_
     refine hK1461 _ _ _ ?_
     refine AW.seq fun K1464 hK1464 => ?_
     refine AW.block ?_
     refine RG [25, 1000025] [none, none, none, none, none, none, none, none, none] fun _ _ g r => ?_
     obtain ⟨h15, hF⟩ := chk_elim hF
     have h15_ := h15
     try simp at h15_
     have F2 := And.intro F1 h15
     try simp [F2]
     and_intros <;> first | exact g _ (by kernel_rfl) | refine r _ _ _ ?_ | omega | (simp [maxLen, F2] <;> omega)
     refine hK1464 _ _ _ ?_
     refine WK [(0, AV.slc 1 0 1 ((v0 ++ ([IntKind.wrap .u8 (Int.fdiv (IntKind.wrap .u64 v9) (2 ^ (56)))] : List Int)).length) false), (6, Iz v9), (7, Iz 56), (8, Lz v1), (9, Iz (v1.length : Int)), (10, Iz 0)] [(1, .grow (List.map (AV.int .u8) (v0 ++ ([IntKind.wrap .u8 (Int.fdiv (IntKind.wrap .u64 v9) (2 ^ (56)))] : List Int))))] 2 (by simp [F2] <;> omega) (by simp [F2]) ?_
     refine RG [] [none, none, none] fun _ _ g r => ?_
     try simp [F2]
     and_intros <;> first | exact g _ (by kernel_rfl) | refine r _ _ _ ?_ | omega | (simp [maxLen, F2] <;> omega)
     refine hK1450 _ _ _ ?_
     refine RN h0 [(0, 1)] [(0, AV.slc 0 0 1 ((v0 ++ ([IntKind.wrap .u8 (Int.fdiv (IntKind.wrap .u64 v9) (2 ^ (56)))] : List Int)).length) false), (6, Iz v9), (7, Iz (IntKind.wrap .i64 (56 - 8))), (8, Lz v1), (9, Iz (v1.length : Int)), (10, Iz 0)] [(0, .grow (List.map (AV.int .u8) (v0 ++ ([IntKind.wrap .u8 (Int.fdiv (IntKind.wrap .u64 v9) (2 ^ (56)))] : List Int))))] 1 (by simp [F2] <;> omega) (by simp [F2]) ?_
     exact NX (k' := n5) (some (IntKind.wrap .i64 (56 - 8), v0 ++ ([IntKind.wrap .u8 (Int.fdiv (IntKind.wrap .u64 v9) (2 ^ (56)))] : List Int))) hF (by simp [F2]) (by simp [F2])
    ·try dsimp only at hF
     rw [beacon_bytes_v2.L5] at hF
     refine AW.seq fun K1452 hK1452 => ?_
     refine SQ [] [none, none] fun _ _ g r => ?_
     try simp [F1]
     and_intros <;> first | exact g _ (by kernel_rfl) | refine r _ _ _ ?_ | omega | (simp [maxLen, F1] <;> omega)
     refine WK [(0, AV.slc 0 0 1 v11.length false), (6, Iz v9), (7, Iz v10), (8, Lz v1), (9, Iz (v1.length : Int)), (10, Iz 0), (15, AV.bool (decide (0 ≤ v10)))] [(0, .grow (List.map (AV.int .u8) v11))] 1 (by simp [F1]) (by simp [F1]) ?_
     by_cases h12 : 0 ≤ v10
     ·replace hF := ite_t h12 hF
      have h12_ := h12
      try simp at h12_
      have F3 := And.intro F1 (And.intro h12 h12_)
      refine CT (by simp [F3] <;> omega) ?_
      refine AW.skip ?_
      refine hK1452 _ _ _ ?_
      refine AW.seq fun K1455 hK1455 => ?_
      refine AW.block ?_
      refine RG [] [none, none, none, none, none, none, none, none, none] fun _ _ g r => ?_
      obtain ⟨h13, hF⟩ := chk_elim hF
      obtain ⟨h14, hF⟩ := chk_elim hF
      have h14_ := h14
      try simp at h14_
      have F4 := And.intro F3 (And.intro h13 h14)
      try simp [F4]
      and_intros <;> first | exact g _ (by kernel_rfl) | refine r _ _ _ ?_ | omega | (simp [maxLen, F4] <;> omega)
      refine hK1455 _ _ _ ?_
      refine WK [(0, AV.slc 1 0 1 ((v11 ++ ([IntKind.wrap .u8 (Int.fdiv (IntKind.wrap .u64 v9) (2 ^ (min v10.toNat 64)))] : List Int)).length) false), (6, Iz v9), (7, Iz v10), (8, Lz v1), (9, Iz (v1.length : Int)), (10, Iz 0)] [(1, .grow (List.map (AV.int .u8) (v11 ++ ([IntKind.wrap .u8 (Int.fdiv (IntKind.wrap .u64 v9) (2 ^ (min v10.toNat 64)))] : List Int))))] 2 (by simp [F4] <;> omega) (by simp [F4]) ?_
      refine RG [] [none, none, none] fun _ _ g r => ?_
      try simp [F4]
      and_intros <;> first | exact g _ (by kernel_rfl) | refine r _ _ _ ?_ | omega | (simp [maxLen, F4] <;> omega)
      refine hK1450 _ _ _ ?_
      refine RN h0 [(0, 1)] [(0, AV.slc 0 0 1 ((v11 ++ ([IntKind.wrap .u8 (Int.fdiv (IntKind.wrap .u64 v9) (2 ^ (min v10.toNat 64)))] : List Int)).length) false), (6, Iz v9), (7, Iz (IntKind.wrap .i64 (v10 - 8))), (8, Lz v1), (9, Iz (v1.length : Int)), (10, Iz 0)] [(0, .grow (List.map (AV.int .u8) (v11 ++ ([IntKind.wrap .u8 (Int.fdiv (IntKind.wrap .u64 v9) (2 ^ (min v10.toNat 64)))] : List Int))))] 1 (by simp [F4] <;> omega) (by simp [F4]) ?_
      exact NX (k' := n5) (some ((IntKind.wrap .i64 (v10 - 8), v11 ++ ([IntKind.wrap .u8 (Int.fdiv (IntKind.wrap .u64 v9) (2 ^ (min v10.toNat 64)))] : List Int)))) hF (by simp [F4]) (by simp [F4])
     ·replace hF := ite_f h12 hF
      have h12_ := h12
      try simp at h12_
      have F5 := And.intro F1 (And.intro h12 h12_)
      refine CF (by simp [F5] <;> omega) ?_
      refine AW.exit ?_
      try simp
      refine hK1426 _ _ _ ?_
      refine RG [] [none, none] fun _ _ g r => ?_
      try simp [F5]
      and_intros <;> first | exact g _ (by kernel_rfl) | refine r _ _ _ ?_ | omega | (simp [maxLen, F5] <;> omega)
      refine hK1317 _ _ _ ?_
      exact NX (k' := n2) (some (IntKind.wrap .i64 (0 + 1), v11)) hF (by simp [F5]) (by simp [F5])
   ·replace hF := ite_f h8 hF
    have h8_ := h8
    try simp at h8_
    refine CF (by simp [h8, h8_] <;> omega) ?_
    refine AW.exit ?_
    try simp
    refine hK1101 _ _ _ ?_
    refine RN h0 [] [(0, AV.lst false true (List.map (AV.int .u8) v0))] [] 0 (by simp [h8, h8_]) (by simp [h8, h8_]) ?_
    refine Can.flg [(0, Lb v0)] [] ⟨(.lst (by simp)), trivial⟩ trivial (by simp) ?_
    exact JN (v0) hF (by simp [h8, h8_]) (by simp [h8, h8_])
  ·try dsimp only at hF
   rw [beacon_bytes_v2.L2] at hF
   refine SQ [] [none] fun _ _ g r => ?_
   try simp
   and_intros <;> first | exact g _ (by kernel_rfl) | refine r _ _ _ ?_ | omega | (simp [maxLen] <;> omega)
   refine WK [(0, AV.slc 0 0 1 v5.length false), (8, Lz v1), (9, Iz (v1.length : Int)), (10, Iz v4), (11, AV.bool (decide (v4 < (v1.length : Int))))] [(0, .grow (List.map (AV.int .u8) v5))] 1 (by simp) (by simp) ?_
   refine AW.seq fun K1319 hK1319 => ?_
   by_cases h1 : v4 < (v1.length : Int)
   ·replace hF := ite_t h1 hF
    have h1_ := h1
    try simp at h1_
    refine CT (by simp [h1, h1_] <;> omega) ?_
    refine AW.skip ?_
    refine hK1319 _ _ _ ?_
    refine AW.seq fun K1351 hK1351 => ?_
    refine AW.block ?_
    refine SQ [] [none, none, none] fun _ _ g r => ?_
    obtain ⟨v6, h2, h3, h4, hF⟩ := idx_elim hF
    have h4_ := get_of h4
    try simp at h4_
    have h3_ := h3
    try simp at h3_
    have F6 := And.intro h1 (And.intro h1_ (And.intro h2 (And.intro h3 (And.intro h4 (And.intro h4_ h3_)))))
    try simp [F6]
    and_intros <;> first | exact g _ (by kernel_rfl) | refine r _ _ _ ?_ | omega | (simp [maxLen, F6] <;> omega)
    refine WK [(0, AV.slc 0 0 1 v5.length false), (6, Iz v6), (8, Lz v1), (9, Iz (v1.length : Int)), (10, Iz v4)] [(0, .grow (List.map (AV.int .u8) v5))] 1 (by simp [F6]) (by simp [F6]) ?_
    refine SQ [] [none] fun _ _ g r => ?_
    try simp [F6]
    and_intros <;> first | exact g _ (by kernel_rfl) | refine r _ _ _ ?_ | omega | (simp [maxLen, F6] <;> omega)
    refine WK [(0, AV.slc 0 0 1 v5.length false), (6, Iz v6), (7, Iz 56), (8, Lz v1), (9, Iz (v1.length : Int)), (10, Iz v4)] [(0, .grow (List.map (AV.int .u8) v5))] 1 (by simp [F6]) (by simp [F6]) ?_
    refine AW.block ?_
    refine AW.loopF (α := (Int × (List Int))) (fun n (v7, v8) => beacon_bytes_v2.L3 k v4 v6 (fun v4_ v5_ => beacon_bytes_v2.L2 k v1 n2 v4_ v5_) n v7 v8 = some v2) (fun (v7, v8) => [(0, AV.slc 0 0 1 v8.length false), (6, Iz v6), (7, Iz v7), (8, Lz v1), (9, Iz (v1.length : Int)), (10, Iz v4)]) (fun (v7, v8) => [(0, .grow (List.map (AV.int .u8) v8))]) 1 k ((56, v5)) hF (by simp [F6]) (by simp [F6]) (by simp) ?_
    rintro (_|n3) ⟨v7, v8⟩ hF K1375 hK1375
    ·try dsimp only at hF
     rw [beacon_bytes_v2.L3] at hF; cases hF
    try dsimp only at hF
    rw [beacon_bytes_v2.L3] at hF
    refine AW.seq fun K1377 hK1377 => ?_
    refine SQ [] [none, none] fun _ _ g r => ?_
    try simp [F6]
    and_intros <;> first | exact g _ (by kernel_rfl) | refine r _ _ _ ?_ | omega | (simp [maxLen, F6] <;> omega)
    refine WK [(0, AV.slc 0 0 1 v8.length false), (6, Iz v6), (7, Iz v7), (8, Lz v1), (9, Iz (v1.length : Int)), (10, Iz v4), (15, AV.bool (decide (0 ≤ v7)))] [(0, .grow (List.map (AV.int .u8) v8))] 1 (by simp [F6]) (by simp [F6]) ?_
    by_cases h5 : 0 ≤ v7
    ·replace hF := ite_t h5 hF
     have h5_ := h5
     try simp at h5_
     have F7 := And.intro F6 (And.intro h5 h5_)
     refine CT (by simp [F7] <;> omega) ?_
     refine AW.skip ?_
     refine hK1377 _ _ _ ?_
     refine AW.seq fun K1380 hK1380 => ?_
     refine AW.block ?_
     refine RG [] [none, none, none, none, none, none, none, none, none] fun _ _ g r => ?_
     obtain ⟨h6, hF⟩ := chk_elim hF
     obtain ⟨h7, hF⟩ := chk_elim hF
     have h7_ := h7
     try simp at h7_
     have F8 := And.intro F7 (And.intro h6 h7)
     try simp [F8]
     and_intros <;> first | exact g _ (by kernel_rfl) | refine r _ _ _ ?_ | omega | (simp [maxLen, F8] <;> omega)
     refine hK1380 _ _ _ ?_
     refine WK [(0, AV.slc 1 0 1 ((v8 ++ ([IntKind.wrap .u8 (Int.fdiv (IntKind.wrap .u64 v6) (2 ^ (min v7.toNat 64)))] : List Int)).length) false), (6, Iz v6), (7, Iz v7), (8, Lz v1), (9, Iz (v1.length : Int)), (10, Iz v4)] [(1, .grow (List.map (AV.int .u8) (v8 ++ ([IntKind.wrap .u8 (Int.fdiv (IntKind.wrap .u64 v6) (2 ^ (min v7.toNat 64)))] : List Int))))] 2 (by simp [F8] <;> omega) (by simp [F8]) ?_
     refine RG [] [none, none, none] fun _ _ g r => ?_
     try simp [F8]
     and_intros <;> first | exact g _ (by kernel_rfl) | refine r _ _ _ ?_ | omega | (simp [maxLen, F8] <;> omega)
     refine hK1375 _ _ _ ?_
     refine RN h0 [(0, 1)] [(0, AV.slc 0 0 1 ((v8 ++ ([IntKind.wrap .u8 (Int.fdiv (IntKind.wrap .u64 v6) (2 ^ (min v7.toNat 64)))] : List Int)).length) false), (6, Iz v6), (7, Iz (IntKind.wrap .i64 (v7 - 8))), (8, Lz v1), (9, Iz (v1.length : Int)), (10, Iz v4)] [(0, .grow (List.map (AV.int .u8) (v8 ++ ([IntKind.wrap .u8 (Int.fdiv (IntKind.wrap .u64 v6) (2 ^ (min v7.toNat 64)))] : List Int))))] 1 (by simp [F8] <;> omega) (by simp [F8]) ?_
     exact NX (k' := n3) ((IntKind.wrap .i64 (v7 - 8), v8 ++ ([IntKind.wrap .u8 (Int.fdiv (IntKind.wrap .u64 v6) (2 ^ (min v7.toNat 64)))] : List Int))) hF (by simp [F8]) (by simp [F8])
    ·replace hF := ite_f h5 hF
     have h5_ := h5
     try simp at h5_
     have F9 := And.intro F6 (And.intro h5 h5_)
     refine CF (by simp [F9] <;> omega) ?_
     refine AW.exit ?_
     try simp
     refine hK1351 _ _ _ ?_
     refine RG [] [none, none] fun _ _ g r => ?_
     try simp [F9]
     and_intros <;> first | exact g _ (by kernel_rfl) | refine r _ _ _ ?_ | omega | (simp [maxLen, F9] <;> omega)
     refine hK1317 _ _ _ ?_
     exact NX (k' := n2) (some ((IntKind.wrap .i64 (v4 + 1), v8))) hF (by simp [F9]) (by simp [F9])
   ·replace hF := ite_f h1 hF
    have h1_ := h1
    try simp at h1_
    refine CF (by simp [h1, h1_] <;> omega) ?_
    refine AW.exit ?_
    try simp
    refine hK1101 _ _ _ ?_
    refine Can.freeze 0 (o := .grow (List.map (AV.int .u8) v5)) (by simp [h1, h1_]) rfl [(0, Lb v5)] [] ⟨(.l (by simp) (by simp) (by simp) (by simp)), trivial⟩ trivial ?_
    refine RN h0 [] [(0, Lb v5)] [] 0 (by simp [h1, h1_]) (by simp [h1, h1_]) ?_
    exact JN (v5) hF (by simp [h1, h1_]) (by simp [h1, h1_])
 ·rintro v3 hF
  try dsimp only at hF
  unfold beacon_bytes_v2.J1 at hF
  refine SQ [] [none, none] fun _ _ g r => ?_
  try simp
  and_intros <;> first | exact g _ (by kernel_rfl) | refine r _ _ _ ?_ | omega | (simp [maxLen] <;> omega)
  refine WK [(4, Lb v3)] [] 0 (by simp) (by simp) ?_
  simp only [Option.some.injEq] at hF
  subst hF
  refine AW.ret (hQ _ _ _ ?_ (matchO_0 ?_)).1
  ·simp [Try.f82]
  ·simp
theorem w_digest_rounds (k : Nat) (v0 : (List Int)) (hF : digest_rounds k = some v0) :
  FCall Try.prog 58 [] [] (AV.agg (List.map (AV.int .u32) v0)) [] := by
 unfold digest_rounds at hF
 refine EN Try.func58 ?_
 intro c0 w0 Q h0 hQ
 refine WK [] [] 0 (by simp) (by simp) ?_
 refine SQ [] [none] fun _ _ g r => ?_
 try simp
 and_intros <;> first | exact g _ (by kernel_rfl) | refine r _ _ _ ?_ | omega | (simp [maxLen] <;> omega)
 refine WK [(0, AV.ptr 0 0)] [(0, .cells (List.map (AV.int .u32) (List.replicate 64 0)))] 1 (by simp) (by simp) ?_
 refine SQ [] [none, none] fun _ _ g r => ?_
 obtain ⟨h1, hF⟩ := chk_elim hF
 try simp [h1]
 and_intros <;> first | exact g _ (by kernel_rfl) | refine r _ _ _ ?_ | omega | (simp [h1, maxLen] <;> omega)
 refine WK [(0, AV.ptr 0 0)] [(0, .cells (List.map (AV.int .u32) ([1116352408, 1899447441, 3049323471, 3921009573, 961987163, 1508970993, 2453635748, 2870763221, 3624381080, 310598401, 607225278, 1426881987, 1925078388, 2162078206, 2614888103, 3248222580, 3835390401, 4022224774, 264347078, 604807628, 770255983, 1249150122, 1555081692, 1996064986, 2554220882, 2821834349, 2952996808, 3210313671, 3336571891, 3584528711, 113926993, 338241895, 666307205, 773529912, 1294757372, 1396182291, 1695183700, 1986661051, 2177026350, 2456956037, 2730485921, 2820302411, 3259730800, 3345764771, 3516065817, 3600352804, 4094571909, 275423344, 430227734, 506948616, 659060556, 883997877, 958139571, 1322822218, 1537002063, 1747873779, 1955562222, 2024104815, 2227730452, 2361852424, 2428436474, 2756734187, 3204031479, 3329325298] : List Int)))] 1 (by simp [h1]) (by simp [h1]) ?_
 obtain ⟨h2, hF⟩ := chk_elim hF
 have h2_ := ne_of_len h2 (by decide)
 simp only [Option.some.injEq] at hF
 subst hF
 refine AW.ret (hQ _ _ _ ?_ (matchO_0 ?_)).1
 ·have F1 := And.intro h1 (And.intro h2 h2_)
  simp [Try.f58, F1]
 ·have F2 := And.intro h1 (And.intro h2 h2_)
  simp [F2]
theorem w_math_bits_RotateLeft32 (k : Nat) (v0 : Int) (v1 : Int) (v2 : Int) (hF : math_bits_RotateLeft32 k v0 v1 = some v2) :
  FCall Try.prog 94 [AV.int .u32 v0, AV.int .i64 v1] [] (AV.int .u32 v2) [] := by
 unfold math_bits_RotateLeft32 at hF
 refine EN Try.func94 ?_
 intro c0 w0 Q h0 hQ
 refine WK [(0, AV.int .u32 v0), (1, Iz v1)] [] 0 (by simp) (by simp) ?_
 refine SQ [] [none] fun _ _ g r => ?_
 try simp
 and_intros <;> first | exact g _ (by kernel_rfl) | refine r _ _ _ ?_ | omega | (simp [maxLen] <;> omega)
 refine WK [(0, AV.int .u32 v0), (1, Iz v1)] [] 0 (by simp) (by simp) ?_
 refine SQ [] [none, none, none, none] fun _ _ g r => ?_
 try simp
 and_intros <;> first | exact g _ (by kernel_rfl) | refine r _ _ _ ?_ | omega | (simp [maxLen] <;> omega)
 refine WK [(0, AV.int .u32 v0), (5, AV.int .u64 (bitsV .and .u64 (IntKind.wrap .u64 v1) 31))] [] 0 (by simp) (by simp) ?_
 refine SQ [] [none, none, none, none, none, none, none, none, none] fun _ _ g r => ?_
 obtain ⟨h1, hF⟩ := chk_elim hF
 obtain ⟨h2, hF⟩ := chk_elim hF
 try simp [h1, h2]
 and_intros <;> first | exact g _ (by kernel_rfl) | refine r _ _ _ ?_ | omega | (simp [h1, h2, maxLen] <;> omega)
 refine WK [(4, AV.int .u32 (bitsV .or .u32 (IntKind.wrap .u32 (v0 * 2 ^ (min ((bitsV .and .u64 (IntKind.wrap .u64 v1) 31).toNat) 32))) (Int.fdiv v0 (2 ^ (min ((IntKind.wrap .u64 (32 - bitsV .and .u64 (IntKind.wrap .u64 v1) 31)).toNat) 32)))))] [] 0 (by simp [h1, h2]) (by simp [h1, h2]) ?_
 simp only [Option.some.injEq] at hF
 subst hF
 refine AW.ret (hQ _ _ _ ?_ (matchO_0 ?_)).1
 ·simp [Try.f94, h1, h2]
 ·simp [h1, h2]
theorem w_digest_state_block_1 (k : Nat) (v0 : Int) (v1 : Int) (v2 : Int) (hF : digest_state_block_1 k v0 v1 = some v2) :
  FCall Try.prog 93 [AV.int .u32 v0, AV.int .i64 v1] [] (AV.int .u32 v2) [] := by
 unfold digest_state_block_1 at hF
 refine EN Try.func93 ?_
 intro c0 w0 Q h0 hQ
 refine WK [(0, AV.int .u32 v0), (1, Iz v1)] [] 0 (by simp) (by simp) ?_
 refine SQ [] [none] fun _ _ g r => ?_
 try simp
 and_intros <;> first | exact g _ (by kernel_rfl) | refine r _ _ _ ?_ | omega | (simp [maxLen] <;> omega)
 refine WK [(0, AV.int .u32 v0), (1, Iz v1)] [] 0 (by simp) (by simp) ?_
 refine SQ [] [none, none, none, none, none] fun _ _ g r => ?_
 try simp
 and_intros
 try any_goals first | omega | (simp [maxLen] <;> omega)
 obtain ⟨v3, h1, hF⟩ := bnd1_elim hF
 refine AC (w_math_bits_RotateLeft32 k _ _ _ h1) (.cons (.same (by simp)) (.cons (.same (by simp)) .nil)) ?_
 try simp
 and_intros <;> first | exact g _ (by kernel_rfl) | refine r _ _ _ ?_ | omega | (simp [maxLen] <;> omega)
 refine WK [(4, AV.int .u32 v3)] [] 0 (by simp) (by simp) ?_
 simp only [Option.some.injEq] at hF
 subst hF
 refine AW.ret (hQ _ _ _ ?_ (matchO_0 ?_)).1
 ·simp [Try.f93]
 ·simp
theorem w_digest_state_block (k : Nat) (v0 : (List Int)) (v1 : (List Int)) (v2 : (List Int)) (v3 : (List Int)) (hF : digest_state_block k v0 v1 v2 = some v3) :
  FCall Try.prog 59 [AV.ptr 0 0, AV.lst false false (List.map (AV.int .u8) v1), AV.ptr 1 0] [.cells (List.map (AV.int .u32) v0), .cells (List.map (AV.int .u32) v2)] (AV.tup []) [some (.cells (List.map (AV.int .u32) v3)), some (.cells (List.map (AV.int .u32) v2))] := by
 unfold digest_state_block at hF
 refine EN Try.func59 ?_
 intro c0 w0 Q h0 hQ
 refine WK [(0, AV.ptr 0 0), (1, Lb v1), (2, AV.ptr 1 0)] [(0, .cells (List.map (AV.int .u32) v0)), (1, .cells (List.map (AV.int .u32) v2))] 2 (by simp) (by simp) ?_
 refine SQ [] [none] fun _ _ g r => ?_
 try simp
 and_intros <;> first | exact g _ (by kernel_rfl) | refine r _ _ _ ?_ | omega | (simp [maxLen] <;> omega)
 refine WK [(0, AV.ptr 0 0), (1, Lb v1), (2, AV.ptr 1 0), (6, AV.ptr 2 0)] [(0, .cells (List.map (AV.int .u32) v0)), (1, .cells (List.map (AV.int .u32) v2)), (2, .cells (List.map (AV.int .u32) (List.replicate 64 0)))] 3 (by simp) (by simp) ?_
 refine AW.seq fun K336 hK336 => ?_
 refine SQ [] [none] fun _ _ g r => ?_
 try simp
 and_intros <;> first | exact g _ (by kernel_rfl) | refine r _ _ _ ?_ | omega | (simp [maxLen] <;> omega)
 refine WK [(0, AV.ptr 0 0), (1, Lb v1), (2, AV.ptr 1 0), (6, AV.ptr 2 0), (19, Iz 0)] [(0, .cells (List.map (AV.int .u32) v0)), (1, .cells (List.map (AV.int .u32) v2)), (2, .cells (List.map (AV.int .u32) (List.replicate 64 0)))] 3 (by simp) (by simp) ?_
 refine AW.block ?_
 refine AW.loopF (α := (Int × (List Int))) (fun n (v4, v5) => digest_state_block.L1 k v0 v1 v2 n v4 v5 = some v3) (fun (v4, v5) => [(0, AV.ptr 0 0), (1, Lb v1), (2, AV.ptr 1 0), (6, AV.ptr 2 0), (19, Iz v4)]) (fun (v4, v5) => [(0, .cells (List.map (AV.int .u32) v0)), (1, .cells (List.map (AV.int .u32) v2)), (2, .cells (List.map (AV.int .u32) v5))]) 3 k ((0, (List.replicate 64 0))) hF (by simp) (by simp) (by simp) ?_
 rintro (_|n1) ⟨v4, v5⟩ hF K362 hK362
 ·try dsimp only at hF
  rw [digest_state_block.L1] at hF; cases hF
 try dsimp only at hF
 rw [digest_state_block.L1] at hF
 refine SQ [] [none] fun _ _ g r => ?_
 try simp
 and_intros <;> first | exact g _ (by kernel_rfl) | refine r _ _ _ ?_ | omega | (simp [maxLen] <;> omega)
 refine WK [(0, AV.ptr 0 0), (1, Lb v1), (2, AV.ptr 1 0), (6, AV.ptr 2 0), (19, Iz v4), (20, AV.bool (decide (v4 < 16)))] [(0, .cells (List.map (AV.int .u32) v0)), (1, .cells (List.map (AV.int .u32) v2)), (2, .cells (List.map (AV.int .u32) v5))] 3 (by simp) (by simp) ?_
 refine AW.seq fun K364 hK364 => ?_
 by_cases h1 : v4 < 16
 ·replace hF := ite_t h1 hF
  have h1_ := h1
  try simp at h1_
  refine CT (by simp [h1, h1_] <;> omega) ?_
  refine AW.skip ?_
  refine hK364 _ _ _ ?_
  refine AW.seq fun K367 hK367 => ?_
  refine AW.block ?_
  refine SQ [] [none, none] fun _ _ g r => ?_
  try simp [h1, h1_]
  and_intros <;> first | exact g _ (by kernel_rfl) | refine r _ _ _ ?_ | omega | (simp [h1, h1_, maxLen] <;> omega)
  refine WK [(0, AV.ptr 0 0), (1, Lb v1), (2, AV.ptr 1 0), (6, AV.ptr 2 0), (7, Iz v4), (19, Iz v4)] [(0, .cells (List.map (AV.int .u32) v0)), (1, .cells (List.map (AV.int .u32) v2)), (2, .cells (List.map (AV.int .u32) v5))] 3 (by simp [h1, h1_]) (by simp [h1, h1_]) ?_
  refine RG [] [none, none, none, none, none, none, none, none, none, none, none, none, none, none, none, none, none, none, none, none, none, none, none, none, none, none, none, none, none, none, none, none, none, none, none, none] fun _ _ g r => ?_
  obtain ⟨v6, h2, h3, h4, hF⟩ := idx_elim hF
  have h4_ := get_of h4
  try simp at h4_
  have h3_ := h3
  try simp at h3_
  obtain ⟨v7, h5, h6, h7, hF⟩ := idx_elim hF
  have h7_ := get_of h7
  try simp at h7_
  have h6_ := h6
  try simp at h6_
  obtain ⟨v8, h8, h9, h10, hF⟩ := idx_elim hF
  have h10_ := get_of h10
  try simp at h10_
  have h9_ := h9
  try simp at h9_
  obtain ⟨v9, h11, h12, h13, hF⟩ := idx_elim hF
  have h13_ := get_of h13
  try simp at h13_
  have h12_ := h12
  try simp at h12_
  obtain ⟨⟨h14, h16, h15⟩, hF⟩ := chk_elim hF
  have h15_ := ne_of_lt h15
  have F1 := And.intro h1 (And.intro h1_ (And.intro h2 (And.intro h3 (And.intro h4 (And.intro h4_ (And.intro h3_ (And.intro h5 (And.intro h6 (And.intro h7 (And.intro h7_ (And.intro h6_ (And.intro h8 (And.intro h9 (And.intro h10 (And.intro h10_ (And.intro h9_ (And.intro h11 (And.intro h12 (And.intro h13 (And.intro h13_ (And.intro h12_ (And.intro h14 (And.intro h15 (And.intro h16 h15_))))))))))))))))))))))))
  try simp [F1]
  and_intros <;> first | exact g _ (by kernel_rfl) | refine r _ _ _ ?_ | omega | (simp [maxLen, F1] <;> omega)
  refine hK367 _ _ _ ?_
  refine WK [(0, AV.ptr 0 0), (1, Lb v1), (2, AV.ptr 1 0), (6, AV.ptr 2 0), (19, Iz v4)] [(0, .cells (List.map (AV.int .u32) v0)), (1, .cells (List.map (AV.int .u32) v2)), (2, .cells (List.map (AV.int .u32) (v5.set (v4).toNat (bitsV .or .u32 (bitsV .or .u32 (bitsV .or .u32 (IntKind.wrap .u32 ((IntKind.wrap .u32 v6) * 2 ^ (24))) (IntKind.wrap .u32 ((IntKind.wrap .u32 v7) * 2 ^ (16)))) (IntKind.wrap .u32 ((IntKind.wrap .u32 v8) * 2 ^ (8)))) (IntKind.wrap .u32 v9)))))] 3 (by simp [F1]) (by simp [F1]) ?_
  refine RG [] [none, none] fun _ _ g r => ?_
  try simp [F1]
  and_intros <;> first | exact g _ (by kernel_rfl) | refine r _ _ _ ?_ | omega | (simp [maxLen, F1] <;> omega)
  refine hK362 _ _ _ ?_
  exact NX (k' := n1) ((IntKind.wrap .i64 (v4 + 1), v5.set (v4).toNat (bitsV .or .u32 (bitsV .or .u32 (bitsV .or .u32 (IntKind.wrap .u32 ((IntKind.wrap .u32 v6) * 2 ^ (24))) (IntKind.wrap .u32 ((IntKind.wrap .u32 v7) * 2 ^ (16)))) (IntKind.wrap .u32 ((IntKind.wrap .u32 v8) * 2 ^ (8)))) (IntKind.wrap .u32 v9)))) hF (by simp [F1]) (by simp [F1])
 ·replace hF := ite_f h1 hF
  have h1_ := h1
  try simp at h1_
  refine CF (by simp [h1, h1_] <;> omega) ?_
  refine AW.exit ?_
  try simp
  refine hK336 _ _ _ ?_
  refine SQ [] [none] fun _ _ g r => ?_
  try simp [h1, h1_]
  and_intros <;> first | exact g _ (by kernel_rfl) | refine r _ _ _ ?_ | omega | (simp [h1, h1_, maxLen] <;> omega)
  refine WK [(0, AV.ptr 0 0), (2, AV.ptr 1 0), (6, AV.ptr 2 0), (8, AV.fn 93 [])] [(0, .cells (List.map (AV.int .u32) v0)), (1, .cells (List.map (AV.int .u32) v2)), (2, .cells (List.map (AV.int .u32) v5))] 3 (by simp [h1, h1_]) (by simp [h1, h1_]) ?_
  refine AW.seq fun K410 hK410 => ?_
  refine SQ [] [none] fun _ _ g r => ?_
  try simp [h1, h1_]
  and_intros <;> first | exact g _ (by kernel_rfl) | refine r _ _ _ ?_ | omega | (simp [h1, h1_, maxLen] <;> omega)
  refine WK [(0, AV.ptr 0 0), (2, AV.ptr 1 0), (6, AV.ptr 2 0), (8, AV.fn 93 []), (9, Iz 16)] [(0, .cells (List.map (AV.int .u32) v0)), (1, .cells (List.map (AV.int .u32) v2)), (2, .cells (List.map (AV.int .u32) v5))] 3 (by simp [h1, h1_]) (by simp [h1, h1_]) ?_
  refine AW.block ?_
  refine AW.loopF (α := (Int × (List Int))) (fun n (v10, v11) => digest_state_block.L2 k v0 v2 n v10 v11 = some v3) (fun (v10, v11) => [(0, AV.ptr 0 0), (2, AV.ptr 1 0), (6, AV.ptr 2 0), (8, AV.fn 93 []), (9, Iz v10)]) (fun (v10, v11) => [(0, .cells (List.map (AV.int .u32) v0)), (1, .cells (List.map (AV.int .u32) v2)), (2, .cells (List.map (AV.int .u32) v11))]) 3 k ((16, v5)) hF (by simp [h1, h1_]) (by simp [h1, h1_]) (by simp) ?_
  rintro (_|n2) ⟨v10, v11⟩ hF K439 hK439
  ·try dsimp only at hF
   rw [digest_state_block.L2] at hF; cases hF
  try dsimp only at hF
  rw [digest_state_block.L2] at hF
  refine AW.seq fun K441 hK441 => ?_
  refine SQ [] [none, none] fun _ _ g r => ?_
  try simp [h1, h1_]
  and_intros <;> first | exact g _ (by kernel_rfl) | refine r _ _ _ ?_ | omega | (simp [h1, h1_, maxLen] <;> omega)
  refine WK [(0, AV.ptr 0 0), (2, AV.ptr 1 0), (6, AV.ptr 2 0), (8, AV.fn 93 []), (9, Iz v10), (59, AV.bool (decide (v10 < 64)))] [(0, .cells (List.map (AV.int .u32) v0)), (1, .cells (List.map (AV.int .u32) v2)), (2, .cells (List.map (AV.int .u32) v11))] 3 (by simp [h1, h1_]) (by simp [h1, h1_]) ?_
  by_cases h17 : v10 < 64
  ·replace hF := ite_t h17 hF
   have h17_ := h17
   try simp at h17_
   have F2 := And.intro h1 (And.intro h1_ (And.intro h17 h17_))
   refine CT (by simp [F2] <;> omega) ?_
   refine AW.skip ?_
   refine hK441 _ _ _ ?_
   refine AW.seq fun K445 hK445 => ?_
   refine AW.block ?_
   refine SQ [] [none, none, none, none, none, none, none, none, none, none] fun _ _ g r => ?_
   obtain ⟨⟨h18, h20, h19⟩, hF⟩ := chk_elim hF
   have h19_ := ne_of_lt h19
   obtain ⟨v12, h21, h22, h23, hF⟩ := idx_elim hF
   have h23_ := get_of h23
   try simp at h23_
   have h22_ := h22
   try simp at h22_
   obtain ⟨⟨h24, h26, h25⟩, hF⟩ := chk_elim hF
   have h25_ := ne_of_lt h25
   obtain ⟨v13, h27, h28, h29, hF⟩ := idx_elim hF
   have h29_ := get_of h29
   try simp at h29_
   have h28_ := h28
   try simp at h28_
   have F3 := And.intro F2 (And.intro h18 (And.intro h19 (And.intro h20 (And.intro h19_ (And.intro h21 (And.intro h22 (And.intro h23 (And.intro h23_ (And.intro h22_ (And.intro h24 (And.intro h25 (And.intro h26 (And.intro h25_ (And.intro h27 (And.intro h28 (And.intro h29 (And.intro h29_ h28_)))))))))))))))))
   try simp [F3]
   and_intros <;> first | exact g _ (by kernel_rfl) | refine r _ _ _ ?_ | omega | (simp [maxLen, F3] <;> omega)
   refine WK [(0, AV.ptr 0 0), (2, AV.ptr 1 0), (6, AV.ptr 2 0), (8, AV.fn 93 []), (9, Iz v10), (10, AV.int .u32 v12), (11, AV.int .u32 v13)] [(0, .cells (List.map (AV.int .u32) v0)), (1, .cells (List.map (AV.int .u32) v2)), (2, .cells (List.map (AV.int .u32) v11))] 3 (by simp [F3]) (by simp [F3]) ?_
   refine RG [] [none, none, none, none, none, none, none, none, none, none, none, none, none, none, none, none, none, none, none, none, none, none, none, none, none, none, none, none, none, none, none, none, none, none] fun _ _ g r => ?_
   obtain ⟨⟨h30, h32, h31⟩, hF⟩ := chk_elim hF
   have h31_ := ne_of_lt h31
   obtain ⟨v14, h33, h34, h35, hF⟩ := idx_elim hF
   have h35_ := get_of h35
   try simp at h35_
   have h34_ := h34
   try simp at h34_
   have F4 := And.intro F3 (And.intro h30 (And.intro h31 (And.intro h32 (And.intro h31_ (And.intro h33 (And.intro h34 (And.intro h35 (And.intro h35_ h34_))))))))
   try simp [F4]
   and_intros
   try any_goals first | omega | (simp [maxLen, F4] <;> omega)
   obtain ⟨v15, h36, hF⟩ := bnd1_elim hF
   refine AC (w_digest_state_block_1 k _ _ _ h36) (.cons (.same (by simp [F4])) (.cons (.same (by simp [F4])) .nil)) ?_
   try simp [F4]
   and_intros
   try any_goals first | omega | (simp [maxLen, F4] <;> omega)
   obtain ⟨v16, h37, hF⟩ := bnd1_elim hF
   refine AC (w_digest_state_block_1 k _ _ _ h37) (.cons (.same (by simp [F4])) (.cons (.same (by simp [F4])) .nil)) ?_
   obtain ⟨⟨h38, h40, h39⟩, hF⟩ := chk_elim hF
   have h39_ := ne_of_lt h39
   obtain ⟨v17, h41, h42, h43, hF⟩ := idx_elim hF
   have h43_ := get_of h43
   try simp at h43_
   have h42_ := h42
   try simp at h42_
   have F5 := And.intro F4 (And.intro h38 (And.intro h39 (And.intro h40 (And.intro h39_ (And.intro h41 (And.intro h42 (And.intro h43 (And.intro h43_ h42_))))))))
   try simp [F5]
   and_intros
   try any_goals first | omega | (simp [maxLen, F5] <;> omega)
   obtain ⟨v18, h44, hF⟩ := bnd1_elim hF
   refine AC (w_digest_state_block_1 k _ _ _ h44) (.cons (.same (by simp [F5])) (.cons (.same (by simp [F5])) .nil)) ?_
   try simp [F5]
   and_intros
   try any_goals first | omega | (simp [maxLen, F5] <;> omega)
   obtain ⟨v19, h45, hF⟩ := bnd1_elim hF
   refine AC (w_digest_state_block_1 k _ _ _ h45) (.cons (.same (by simp [F5])) (.cons (.same (by simp [F5])) .nil)) ?_
   obtain ⟨⟨h46, h48, h47⟩, hF⟩ := chk_elim hF
   have h47_ := ne_of_lt h47
   have F6 := And.intro F5 (And.intro h46 (And.intro h47 (And.intro h48 h47_)))
   try simp [F6]
   and_intros <;> first | exact g _ (by kernel_rfl) | refine r _ _ _ ?_ | omega | (simp [maxLen, F6] <;> omega)
   refine hK445 _ _ _ ?_
   refine WK [(0, AV.ptr 0 0), (2, AV.ptr 1 0), (6, AV.ptr 2 0), (8, AV.fn 93 []), (9, Iz v10)] [(0, .cells (List.map (AV.int .u32) v0)), (1, .cells (List.map (AV.int .u32) v2)), (2, .cells (List.map (AV.int .u32) (v11.set (v10).toNat (IntKind.wrap .u32 (IntKind.wrap .u32 (IntKind.wrap .u32 (v14 + bitsV .xor .u32 (bitsV .xor .u32 v15 v16) (Int.fdiv v12 (2 ^ (3)))) + v17) + bitsV .xor .u32 (bitsV .xor .u32 v18 v19) (Int.fdiv v13 (2 ^ (10))))))))] 3 (by simp [F6]) (by simp [F6]) ?_
   refine RG [] [none, none, none] fun _ _ g r => ?_
   try simp [F6]
   and_intros <;> first | exact g _ (by kernel_rfl) | refine r _ _ _ ?_ | omega | (simp [maxLen, F6] <;> omega)
   refine hK439 _ _ _ ?_
   exact NX (k' := n2) ((IntKind.wrap .i64 (v10 + 1), v11.set (v10).toNat (IntKind.wrap .u32 (IntKind.wrap .u32 (IntKind.wrap .u32 (v14 + bitsV .xor .u32 (bitsV .xor .u32 v15 v16) (Int.fdiv v12 (2 ^ (3)))) + v17) + bitsV .xor .u32 (bitsV .xor .u32 v18 v19) (Int.fdiv v13 (2 ^ (10))))))) hF (by simp [F6]) (by simp [F6])
  ·replace hF := ite_f h17 hF
   have h17_ := h17
   try simp at h17_
   have F7 := And.intro h1 (And.intro h1_ (And.intro h17 h17_))
   refine CF (by simp [F7] <;> omega) ?_
   refine AW.exit ?_
   try simp
   refine hK410 _ _ _ ?_
   refine SQ [] [none, none, none, none, none] fun _ _ g r => ?_
   -- array load
   obtain ⟨h49, hF⟩ := chk_elim hF
   have h49_ := ne_of_len h49 (by decide)
   obtain ⟨h50, hF⟩ := chk_elim hF
   have F8 := And.intro F7 (And.intro h49 (And.intro h49_ h50))
   try simp [F8]
   and_intros <;> first | exact g _ (by kernel_rfl) | refine r _ _ _ ?_ | omega | (simp [maxLen, F8] <;> omega)
   refine WK [(0, AV.ptr 0 0), (2, AV.ptr 1 0), (6, AV.ptr 2 0), (8, AV.fn 93 []), (12, AV.ptr 3 0)] [(0, .cells (List.map (AV.int .u32) v0)), (1, .cells (List.map (AV.int .u32) v2)), (2, .cells (List.map (AV.int .u32) v11)), (3, .cells (List.map (AV.int .u32) v0))] 4 (by simp [F8]) (by simp [F8]) ?_
   refine AW.seq fun K508 hK508 => ?_
   refine SQ [] [none] fun _ _ g r => ?_
   try simp [F8]
   and_intros <;> first | exact g _ (by kernel_rfl) | refine r _ _ _ ?_ | omega | (simp [maxLen, F8] <;> omega)
   refine WK [(0, AV.ptr 0 0), (2, AV.ptr 1 0), (6, AV.ptr 2 0), (8, AV.fn 93 []), (12, AV.ptr 3 0), (106, Iz 0)] [(0, .cells (List.map (AV.int .u32) v0)), (1, .cells (List.map (AV.int .u32) v2)), (2, .cells (List.map (AV.int .u32) v11)), (3, .cells (List.map (AV.int .u32) v0))] 4 (by simp [F8]) (by simp [F8]) ?_
   refine AW.block ?_
   refine AW.loopF (α := (Int × (List Int))) (fun n (v20, v21) => digest_state_block.L3 k v0 v2 v11 n v20 v21 = some v3) (fun (v20, v21) => [(0, AV.ptr 0 0), (2, AV.ptr 1 0), (6, AV.ptr 2 0), (8, AV.fn 93 []), (12, AV.ptr 3 0), (106, Iz v20)]) (fun (v20, v21) => [(0, .cells (List.map (AV.int .u32) v0)), (1, .cells (List.map (AV.int .u32) v2)), (2, .cells (List.map (AV.int .u32) v11)), (3, .cells (List.map (AV.int .u32) v21))]) 4 k ((0, v0)) hF (by simp [F8]) (by simp [F8]) (by simp) ?_
   rintro (_|n3) ⟨v20, v21⟩ hF K552 hK552
   ·try dsimp only at hF
    rw [digest_state_block.L3] at hF; cases hF
   try dsimp only at hF
   rw [digest_state_block.L3] at hF
   refine SQ [] [none] fun _ _ g r => ?_
   try simp [F8]
   and_intros <;> first | exact g _ (by kernel_rfl) | refine r _ _ _ ?_ | omega | (simp [maxLen, F8] <;> omega)
   refine WK [(0, AV.ptr 0 0), (2, AV.ptr 1 0), (6, AV.ptr 2 0), (8, AV.fn 93 []), (12, AV.ptr 3 0), (106, Iz v20), (107, AV.bool (decide (v20 < 64)))] [(0, .cells (List.map (AV.int .u32) v0)), (1, .cells (List.map (AV.int .u32) v2)), (2, .cells (List.map (AV.int .u32) v11)), (3, .cells (List.map (AV.int .u32) v21))] 4 (by simp [F8]) (by simp [F8]) ?_
   refine AW.seq fun K554 hK554 => ?_
   by_cases h51 : v20 < 64
   ·replace hF := ite_t h51 hF
    have h51_ := h51
    try simp at h51_
    have F9 := And.intro F8 (And.intro h51 h51_)
    refine CT (by simp [F9] <;> omega) ?_
    refine AW.skip ?_
    refine hK554 _ _ _ ?_
    refine AW.seq fun K560 hK560 => ?_
    refine AW.block ?_
    refine SQ [] [none, none] fun _ _ g r => ?_
    try simp [F9]
    and_intros <;> first | exact g _ (by kernel_rfl) | refine r _ _ _ ?_ | omega | (simp [maxLen, F9] <;> omega)
    refine WK [(0, AV.ptr 0 0), (2, AV.ptr 1 0), (6, AV.ptr 2 0), (8, AV.fn 93 []), (12, AV.ptr 3 0), (13, Iz v20), (106, Iz v20)] [(0, .cells (List.map (AV.int .u32) v0)), (1, .cells (List.map (AV.int .u32) v2)), (2, .cells (List.map (AV.int .u32) v11)), (3, .cells (List.map (AV.int .u32) v21))] 4 (by simp [F9]) (by simp [F9]) ?_
    refine SQ [] [none, none, none, none, none, none] fun _ _ g r => ?_
    obtain ⟨⟨h52, h54, h53⟩, hF⟩ := chk_elim hF
    have h53_ := ne_of_lt h53
    obtain ⟨v22, h55, h56, h57, hF⟩ := idx_elim hF
    have h57_ := get_of h57
    try simp at h57_
    have h56_ := h56
    try simp at h56_
    have h57z := head_of h57
    obtain ⟨⟨h58, h60, h59⟩, hF⟩ := chk_elim hF
    have h59_ := ne_of_lt h59
    obtain ⟨v23, h61, h62, h63, hF⟩ := idx_elim hF
    have h63_ := get_of h63
    try simp at h63_
    have h62_ := h62
    try simp at h62_
    have F10 := And.intro F9 (And.intro h52 (And.intro h53 (And.intro h54 (And.intro h53_ (And.intro h55 (And.intro h56 (And.intro h57 (And.intro h57_ (And.intro h56_ (And.intro h57z (And.intro h58 (And.intro h59 (And.intro h60 (And.intro h59_ (And.intro h61 (And.intro h62 (And.intro h63 (And.intro h63_ h62_))))))))))))))))))
    try simp [F10]
    and_intros <;> first | exact g _ (by kernel_rfl) | refine r _ _ _ ?_ | omega | (simp [maxLen, F10] <;> omega)
    refine WK [(0, AV.ptr 0 0), (2, AV.ptr 1 0), (6, AV.ptr 2 0), (8, AV.fn 93 []), (12, AV.ptr 3 0), (13, Iz v20), (14, AV.int .u32 v22), (15, AV.int .u32 v23), (106, Iz v20)] [(0, .cells (List.map (AV.int .u32) v0)), (1, .cells (List.map (AV.int .u32) v2)), (2, .cells (List.map (AV.int .u32) v11)), (3, .cells (List.map (AV.int .u32) v21))] 4 (by simp [F10]) (by simp [F10]) ?_
    refine SQ [] [none, none, none, none, none, none, none, none, none, none, none, none, none, none, none, none, none, none, none, none, none, none, none, none, none, none, none, none, none, none, none, none, none, none, none, none] fun _ _ g r => ?_
    obtain ⟨⟨h64, h66, h65⟩, hF⟩ := chk_elim hF
    have h65_ := ne_of_lt h65
    obtain ⟨v24, h67, h68, h69, hF⟩ := idx_elim hF
    have h69_ := get_of h69
    try simp at h69_
    have h68_ := h68
    try simp at h68_
    have F11 := And.intro F10 (And.intro h64 (And.intro h65 (And.intro h66 (And.intro h65_ (And.intro h67 (And.intro h68 (And.intro h69 (And.intro h69_ h68_))))))))
    try simp [F11]
    and_intros
    try any_goals first | omega | (simp [maxLen, F11] <;> omega)
    obtain ⟨v25, h70, hF⟩ := bnd1_elim hF
    refine AC (w_digest_state_block_1 k _ _ _ h70) (.cons (.same (by simp [F11])) (.cons (.same (by simp [F11])) .nil)) ?_
    try simp [F11]
    and_intros
    try any_goals first | omega | (simp [maxLen, F11] <;> omega)
    obtain ⟨v26, h71, hF⟩ := bnd1_elim hF
    refine AC (w_digest_state_block_1 k _ _ _ h71) (.cons (.same (by simp [F11])) (.cons (.same (by simp [F11])) .nil)) ?_
    try simp [F11]
    and_intros
    try any_goals first | omega | (simp [maxLen, F11] <;> omega)
    obtain ⟨v27, h72, hF⟩ := bnd1_elim hF
    refine AC (w_digest_state_block_1 k _ _ _ h72) (.cons (.same (by simp [F11])) (.cons (.same (by simp [F11])) .nil)) ?_
    obtain ⟨⟨h73, h75, h74⟩, hF⟩ := chk_elim hF
    have h74_ := ne_of_lt h74
    obtain ⟨v28, h76, h77, h78, hF⟩ := idx_elim hF
    have h78_ := get_of h78
    try simp at h78_
    have h77_ := h77
    try simp at h77_
    obtain ⟨⟨h79, h81, h80⟩, hF⟩ := chk_elim hF
    have h80_ := ne_of_lt h80
    obtain ⟨v29, h82, h83, h84, hF⟩ := idx_elim hF
    have h84_ := get_of h84
    try simp at h84_
    have h83_ := h83
    try simp at h83_
    obtain ⟨⟨h85, h87, h86⟩, hF⟩ := chk_elim hF
    have h86_ := ne_of_lt h86
    obtain ⟨v30, h88, h89, h90, hF⟩ := idx_elim hF
    have h90_ := get_of h90
    try simp at h90_
    have h89_ := h89
    try simp at h89_
    obtain ⟨⟨h91, h93, h92⟩, hF⟩ := chk_elim hF
    have h92_ := ne_of_lt h92
    obtain ⟨v31, h94, h95, h96, hF⟩ := idx_elim hF
    have h96_ := get_of h96
    try simp at h96_
    have h95_ := h95
    try simp at h95_
    have F12 := And.intro F11 (And.intro h73 (And.intro h74 (And.intro h75 (And.intro h74_ (And.intro h76 (And.intro h77 (And.intro h78 (And.intro h78_ (And.intro h77_ (And.intro h79 (And.intro h80 (And.intro h81 (And.intro h80_ (And.intro h82 (And.intro h83 (And.intro h84 (And.intro h84_ (And.intro h83_ (And.intro h85 (And.intro h86 (And.intro h87 (And.intro h86_ (And.intro h88 (And.intro h89 (And.intro h90 (And.intro h90_ (And.intro h89_ (And.intro h91 (And.intro h92 (And.intro h93 (And.intro h92_ (And.intro h94 (And.intro h95 (And.intro h96 (And.intro h96_ h95_)))))))))))))))))))))))))))))))))))
    try simp [F12]
    and_intros <;> first | exact g _ (by kernel_rfl) | refine r _ _ _ ?_ | omega | (simp [maxLen, F12] <;> omega)
    refine WK [(0, AV.ptr 0 0), (2, AV.ptr 1 0), (6, AV.ptr 2 0), (8, AV.fn 93 []), (12, AV.ptr 3 0), (14, AV.int .u32 v22), (16, AV.int .u32 (IntKind.wrap .u32 (IntKind.wrap .u32 (IntKind.wrap .u32 (IntKind.wrap .u32 (v24 + bitsV .xor .u32 (bitsV .xor .u32 v25 v26) v27) + bitsV .xor .u32 (bitsV .and .u32 v23 v28) (bitsV .and .u32 (bitsV .xor .u32 (IntKind.max .u32) v23) v29)) + v30) + v31))), (106, Iz v20)] [(0, .cells (List.map (AV.int .u32) v0)), (1, .cells (List.map (AV.int .u32) v2)), (2, .cells (List.map (AV.int .u32) v11)), (3, .cells (List.map (AV.int .u32) v21))] 4 (by simp [F12]) (by simp [F12]) ?_
    refine SQ [] [none, none, none, none, none, none, none, none, none, none, none, none, none, none, none, none, none, none, none, none, none, none, none, none, none, none, none, none] fun _ _ g r => ?_
    try simp [F12]
    and_intros
    try any_goals first | omega | (simp [maxLen, F12] <;> omega)
    obtain ⟨v32, h97, hF⟩ := bnd1_elim hF
    refine AC (w_digest_state_block_1 k _ _ _ h97) (.cons (.same (by simp [F12])) (.cons (.same (by simp [F12])) .nil)) ?_
    try simp [F12]
    and_intros
    try any_goals first | omega | (simp [maxLen, F12] <;> omega)
    obtain ⟨v33, h98, hF⟩ := bnd1_elim hF
    refine AC (w_digest_state_block_1 k _ _ _ h98) (.cons (.same (by simp [F12])) (.cons (.same (by simp [F12])) .nil)) ?_
    try simp [F12]
    and_intros
    try any_goals first | omega | (simp [maxLen, F12] <;> omega)
    obtain ⟨v34, h99, hF⟩ := bnd1_elim hF
    refine AC (w_digest_state_block_1 k _ _ _ h99) (.cons (.same (by simp [F12])) (.cons (.same (by simp [F12])) .nil)) ?_
    obtain ⟨⟨h100, h102, h101⟩, hF⟩ := chk_elim hF
    have h101_ := ne_of_lt h101
    obtain ⟨v35, h103, h104, h105, hF⟩ := idx_elim hF
    have h105_ := get_of h105
    try simp at h105_
    have h104_ := h104
    try simp at h104_
    obtain ⟨⟨h106, h108, h107⟩, hF⟩ := chk_elim hF
    have h107_ := ne_of_lt h107
    obtain ⟨v36, h109, h110, h111, hF⟩ := idx_elim hF
    have h111_ := get_of h111
    try simp at h111_
    have h110_ := h110
    try simp at h110_
    obtain ⟨⟨h112, h114, h113⟩, hF⟩ := chk_elim hF
    have h113_ := ne_of_lt h113
    obtain ⟨⟨h115, h117, h116⟩, hF⟩ := chk_elim hF
    have h116_ := ne_of_lt h116
    have F13 := And.intro F12 (And.intro h100 (And.intro h101 (And.intro h102 (And.intro h101_ (And.intro h103 (And.intro h104 (And.intro h105 (And.intro h105_ (And.intro h104_ (And.intro h106 (And.intro h107 (And.intro h108 (And.intro h107_ (And.intro h109 (And.intro h110 (And.intro h111 (And.intro h111_ (And.intro h110_ (And.intro h112 (And.intro h113 (And.intro h114 (And.intro h113_ (And.intro h115 (And.intro h116 (And.intro h117 h116_)))))))))))))))))))))))))
    try simp [F13]
    and_intros <;> first | exact g _ (by kernel_rfl) | refine r _ _ _ ?_ | omega | (simp [maxLen, F13] <;> omega)
    refine WK [(0, AV.ptr 0 0), (2, AV.ptr 1 0), (6, AV.ptr 2 0), (8, AV.fn 93 []), (12, AV.ptr 3 0), (16, AV.int .u32 (IntKind.wrap .u32 (IntKind.wrap .u32 (IntKind.wrap .u32 (IntKind.wrap .u32 (v24 + bitsV .xor .u32 (bitsV .xor .u32 v25 v26) v27) + bitsV .xor .u32 (bitsV .and .u32 v23 v28) (bitsV .and .u32 (bitsV .xor .u32 (IntKind.max .u32) v23) v29)) + v30) + v31))), (17, AV.int .u32 (IntKind.wrap .u32 (bitsV .xor .u32 (bitsV .xor .u32 v32 v33) v34 + bitsV .xor .u32 (bitsV .xor .u32 (bitsV .and .u32 v22 v35) (bitsV .and .u32 v22 v36)) (bitsV .and .u32 v35 v36)))), (106, Iz v20)] [(0, .cells (List.map (AV.int .u32) v0)), (1, .cells (List.map (AV.int .u32) v2)), (2, .cells (List.map (AV.int .u32) v11)), (3, .cells (List.map (AV.int .u32) v21))] 4 (by simp [F13]) (by simp [F13]) ?_
    refine RG [] [none, none, none, none, none, none, none, none, none, none, none, none, none, none, none, none, none, none, none, none, none] fun _ _ g r => ?_
    obtain ⟨⟨h118, h120, h119⟩, hF⟩ := chk_elim hF
    have h119_ := ne_of_lt h119
    obtain ⟨⟨h121, h123, h122⟩, hF⟩ := chk_elim hF
    have h122_ := ne_of_lt h122
    obtain ⟨⟨h124, h126, h125⟩, hF⟩ := chk_elim hF
    have h125_ := ne_of_lt h125
    obtain ⟨⟨h127, h129, h128⟩, hF⟩ := chk_elim hF
    have h128_ := ne_of_lt h128
    obtain ⟨v37, h130, h131, h132, hF⟩ := idx_elim hF
    have h132_ := get_of h132
    try simp at h132_
    have h131_ := h131
    try simp at h131_
    obtain ⟨⟨h133, h135, h134⟩, hF⟩ := chk_elim hF
    have h134_ := ne_of_lt h134
    obtain ⟨⟨h136, h138, h137⟩, hF⟩ := chk_elim hF
    have h137_ := ne_of_lt h137
    obtain ⟨⟨h139, h141, h140⟩, hF⟩ := chk_elim hF
    have h140_ := ne_of_lt h140
    obtain ⟨h142, hF⟩ := chk_elim hF
    have F14 := And.intro F13 (And.intro h118 (And.intro h119 (And.intro h120 (And.intro h119_ (And.intro h121 (And.intro h122 (And.intro h123 (And.intro h122_ (And.intro h124 (And.intro h125 (And.intro h126 (And.intro h125_ (And.intro h127 (And.intro h128 (And.intro h129 (And.intro h128_ (And.intro h130 (And.intro h131 (And.intro h132 (And.intro h132_ (And.intro h131_ (And.intro h133 (And.intro h134 (And.intro h135 (And.intro h134_ (And.intro h136 (And.intro h137 (And.intro h138 (And.intro h137_ (And.intro h139 (And.intro h140 (And.intro h141 (And.intro h140_ h142)))))))))))))))))))))))))))))))))
    try simp [F14]
    and_intros <;> first | exact g _ (by kernel_rfl) | refine r _ _ _ ?_ | omega | (simp [maxLen, F14] <;> omega)
    refine hK560 _ _ _ ?_
    refine WK [(0, AV.ptr 0 0), (2, AV.ptr 1 0), (6, AV.ptr 2 0), (8, AV.fn 93 []), (12, AV.ptr 3 0), (106, Iz v20)] [(0, .cells (List.map (AV.int .u32) v0)), (1, .cells (List.map (AV.int .u32) v2)), (2, .cells (List.map (AV.int .u32) v11)), (3, .cells (List.map (AV.int .u32) ([IntKind.wrap .u32 (IntKind.wrap .u32 (IntKind.wrap .u32 (IntKind.wrap .u32 (IntKind.wrap .u32 (v24 + bitsV .xor .u32 (bitsV .xor .u32 v25 v26) v27) + bitsV .xor .u32 (bitsV .and .u32 v23 v28) (bitsV .and .u32 (bitsV .xor .u32 (IntKind.max .u32) v23) v29)) + v30) + v31) + IntKind.wrap .u32 (bitsV .xor .u32 (bitsV .xor .u32 v32 v33) v34 + bitsV .xor .u32 (bitsV .xor .u32 (bitsV .and .u32 v22 v35) (bitsV .and .u32 v22 v36)) (bitsV .and .u32 v35 v36))), v22, v35, v36, IntKind.wrap .u32 (v37 + IntKind.wrap .u32 (IntKind.wrap .u32 (IntKind.wrap .u32 (IntKind.wrap .u32 (v24 + bitsV .xor .u32 (bitsV .xor .u32 v25 v26) v27) + bitsV .xor .u32 (bitsV .and .u32 v23 v28) (bitsV .and .u32 (bitsV .xor .u32 (IntKind.max .u32) v23) v29)) + v30) + v31)), v23, v28, v29] : List Int)))] 4 (by simp [F14]) (by simp [F14]) ?_
    refine RG [] [none, none] fun _ _ g r => ?_
    try simp [F14]
    and_intros <;> first | exact g _ (by kernel_rfl) | refine r _ _ _ ?_ | omega | (simp [maxLen, F14] <;> omega)
    refine hK552 _ _ _ ?_
    exact NX (k' := n3) ((IntKind.wrap .i64 (v20 + 1), ([IntKind.wrap .u32 (IntKind.wrap .u32 (IntKind.wrap .u32 (IntKind.wrap .u32 (IntKind.wrap .u32 (v24 + bitsV .xor .u32 (bitsV .xor .u32 v25 v26) v27) + bitsV .xor .u32 (bitsV .and .u32 v23 v28) (bitsV .and .u32 (bitsV .xor .u32 (IntKind.max .u32) v23) v29)) + v30) + v31) + IntKind.wrap .u32 (bitsV .xor .u32 (bitsV .xor .u32 v32 v33) v34 + bitsV .xor .u32 (bitsV .xor .u32 (bitsV .and .u32 v22 v35) (bitsV .and .u32 v22 v36)) (bitsV .and .u32 v35 v36))), v22, v35, v36, IntKind.wrap .u32 (v37 + IntKind.wrap .u32 (IntKind.wrap .u32 (IntKind.wrap .u32 (IntKind.wrap .u32 (v24 + bitsV .xor .u32 (bitsV .xor .u32 v25 v26) v27) + bitsV .xor .u32 (bitsV .and .u32 v23 v28) (bitsV .and .u32 (bitsV .xor .u32 (IntKind.max .u32) v23) v29)) + v30) + v31)), v23, v28, v29] : List Int))) hF (by simp [F14]) (by simp [F14])
   ·replace hF := ite_f h51 hF
    have h51_ := h51
    try simp at h51_
    have F15 := And.intro F8 (And.intro h51 h51_)
    refine CF (by simp [F15] <;> omega) ?_
    refine AW.exit ?_
    try simp
    refine hK508 _ _ _ ?_
    refine SQ [] [none] fun _ _ g r => ?_
    try simp [F15]
    and_intros <;> first | exact g _ (by kernel_rfl) | refine r _ _ _ ?_ | omega | (simp [maxLen, F15] <;> omega)
    refine WK [(0, AV.ptr 0 0), (12, AV.ptr 3 0), (196, Iz 0)] [(0, .cells (List.map (AV.int .u32) v0)), (1, .cells (List.map (AV.int .u32) v2)), (3, .cells (List.map (AV.int .u32) v21))] 4 (by simp [F15]) (by simp [F15]) ?_
    refine AW.block ?_
    refine AW.rnm (m := 2) h0 [(0, 0), (1, 1), (2, 3)] [(0, AV.ptr 0 0), (12, AV.ptr 2 0), (196, Iz 0)] [(0, .cells (List.map (AV.int .u32) v0)), (1, .cells (List.map (AV.int .u32) v2)), (2, .cells (List.map (AV.int .u32) v21))] 3 (by decide) (by decide) (by decide) rfl (by simp [F15]) (by simp [F15]) ?_
    refine AW.loopF (α := (Int × (List Int))) (fun n (v38, v39) => digest_state_block.L4 k v21 n v38 v39 = some v3) (fun (v38, v39) => [(0, AV.ptr 0 0), (12, AV.ptr 2 0), (196, Iz v38)]) (fun (v38, v39) => [(0, .cells (List.map (AV.int .u32) v39)), (1, .cells (List.map (AV.int .u32) v2)), (2, .cells (List.map (AV.int .u32) v21))]) 3 k ((0, v0)) hF (by simp [F15]) (by simp [F15]) (by simp) ?_
    rintro (_|n4) ⟨v38, v39⟩ hF K592 hK592
    ·try dsimp only at hF
     rw [digest_state_block.L4] at hF; cases hF
    try dsimp only at hF
    rw [digest_state_block.L4] at hF
    refine SQ [] [none] fun _ _ g r => ?_
    try simp [F15]
    and_intros <;> first | exact g _ (by kernel_rfl) | refine r _ _ _ ?_ | omega | (simp [maxLen, F15] <;> omega)
    refine WK [(0, AV.ptr 0 0), (12, AV.ptr 2 0), (196, Iz v38), (197, AV.bool (decide (v38 < 8)))] [(0, .cells (List.map (AV.int .u32) v39)), (1, .cells (List.map (AV.int .u32) v2)), (2, .cells (List.map (AV.int .u32) v21))] 3 (by simp [F15]) (by simp [F15]) ?_
    refine AW.seq fun K594 hK594 => ?_
    by_cases h143 : v38 < 8
    ·replace hF := ite_t h143 hF
     have h143_ := h143
     try simp at h143_
     have F16 := And.intro F15 (And.intro h143 h143_)
     refine CT (by simp [F16] <;> omega) ?_
     refine AW.skip ?_
     refine hK594 _ _ _ ?_
     refine AW.seq fun K597 hK597 => ?_
     refine AW.block ?_
     refine SQ [] [none, none] fun _ _ g r => ?_
     try simp [F16]
     and_intros <;> first | exact g _ (by kernel_rfl) | refine r _ _ _ ?_ | omega | (simp [maxLen, F16] <;> omega)
     refine WK [(0, AV.ptr 0 0), (12, AV.ptr 2 0), (18, Iz v38), (196, Iz v38)] [(0, .cells (List.map (AV.int .u32) v39)), (1, .cells (List.map (AV.int .u32) v2)), (2, .cells (List.map (AV.int .u32) v21))] 3 (by simp [F16]) (by simp [F16]) ?_
     refine RG [] [none, none, none, none, none, none, none, none, none, none, none, none] fun _ _ g r => ?_
     obtain ⟨⟨h144, h146, h145⟩, hF⟩ := chk_elim hF
     have h145_ := ne_of_lt h145
     obtain ⟨v40, h147, h148, h149, hF⟩ := idx_elim hF
     have h149_ := get_of h149
     try simp at h149_
     have h148_ := h148
     try simp at h148_
     obtain ⟨⟨h150, h152, h151⟩, hF⟩ := chk_elim hF
     have h151_ := ne_of_lt h151
     obtain ⟨v41, h153, h154, h155, hF⟩ := idx_elim hF
     have h155_ := get_of h155
     try simp at h155_
     have h154_ := h154
     try simp at h154_
     obtain ⟨⟨h156, h158, h157⟩, hF⟩ := chk_elim hF
     have h157_ := ne_of_lt h157
     have F17 := And.intro F16 (And.intro h144 (And.intro h145 (And.intro h146 (And.intro h145_ (And.intro h147 (And.intro h148 (And.intro h149 (And.intro h149_ (And.intro h148_ (And.intro h150 (And.intro h151 (And.intro h152 (And.intro h151_ (And.intro h153 (And.intro h154 (And.intro h155 (And.intro h155_ (And.intro h154_ (And.intro h156 (And.intro h157 (And.intro h158 h157_)))))))))))))))))))))
     try simp [F17]
     and_intros <;> first | exact g _ (by kernel_rfl) | refine r _ _ _ ?_ | omega | (simp [maxLen, F17] <;> omega)
     refine hK597 _ _ _ ?_
     refine WK [(0, AV.ptr 0 0), (12, AV.ptr 2 0), (196, Iz v38)] [(0, .cells (List.map (AV.int .u32) (v39.set (v38).toNat (IntKind.wrap .u32 (v40 + v41))))), (1, .cells (List.map (AV.int .u32) v2)), (2, .cells (List.map (AV.int .u32) v21))] 3 (by simp [F17]) (by simp [F17]) ?_
     refine RG [] [none, none] fun _ _ g r => ?_
     try simp [F17]
     and_intros <;> first | exact g _ (by kernel_rfl) | refine r _ _ _ ?_ | omega | (simp [maxLen, F17] <;> omega)
     refine hK592 _ _ _ ?_
     exact NX (k' := n4) ((IntKind.wrap .i64 (v38 + 1), v39.set (v38).toNat (IntKind.wrap .u32 (v40 + v41)))) hF (by simp [F17]) (by simp [F17])
    ·replace hF := ite_f h143 hF
     have h143_ := h143
     try simp at h143_
     have F18 := And.intro F15 (And.intro h143 h143_)
     refine CF (by simp [F18] <;> omega) ?_
     refine AW.exit ?_
     try simp
     simp only [Option.some.injEq] at hF
     subst hF
     refine (hQ _ _ _ ?_ (matchO_0 ?_)).2
     ·simp [Try.f59, F18]
     ·simp [F18]
theorem w_digest_Sum (k : Nat) (v0 : (List Int)) (v1 : ByteArray) (hF : digest_Sum k v0 = some v1) :
  FCall Try.prog 14 [AV.lst false false (List.map (AV.int .u8) v0)] [] (AV.str v1) [] := by
 unfold digest_Sum at hF
 refine EN Try.func14 ?_
 intro c0 w0 Q h0 hQ
 refine WK [(0, Lb v0)] [] 0 (by simp) (by simp) ?_
 refine SQ [] [none] fun _ _ g r => ?_
 try simp
 and_intros <;> first | exact g _ (by kernel_rfl) | refine r _ _ _ ?_ | omega | (simp [maxLen] <;> omega)
 refine WK [(0, Lb v0)] [] 0 (by simp) (by simp) ?_
 refine SQ [12] [none, none, none, none, none] fun _ _ g r => ?_
 obtain ⟨h1, hF⟩ := chk_elim hF
 have h1_ := h1
 try simp at h1_
 obtain ⟨h2, hF⟩ := chk_elim hF
 have h2_ := h2
 try simp at h2_
 try simp [h1, h2]
 and_intros <;> first | exact g _ (by kernel_rfl) | refine r _ _ _ ?_ | omega | (simp [h1, h2, maxLen] <;> omega)
 refine WK [(0, Lb v0), (3, AV.slc 1 0 1 ((v0 ++ ([128] : List Int)).length) false)] [(1, .grow (List.map (AV.int .u8) (v0 ++ ([128] : List Int))))] 2 (by simp [h1, h2] <;> omega) (by simp [h1, h2]) ?_
 refine AW.seq fun K250 hK250 => ?_
 refine AW.block ?_
 refine RM h0 [(0, 1)] [(0, Lb v0), (3, AV.slc 0 0 1 ((v0 ++ ([128] : List Int)).length) false)] [(0, .grow (List.map (AV.int .u8) (v0 ++ ([128] : List Int))))] 1 (by simp [h1, h2]) (by simp [h1, h2]) ?_
 refine AW.loopF (α := (List Int)) (fun n v2 => digest_Sum.L1 k v0 n v2 = some v1) (fun v2 => [(0, Lb v0), (3, AV.slc 0 0 1 v2.length false)]) (fun v2 => [(0, .grow (List.map (AV.int .u8) v2))]) 1 k (v0 ++ ([128] : List Int)) hF (by simp [h1, h2]) (by simp [h1, h2]) (by simp) ?_
 rintro (_|n1) v2 hF K263 hK263
 ·try dsimp only at hF
  rw [digest_Sum.L1] at hF; cases hF
 try dsimp only at hF
 rw [digest_Sum.L1] at hF
 refine AW.seq fun K265 hK265 => ?_
 refine SQ [] [none, none, none, none] fun _ _ g r => ?_
 try simp [h1, h2]
 and_intros <;> first | exact g _ (by kernel_rfl) | refine r _ _ _ ?_ | omega | (simp [h1, h2, maxLen] <;> omega)
 refine WK [(0, Lb v0), (3, AV.slc 0 0 1 v2.length false), (18, AV.bool ((Int.tmod (v2.length : Int) 64) != 56))] [(0, .grow (List.map (AV.int .u8) v2))] 1 (by simp [h1, h2]) (by simp [h1, h2]) ?_
 by_cases h3 : (Int.tmod (v2.length : Int) 64) ≠ 56
 ·replace hF := ite_t h3 hF
  have h3_ := eqb_f h3
  have h3__ := neb_t h3
  refine CT (by simp [h1, h2, h3, h3_, h3__] <;> omega) ?_
  refine AW.skip ?_
  refine hK265 _ _ _ ?_
  refine AW.block ?_
  refine RG [] [none, none, none, none] fun _ _ g r => ?_
  obtain ⟨h4, hF⟩ := chk_elim hF
  have h4_ := h4
  try simp at h4_
  have F1 := And.intro h1 (And.intro h2 (And.intro h3 (And.intro h3_ (And.intro h3__ h4))))
  try simp [F1]
  and_intros <;> first | exact g _ (by kernel_rfl) | refine r _ _ _ ?_ | omega | (simp [maxLen, F1] <;> omega)
  refine hK263 _ _ _ ?_
  refine RN h0 [(0, 1)] [(0, Lb v0), (3, AV.slc 0 0 1 ((v2 ++ ([0] : List Int)).length) false)] [(0, .grow (List.map (AV.int .u8) (v2 ++ ([0] : List Int))))] 1 (by simp [F1] <;> omega) (by simp [F1]) ?_
  exact NX (k' := n1) (v2 ++ ([0] : List Int)) hF (by simp [F1]) (by simp [F1])
 ·replace hF := ite_f h3 hF
  have h3q : (Int.tmod (v2.length : Int) 64) = 56 := Classical.not_not.1 h3
  have h3_ := eqb_t h3q
  have h3__ := neb_f h3q
  have F2 := And.intro h1 (And.intro h2 (And.intro h3_ (And.intro h3__ h3q)))
  refine CF (by simp [F2] <;> omega) ?_
  refine AW.exit ?_
  try simp
  refine hK250 _ _ _ ?_
  refine SQ [] [none, none, none, none, none] fun _ _ g r => ?_
  try simp [F2]
  and_intros <;> first | exact g _ (by kernel_rfl) | refine r _ _ _ ?_ | omega | (simp [maxLen, F2] <;> omega)
  refine WK [(3, AV.slc 0 0 1 v2.length false), (4, AV.int .u64 (IntKind.wrap .u64 (IntKind.wrap .u64 (v0.length : Int) * 8)))] [(0, .grow (List.map (AV.int .u8) v2))] 1 (by simp [F2]) (by simp [F2]) ?_
  refine AW.seq fun K299 hK299 => ?_
  refine SQ [] [none] fun _ _ g r => ?_
  try simp [F2]
  and_intros <;> first | exact g _ (by kernel_rfl) | refine r _ _ _ ?_ | omega | (simp [maxLen, F2] <;> omega)
  refine WK [(3, AV.slc 0 0 1 v2.length false), (4, AV.int .u64 (IntKind.wrap .u64 (IntKind.wrap .u64 (v0.length : Int) * 8))), (5, Iz 56)] [(0, .grow (List.map (AV.int .u8) v2))] 1 (by simp [F2]) (by simp [F2]) ?_
  refine AW.block ?_
  refine AW.loopF (α := (Int × (List Int))) (fun n (v3, v4) => digest_Sum.L2 k v0 n v3 v4 = some v1) (fun (v3, v4) => [(3, AV.slc 0 0 1 v4.length false), (4, AV.int .u64 (IntKind.wrap .u64 (IntKind.wrap .u64 (v0.length : Int) * 8))), (5, Iz v3)]) (fun (v3, v4) => [(0, .grow (List.map (AV.int .u8) v4))]) 1 k ((56, v2)) hF (by simp [F2]) (by simp [F2]) (by simp) ?_
  rintro (_|n2) ⟨v3, v4⟩ hF K322 hK322
  ·try dsimp only at hF
   rw [digest_Sum.L2] at hF; cases hF
  try dsimp only at hF
  rw [digest_Sum.L2] at hF
  refine AW.seq fun K324 hK324 => ?_
  refine SQ [] [none, none] fun _ _ g r => ?_
  try simp [F2]
  and_intros <;> first | exact g _ (by kernel_rfl) | refine r _ _ _ ?_ | omega | (simp [maxLen, F2] <;> omega)
  refine WK [(3, AV.slc 0 0 1 v4.length false), (4, AV.int .u64 (IntKind.wrap .u64 (IntKind.wrap .u64 (v0.length : Int) * 8))), (5, Iz v3), (27, AV.bool (decide (0 ≤ v3)))] [(0, .grow (List.map (AV.int .u8) v4))] 1 (by simp [F2]) (by simp [F2]) ?_
  by_cases h5 : 0 ≤ v3
  ·replace hF := ite_t h5 hF
   have h5_ := h5
   try simp at h5_
   have F3 := And.intro F2 (And.intro h5 h5_)
   refine CT (by simp [F3] <;> omega) ?_
   refine AW.skip ?_
   refine hK324 _ _ _ ?_
   refine AW.seq fun K327 hK327 => ?_
   refine AW.block ?_
   refine RG [] [none, none, none, none, none, none, none, none, none] fun _ _ g r => ?_
   obtain ⟨h6, hF⟩ := chk_elim hF
   obtain ⟨h7, hF⟩ := chk_elim hF
   have h7_ := h7
   try simp at h7_
   have F4 := And.intro F3 (And.intro h6 h7)
   try simp [F4]
   and_intros <;> first | exact g _ (by kernel_rfl) | refine r _ _ _ ?_ | omega | (simp [maxLen, F4] <;> omega)
   refine hK327 _ _ _ ?_
   refine WK [(3, AV.slc 1 0 1 ((v4 ++ ([IntKind.wrap .u8 (Int.fdiv (IntKind.wrap .u64 (IntKind.wrap .u64 (v0.length : Int) * 8)) (2 ^ (min ((IntKind.wrap .u64 v3).toNat) 64)))] : List Int)).length) false), (4, AV.int .u64 (IntKind.wrap .u64 (IntKind.wrap .u64 (v0.length : Int) * 8))), (5, Iz v3)] [(1, .grow (List.map (AV.int .u8) (v4 ++ ([IntKind.wrap .u8 (Int.fdiv (IntKind.wrap .u64 (IntKind.wrap .u64 (v0.length : Int) * 8)) (2 ^ (min ((IntKind.wrap .u64 v3).toNat) 64)))] : List Int))))] 2 (by simp [F4] <;> omega) (by simp [F4]) ?_
   refine RG [] [none, none, none] fun _ _ g r => ?_
   try simp [F4]
   and_intros <;> first | exact g _ (by kernel_rfl) | refine r _ _ _ ?_ | omega | (simp [maxLen, F4] <;> omega)
   refine hK322 _ _ _ ?_
   refine RN h0 [(0, 1)] [(3, AV.slc 0 0 1 ((v4 ++ ([IntKind.wrap .u8 (Int.fdiv (IntKind.wrap .u64 (IntKind.wrap .u64 (v0.length : Int) * 8)) (2 ^ (min ((IntKind.wrap .u64 v3).toNat) 64)))] : List Int)).length) false), (4, AV.int .u64 (IntKind.wrap .u64 (IntKind.wrap .u64 (v0.length : Int) * 8))), (5, Iz (IntKind.wrap .i64 (v3 - 8)))] [(0, .grow (List.map (AV.int .u8) (v4 ++ ([IntKind.wrap .u8 (Int.fdiv (IntKind.wrap .u64 (IntKind.wrap .u64 (v0.length : Int) * 8)) (2 ^ (min ((IntKind.wrap .u64 v3).toNat) 64)))] : List Int))))] 1 (by simp [F4] <;> omega) (by simp [F4]) ?_
   exact NX (k' := n2) ((IntKind.wrap .i64 (v3 - 8), v4 ++ ([IntKind.wrap .u8 (Int.fdiv (IntKind.wrap .u64 (IntKind.wrap .u64 (v0.length : Int) * 8)) (2 ^ (min ((IntKind.wrap .u64 v3).toNat) 64)))] : List Int))) hF (by simp [F4]) (by simp [F4])
  ·replace hF := ite_f h5 hF
   have h5_ := h5
   try simp at h5_
   have F5 := And.intro F2 (And.intro h5 h5_)
   refine CF (by simp [F5] <;> omega) ?_
   refine AW.exit ?_
   try simp
   refine hK299 _ _ _ ?_
   refine WK [(3, AV.slc 0 0 1 v4.length false)] [(0, .grow (List.map (AV.int .u8) v4))] 1 (by simp [F5]) (by simp [F5]) ?_
   refine AW.frz 0 (o := .grow (List.map (AV.int .u8) v4)) (by simp [F5]) rfl [(3, Lb v4)] [] ⟨(.l (by simp) (by simp) (by simp) (by simp)), trivial⟩ trivial ?_
   refine WK [(3, Lb v4)] [] 1 (by simp [F5]) (by simp [F5]) ?_
   refine SQ [] [none, none, none, none, none, none] fun _ _ g r => ?_
   try simp [F5]
   and_intros
   try any_goals first | omega | (simp [maxLen, F5] <;> omega)
   obtain ⟨v5, h8, hF⟩ := bnd1_elim hF
   refine AC (w_digest_rounds k _ h8) .nil ?_
   obtain ⟨h9, hF⟩ := chk_elim hF
   obtain ⟨h10, hF⟩ := chk_elim hF
   have F6 := And.intro F5 (And.intro h9 h10)
   try simp [F6]
   and_intros <;> first | exact g _ (by kernel_rfl) | refine r _ _ _ ?_ | omega | (simp [maxLen, F6] <;> omega)
   refine WK [(3, Lb v4), (6, AV.ptr 1 0), (7, AV.ptr 2 0)] [(1, .cells (List.map (AV.int .u32) ([1779033703, 3144134277, 1013904242, 2773480762, 1359893119, 2600822924, 528734635, 1541459225] : List Int))), (2, .cells (List.map (AV.int .u32) v5))] 3 (by simp [F6]) (by simp [F6]) ?_
   refine AW.seq fun K360 hK360 => ?_
   refine AW.block ?_
   refine RM h0 [(0, 1), (1, 2)] [(3, Lb v4), (6, AV.ptr 0 0), (7, AV.ptr 1 0)] [(0, .cells (List.map (AV.int .u32) ([1779033703, 3144134277, 1013904242, 2773480762, 1359893119, 2600822924, 528734635, 1541459225] : List Int))), (1, .cells (List.map (AV.int .u32) v5))] 2 (by simp [F6]) (by simp [F6]) ?_
   refine AW.loopF (α := ((List Int) × (List Int))) (fun n (v6, v7) => digest_Sum.L3 k v5 n v6 v7 = some v1) (fun (v6, v7) => [(3, Lb v6), (6, AV.ptr 0 0), (7, AV.ptr 1 0)]) (fun (v6, v7) => [(0, .cells (List.map (AV.int .u32) v7)), (1, .cells (List.map (AV.int .u32) v5))]) 2 k ((v4, ([1779033703, 3144134277, 1013904242, 2773480762, 1359893119, 2600822924, 528734635, 1541459225] : List Int))) hF (by simp [F6]) (by simp [F6]) (by simp) ?_
   rintro (_|n3) ⟨v6, v7⟩ hF K382 hK382
   ·try dsimp only at hF
    rw [digest_Sum.L3] at hF; cases hF
   try dsimp only at hF
   rw [digest_Sum.L3] at hF
   refine AW.seq fun K384 hK384 => ?_
   refine SQ [] [none, none, none] fun _ _ g r => ?_
   try simp [F6]
   and_intros <;> first | exact g _ (by kernel_rfl) | refine r _ _ _ ?_ | omega | (simp [maxLen, F6] <;> omega)
   refine WK [(3, Lb v6), (6, AV.ptr 0 0), (7, AV.ptr 1 0), (42, AV.bool (decide (0 < (v6.length : Int))))] [(0, .cells (List.map (AV.int .u32) v7)), (1, .cells (List.map (AV.int .u32) v5))] 2 (by simp [F6]) (by simp [F6]) ?_
   by_cases h11 : 0 < (v6.length : Int)
   ·replace hF := ite_t h11 hF
    have h11_ := h11
    try simp at h11_
    have F7 := And.intro F6 (And.intro h11 h11_)
    refine CT (by simp [F7] <;> omega) ?_
    refine AW.skip ?_
    refine hK384 _ _ _ ?_
    refine AW.seq fun K387 hK387 => ?_
    refine AW.block ?_
    refine RG [] [none, none, none] fun _ _ g r => ?_
    obtain ⟨h12, hF⟩ := chk_elim hF
    have h12_ := h12
    try simp at h12_
    have F8 := And.intro F7 (And.intro h12 h12_)
    try simp [F8]
    and_intros
    try any_goals first | omega | (simp [maxLen, F8] <;> omega)
    obtain ⟨v8, h13, hF⟩ := bnd1_elim hF
    refine aCall_l (w_digest_state_block k _ _ _ _ h13) (by simp) [0, 1] [] [0] rfl (.cons (.same (by simp [F8])) (.cons (.same (by simp [F8])) (.cons (.same (by simp [F8])) .nil))) (by simp [F8]) (by decide) (by simp) (by simp) (.inl rfl) (by simp) (by simp) ?_
    try simp [F8]
    and_intros <;> first | exact g _ (by kernel_rfl) | refine r _ _ _ ?_ | omega | (simp [maxLen, F8] <;> omega)
    refine hK387 _ _ _ ?_
    refine WK [(3, Lb v6), (6, AV.ptr 0 0), (7, AV.ptr 1 0)] [(0, .cells (List.map (AV.int .u32) v8)), (1, .cells (List.map (AV.int .u32) v5))] 2 (by simp [F8]) (by simp [F8]) ?_
    refine RG [] [none, none, none] fun _ _ g r => ?_
    obtain ⟨h14, hF⟩ := chk_elim hF
    have h14_ := h14
    try simp at h14_
    have F9 := And.intro F8 (And.intro h14 h14_)
    try simp [F9]
    and_intros <;> first | exact g _ (by kernel_rfl) | refine r _ _ _ ?_ | omega | (simp [maxLen, F9] <;> omega)
    refine hK382 _ _ _ ?_
    exact NX (k' := n3) ((v6.drop (64 : Int).toNat, v8)) hF (by simp [F9]) (by simp [F9])
   ·replace hF := ite_f h11 hF
    have h11_ := h11
    try simp at h11_
    have F10 := And.intro F6 (And.intro h11 h11_)
    refine CF (by simp [F10] <;> omega) ?_
    refine AW.exit ?_
    try simp
    refine hK360 _ _ _ ?_
    refine SQ [] [none] fun _ _ g r => ?_
    try simp [F10]
    and_intros <;> first | exact g _ (by kernel_rfl) | refine r _ _ _ ?_ | omega | (simp [maxLen, F10] <;> omega)
    refine WK [(6, AV.ptr 0 0), (8, AV.lst true true (List.map (AV.int .u8) ([] : List Int)))] [(0, .cells (List.map (AV.int .u32) v7))] 2 (by simp [F10]) (by simp [F10]) ?_
    refine AW.seq fun K425 hK425 => ?_
    refine SQ [] [none, none] fun _ _ g r => ?_
    -- array load
    obtain ⟨h15, hF⟩ := chk_elim hF
    have h15_ := ne_of_len h15 (by decide)
    have F11 := And.intro F10 (And.intro h15 h15_)
    try simp [F11]
    and_intros <;> first | exact g _ (by kernel_rfl) | refine r _ _ _ ?_ | omega | (simp [maxLen, F11] <;> omega)
    refine WK [(8, AV.lst true true (List.map (AV.int .u8) ([] : List Int))), (48, AV.agg (List.map (AV.int .u32) v7)), (49, Iz 0)] [] 2 (by simp [F11]) (by simp [F11]) ?_
    refine AW.block ?_
    refine AW.own' 8 1 true (by simp [F11]) (by decide) ?_
    refine RM h0 [(0, 2)] [(8, AV.slc 0 0 1 (([] : List Int).length) false), (48, AV.agg (List.map (AV.int .u32) v7)), (49, Iz 0)] [(0, .grow (List.map (AV.int .u8) ([] : List Int)))] 1 (by simp [F11]) (by simp [F11]) ?_
    refine AW.loopF (α := (Int × (List Int))) (fun n (v9, v10) => digest_Sum.L4 k v7 n v9 v10 = some v1) (fun (v9, v10) => [(8, AV.slc 0 0 1 v10.length false), (48, AV.agg (List.map (AV.int .u32) v7)), (49, Iz v9)]) (fun (v9, v10) => [(0, .grow (List.map (AV.int .u8) v10))]) 1 k ((0, ([] : List Int))) hF (by simp [F11]) (by simp [F11]) (by simp) ?_
    rintro (_|n4) ⟨v9, v10⟩ hF K451 hK451
    ·try dsimp only at hF
     rw [digest_Sum.L4] at hF; cases hF
    try dsimp only at hF
    rw [digest_Sum.L4] at hF
    refine SQ [] [none] fun _ _ g r => ?_
    try simp [F11]
    and_intros <;> first | exact g _ (by kernel_rfl) | refine r _ _ _ ?_ | omega | (simp [maxLen, F11] <;> omega)
    refine WK [(8, AV.slc 0 0 1 v10.length false), (48, AV.agg (List.map (AV.int .u32) v7)), (49, Iz v9), (50, AV.bool (decide (v9 < 8)))] [(0, .grow (List.map (AV.int .u8) v10))] 1 (by simp [F11]) (by simp [F11]) ?_
    refine AW.seq fun K453 hK453 => ?_
    by_cases h16 : v9 < 8
    ·replace hF := ite_t h16 hF
     have h16_ := h16
     try simp at h16_
     have F12 := And.intro F11 (And.intro h16 h16_)
     refine CT (by simp [F12] <;> omega) ?_
     refine AW.skip ?_
     refine hK453 _ _ _ ?_
     refine AW.seq fun K456 hK456 => ?_
     refine AW.block ?_
     refine SQ [] [none, none] fun _ _ g r => ?_
     obtain ⟨h17, hF⟩ := chk_elim hF
     obtain ⟨v11, h18, h19, h20, hF⟩ := idx_elim hF
     have h20_ := get_of h20
     try simp at h20_
     have h19_ := h19
     try simp at h19_
     have F13 := And.intro F12 (And.intro h17 (And.intro h18 (And.intro h19 (And.intro h20 (And.intro h20_ h19_)))))
     try simp [F13]
     and_intros <;> first | exact g _ (by kernel_rfl) | refine r _ _ _ ?_ | omega | (simp [maxLen, F13] <;> omega)
     refine WK [(8, AV.slc 0 0 1 v10.length false), (10, AV.int .u32 v11), (48, AV.agg (List.map (AV.int .u32) v7)), (49, Iz v9)] [(0, .grow (List.map (AV.int .u8) v10))] 1 (by simp [F13]) (by simp [F13]) ?_
     refine RG [] [none, none, none, none, none, none, none, none, none, none, none, none, none, none, none] fun _ _ g r => ?_
     obtain ⟨h21, hF⟩ := chk_elim hF
     have h21_ := h21
     try simp at h21_
     have F14 := And.intro F13 h21
     try simp [F14]
     and_intros <;> first | exact g _ (by kernel_rfl) | refine r _ _ _ ?_ | omega | (simp [maxLen, F14] <;> omega)
     refine hK456 _ _ _ ?_
     refine WK [(8, AV.slc 1 0 1 ((v10 ++ ([IntKind.wrap .u8 (Int.fdiv v11 (2 ^ (24))), IntKind.wrap .u8 (Int.fdiv v11 (2 ^ (16))), IntKind.wrap .u8 (Int.fdiv v11 (2 ^ (8))), IntKind.wrap .u8 v11] : List Int)).length) false), (48, AV.agg (List.map (AV.int .u32) v7)), (49, Iz v9)] [(1, .grow (List.map (AV.int .u8) (v10 ++ ([IntKind.wrap .u8 (Int.fdiv v11 (2 ^ (24))), IntKind.wrap .u8 (Int.fdiv v11 (2 ^ (16))), IntKind.wrap .u8 (Int.fdiv v11 (2 ^ (8))), IntKind.wrap .u8 v11] : List Int))))] 2 (by simp [F14] <;> omega) (by simp [F14]) ?_
     refine RG [] [none, none] fun _ _ g r => ?_
     try simp [F14]
     and_intros <;> first | exact g _ (by kernel_rfl) | refine r _ _ _ ?_ | omega | (simp [maxLen, F14] <;> omega)
     refine hK451 _ _ _ ?_
     refine RN h0 [(0, 1)] [(8, AV.slc 0 0 1 ((v10 ++ ([IntKind.wrap .u8 (Int.fdiv v11 (2 ^ (24))), IntKind.wrap .u8 (Int.fdiv v11 (2 ^ (16))), IntKind.wrap .u8 (Int.fdiv v11 (2 ^ (8))), IntKind.wrap .u8 v11] : List Int)).length) false), (48, AV.agg (List.map (AV.int .u32) v7)), (49, Iz (IntKind.wrap .i64 (v9 + 1)))] [(0, .grow (List.map (AV.int .u8) (v10 ++ ([IntKind.wrap .u8 (Int.fdiv v11 (2 ^ (24))), IntKind.wrap .u8 (Int.fdiv v11 (2 ^ (16))), IntKind.wrap .u8 (Int.fdiv v11 (2 ^ (8))), IntKind.wrap .u8 v11] : List Int))))] 1 (by simp [F14] <;> omega) (by simp [F14]) ?_
     exact NX (k' := n4) ((IntKind.wrap .i64 (v9 + 1), v10 ++ ([IntKind.wrap .u8 (Int.fdiv v11 (2 ^ (24))), IntKind.wrap .u8 (Int.fdiv v11 (2 ^ (16))), IntKind.wrap .u8 (Int.fdiv v11 (2 ^ (8))), IntKind.wrap .u8 v11] : List Int))) hF (by simp [F14]) (by simp [F14])
    ·replace hF := ite_f h16 hF
     have h16_ := h16
     try simp at h16_
     have F15 := And.intro F11 (And.intro h16 h16_)
     refine CF (by simp [F15] <;> omega) ?_
     refine AW.exit ?_
     try simp
     refine hK425 _ _ _ ?_
     refine WK [(8, AV.slc 0 0 1 v10.length false)] [(0, .grow (List.map (AV.int .u8) v10))] 1 (by simp [F15]) (by simp [F15]) ?_
     refine AW.frz 0 (o := .grow (List.map (AV.int .u8) v10)) (by simp [F15]) rfl [(8, Lb v10)] [] ⟨(.l (by simp) (by simp) (by simp) (by simp)), trivial⟩ trivial ?_
     refine WK [(8, Lb v10)] [] 1 (by simp [F15]) (by simp [F15]) ?_
     refine SQ [] [none, none, none] fun _ _ g r => ?_
     try simp [F15]
     and_intros <;> first | exact g _ (by kernel_rfl) | refine r _ _ _ ?_ | omega | (simp [maxLen, F15] <;> omega)
     refine WK [(2, AV.str (ofI v10))] [] 1 (by simp [F15]) (by simp [F15]) ?_
     simp only [Option.some.injEq] at hF
     subst hF
     refine AW.ret (hQ _ _ _ ?_ (matchO_0 ?_)).1
     ·simp [Try.f14, F15]
     ·simp [F15]
theorem w_beacon_Numbers (k : Nat) (v0 : ByteArray) (v1 : (List Int)) (v2 : Int) (v3 : (List Int)) (v4 : Int) (hF : beacon_Numbers k v0 v1 v2 = some (v3, v4)) :
  FCall Try.prog 41 [AV.str v0, AV.lst false false (List.map (AV.int .i64) v1), AV.int .i64 v2] [] (AV.tup [AV.slc 0 0 1 v3.length false, AV.int .i64 v4]) [some (.grow (List.map (AV.int .i64) v3))] := by
 unfold beacon_Numbers at hF
 refine EN Try.func41 ?_
 intro c0 w0 Q h0 hQ
 refine WK [(0, AV.str v0), (1, Lz v1), (2, Iz v2)] [] 0 (by simp) (by simp) ?_
 refine SQ [] [none, none] fun _ _ g r => ?_
 try simp
 and_intros <;> first | exact g _ (by kernel_rfl) | refine r _ _ _ ?_ | omega | (simp [maxLen] <;> omega)
 refine WK [(0, AV.str v0), (1, Lz v1), (2, Iz v2)] [] 0 (by simp) (by simp) ?_
 refine AW.seq fun K1233 hK1233 => ?_
 refine AW.block ?_
 refine SQ [] [none, none, none, none] fun _ _ g r => ?_
 try simp
 and_intros <;> first | exact g _ (by kernel_rfl) | refine r _ _ _ ?_ | omega | (simp [maxLen] <;> omega)
 refine WK [(0, AV.str v0), (1, Lz v1), (2, Iz v2), (14, AV.bool ((v0.size : Int) != 32))] [] 0 (by simp) (by simp) ?_
 by_cases h1 : (v0.size : Int) ≠ 32
 ·replace hF := ite_t h1 hF
  have h1_ := eqb_f h1
  have h1__ := neb_t h1
  have F1 := And.intro h1 (And.intro h1_ h1__)
  refine CT (by simp [F1] <;> omega) ?_
  refine SQ [] [none, none] fun _ _ g r => ?_
  try simp [F1]
  and_intros <;> first | exact g _ (by kernel_rfl) | refine r _ _ _ ?_ | omega | (simp [maxLen, F1] <;> omega)
  refine WK [(6, AV.lst true true (List.map (AV.int .i64) ([] : List Int))), (7, Iz 1)] [] 0 (by simp [F1]) (by simp [F1]) ?_
  refine AW.own' 6 1 true (by simp [F1]) (by decide) ?_
  simp only [Option.some.injEq, Prod.mk.injEq] at hF
  obtain ⟨e0, e1⟩ := hF
  subst e0 e1
  refine AW.ret (hQ _ _ _ ?_ (matchO_0 ?_)).1
  ·simp [Try.f41, F1]
  ·simp [F1]
 ·replace hF := ite_f h1 hF
  have h1q : (v0.size : Int) = 32 := Classical.not_not.1 h1
  have h1_ := eqb_t h1q
  have h1__ := neb_f h1q
  have F2 := And.intro h1_ (And.intro h1__ h1q)
  refine CF (by simp [F2] <;> omega) ?_
  refine SQ [] [none, none, none, none] fun _ _ g r => ?_
  try simp [F2]
  and_intros <;> first | exact g _ (by kernel_rfl) | refine r _ _ _ ?_ | omega | (simp [maxLen, F2] <;> omega)
  refine WK [(0, AV.str v0), (1, Lz v1), (2, Iz v2), (18, AV.bool (decide (64 < (v1.length : Int))))] [] 0 (by simp [F2]) (by simp [F2]) ?_
  by_cases h2 : 64 < (v1.length : Int)
  ·replace hF := ite_t h2 hF
   have h2_ := h2
   try simp at h2_
   have F3 := And.intro F2 (And.intro h2 h2_)
   refine CT (by simp [F3] <;> omega) ?_
   refine SQ [] [none, none] fun _ _ g r => ?_
   try simp [F3]
   and_intros <;> first | exact g _ (by kernel_rfl) | refine r _ _ _ ?_ | omega | (simp [maxLen, F3] <;> omega)
   refine WK [(6, AV.lst true true (List.map (AV.int .i64) ([] : List Int))), (7, Iz 3)] [] 0 (by simp [F3]) (by simp [F3]) ?_
   refine AW.own' 6 1 true (by simp [F3]) (by decide) ?_
   simp only [Option.some.injEq, Prod.mk.injEq] at hF
   obtain ⟨e0, e1⟩ := hF
   subst e0 e1
   refine AW.ret (hQ _ _ _ ?_ (matchO_0 ?_)).1
   ·simp [Try.f41, F3]
   ·simp [F3]
  ·replace hF := ite_f h2 hF
   have h2_ := h2
   try simp at h2_
   have F4 := And.intro F2 (And.intro h2 h2_)
   refine CF (by simp [F4] <;> omega) ?_
   refine SQ [] [none, none, none, some (25, false), some (25, false), none, none] fun _ _ g r => ?_
   by_cases h3 : v2 < 0
   ·replace hF := ite_t h3 hF
    have h3_ := h3
    try simp at h3_
    have F5 := And.intro F4 (And.intro h3 h3_)
    try simp [F5]
    and_intros <;> first | exact g _ (by kernel_rfl) | refine r _ _ _ ?_ | omega | (simp [maxLen, F5] <;> omega)
    refine WK [(0, AV.str v0), (1, Lz v1), (2, Iz v2), (22, AV.bool true)] [] 0 (by simp [F5]) (by simp [F5]) ?_
    refine CT (by simp [F5]) ?_
    refine SQ [] [none, none] fun _ _ g r => ?_
    try simp [F5]
    and_intros <;> first | exact g _ (by kernel_rfl) | refine r _ _ _ ?_ | omega | (simp [maxLen, F5] <;> omega)
    refine WK [(6, AV.lst true true (List.map (AV.int .i64) ([] : List Int))), (7, Iz 2)] [] 0 (by simp [F5]) (by simp [F5]) ?_
    refine AW.own' 6 1 true (by simp [F5]) (by decide) ?_
    simp only [Option.some.injEq, Prod.mk.injEq] at hF
    obtain ⟨e0, e1⟩ := hF
    subst e0 e1
    refine AW.ret (hQ _ _ _ ?_ (matchO_0 ?_)).1
    ·simp [Try.f41, F5]
    ·simp [F5]
   ·replace hF := ite_f h3 hF
    have h3_ := h3
    try simp at h3_
    have F6 := And.intro F4 (And.intro h3 h3_)
    try simp [F6]
    and_intros <;> first | exact g _ (by kernel_rfl) | refine r _ _ _ ?_ | omega | (simp [maxLen, F6] <;> omega)
    refine WK [(0, AV.str v0), (1, Lz v1), (2, Iz v2), (22, AV.bool (decide (64 < v2)))] [] 0 (by simp [F6]) (by simp [F6]) ?_
    by_cases h4 : 64 < v2
    ·replace hF := ite_t h4 hF
     have h4_ := h4
     try simp at h4_
     have F7 := And.intro F6 (And.intro h4 h4_)
     refine CT (by simp [F7] <;> omega) ?_
     refine SQ [] [none, none] fun _ _ g r => ?_
     try simp [F7]
     and_intros <;> first | exact g _ (by kernel_rfl) | refine r _ _ _ ?_ | omega | (simp [maxLen, F7] <;> omega)
     refine WK [(6, AV.lst true true (List.map (AV.int .i64) ([] : List Int))), (7, Iz 2)] [] 0 (by simp [F7]) (by simp [F7]) ?_
     refine AW.own' 6 1 true (by simp [F7]) (by decide) ?_
     simp only [Option.some.injEq, Prod.mk.injEq] at hF
     obtain ⟨e0, e1⟩ := hF
     subst e0 e1
     refine AW.ret (hQ _ _ _ ?_ (matchO_0 ?_)).1
     ·simp [Try.f41, F7]
     ·simp [F7]
    ·replace hF := ite_f h4 hF
     have h4_ := h4
     try simp at h4_
     have F8 := And.intro F6 (And.intro h4 h4_)
     refine CF (by simp [F8] <;> omega) ?_
     refine AW.skip ?_
     refine hK1233 _ _ _ ?_
     refine SQ [] [none] fun _ _ g r => ?_
     try simp [F8]
     and_intros <;> first | exact g _ (by kernel_rfl) | refine r _ _ _ ?_ | omega | (simp [maxLen, F8] <;> omega)
     refine WK [(0, AV.str v0), (1, Lz v1), (2, Iz v2), (8, AV.lst true true (List.map (AV.int .i64) ([] : List Int)))] [] 0 (by simp [F8]) (by simp [F8]) ?_
     refine SQ [30] [none, none, none, none, none] fun _ _ g r => ?_
     try simp [F8]
     and_intros
     try any_goals first | omega | (simp [maxLen, F8] <;> omega)
     obtain ⟨v5, h5, hF⟩ := bnd1_elim hF
     refine aCall_l (w_beacon_list k _ _ _ h5) (by simp) [0] [] [0] rfl (.cons (.same (by simp [F8])) (.cons (.same (by simp [F8])) .nil)) (by simp [F8]) (by decide) (by simp) (by simp) (.inl rfl) (by simp) (by simp) ?_
     try simp [F8]
     and_intros <;> first | exact g _ (by kernel_rfl) | refine r _ _ _ ?_ | omega | (simp [maxLen, F8] <;> omega)
     refine WK [(2, Iz v2), (8, AV.lst true true (List.map (AV.int .i64) ([] : List Int))), (9, AV.slc 1 0 1 v5.length false)] [(1, .cells (List.map (AV.int .u8) v5))] 2 (by simp [F8]) (by simp [F8]) ?_
     refine AW.frz 1 (o := .cells (List.map (AV.int .u8) v5)) (by simp [F8]) rfl [(9, Lb v5)] [] ⟨(.l (by simp) (by simp) (by simp) (by simp)), trivial⟩ trivial ?_
     refine WK [(2, Iz v2), (8, AV.lst true true (List.map (AV.int .i64) ([] : List Int))), (9, Lb v5)] [] 2 (by simp [F8]) (by simp [F8]) ?_
     refine AW.seq fun K1845 hK1845 => ?_
     refine SQ [] [none, none] fun _ _ g r => ?_
     try simp [F8]
     and_intros <;> first | exact g _ (by kernel_rfl) | refine r _ _ _ ?_ | omega | (simp [maxLen, F8] <;> omega)
     refine WK [(8, AV.lst true true (List.map (AV.int .i64) ([] : List Int))), (9, Lb v5), (33, Iz v2), (34, Iz 0)] [] 2 (by simp [F8]) (by simp [F8]) ?_
     refine AW.block ?_
     refine AW.own' 8 1 true (by simp [F8]) (by decide) ?_
     refine RM h0 [(0, 2)] [(8, AV.slc 0 0 1 (([] : List Int).length) false), (9, Lb v5), (33, Iz v2), (34, Iz 0)] [(0, .grow (List.map (AV.int .i64) ([] : List Int)))] 1 (by simp [F8]) (by simp [F8]) ?_
     refine AW.loopF (α := (Int × (List Int))) (fun n (v6, v7) => beacon_Numbers.L1 k v2 v5 n v6 v7 = some (v3, v4)) (fun (v6, v7) => [(8, AV.slc 0 0 1 v7.length false), (9, Lb v5), (33, Iz v2), (34, Iz v6)]) (fun (v6, v7) => [(0, .grow (List.map (AV.int .i64) v7))]) 1 k ((0, ([] : List Int))) hF (by simp [F8]) (by simp [F8]) (by simp) ?_
     rintro (_|n1) ⟨v6, v7⟩ hF K2297 hK2297
     ·try dsimp only at hF
      rw [beacon_Numbers.L1] at hF; cases hF
     try dsimp only at hF
     rw [beacon_Numbers.L1] at hF
     refine SQ [] [none] fun _ _ g r => ?_
     try simp [F8]
     and_intros <;> first | exact g _ (by kernel_rfl) | refine r _ _ _ ?_ | omega | (simp [maxLen, F8] <;> omega)
     refine WK [(8, AV.slc 0 0 1 v7.length false), (9, Lb v5), (33, Iz v2), (34, Iz v6), (35, AV.bool (decide (v6 < v2)))] [(0, .grow (List.map (AV.int .i64) v7))] 1 (by simp [F8]) (by simp [F8]) ?_
     refine AW.seq fun K2299 hK2299 => ?_
     by_cases h6 : v6 < v2
     ·replace hF := ite_t h6 hF
      have h6_ := h6
      try simp at h6_
      have F9 := And.intro F8 (And.intro h6 h6_)
      refine CT (by simp [F9] <;> omega) ?_
      refine AW.skip ?_
      refine hK2299 _ _ _ ?_
      refine AW.seq fun K2373 hK2373 => ?_
      refine AW.block ?_
      refine SQ [] [none, none] fun _ _ g r => ?_
      try simp [F9]
      and_intros <;> first | exact g _ (by kernel_rfl) | refine r _ _ _ ?_ | omega | (simp [maxLen, F9] <;> omega)
      refine WK [(8, AV.slc 0 0 1 v7.length false), (9, Lb v5), (10, Iz v6), (33, Iz v2), (34, Iz v6)] [(0, .grow (List.map (AV.int .i64) v7))] 1 (by simp [F9]) (by simp [F9]) ?_
      refine SQ [] [none, none, none, none, none, none, none, none, none, none, none] fun _ _ g r => ?_
      obtain ⟨⟨h7, h8⟩, hF⟩ := chk_elim hF
      have h7_ := h7
      try simp at h7_
      have h8_ := h8
      try simp at h8_
      have F10 := And.intro F9 (And.intro h7 (And.intro h8 (And.intro h7_ h8_)))
      try simp [F10]
      and_intros
      try any_goals first | omega | (simp [maxLen, F10] <;> omega)
      obtain ⟨v8, h9, hF⟩ := bnd1_elim hF
      refine AC (w_beacon_bytes_v2 k _ _ _ h9) (.cons (.same (by simp [F10])) (.cons (Coe.fl (by simp [F10])) .nil)) ?_
      try simp [F10]
      and_intros
      try any_goals first | omega | (simp [maxLen, F10] <;> omega)
      obtain ⟨v9, h10, hF⟩ := bnd1_elim hF
      refine AC (w_digest_Sum k _ _ h10) (.cons (.same (by simp [F10])) .nil) ?_
      try simp [F10]
      and_intros <;> first | exact g _ (by kernel_rfl) | refine r _ _ _ ?_ | omega | (simp [maxLen, F10] <;> omega)
      refine WK [(8, AV.slc 0 0 1 v7.length false), (9, Lb v5), (11, AV.str v9), (33, Iz v2), (34, Iz v6)] [(0, .grow (List.map (AV.int .i64) v7))] 1 (by simp [F10]) (by simp [F10]) ?_
      refine SQ [] [none] fun _ _ g r => ?_
      try simp [F10]
      and_intros <;> first | exact g _ (by kernel_rfl) | refine r _ _ _ ?_ | omega | (simp [maxLen, F10] <;> omega)
      refine WK [(8, AV.slc 0 0 1 v7.length false), (9, Lb v5), (11, AV.str v9), (12, Iz 0), (33, Iz v2), (34, Iz v6)] [(0, .grow (List.map (AV.int .i64) v7))] 1 (by simp [F10]) (by simp [F10]) ?_
      refine AW.seq fun K2411 hK2411 => ?_
      refine SQ [] [none] fun _ _ g r => ?_
      try simp [F10]
      and_intros <;> first | exact g _ (by kernel_rfl) | refine r _ _ _ ?_ | omega | (simp [maxLen, F10] <;> omega)
      refine WK [(8, AV.slc 0 0 1 v7.length false), (9, Lb v5), (11, AV.str v9), (12, Iz 0), (33, Iz v2), (34, Iz v6), (47, Iz 0)] [(0, .grow (List.map (AV.int .i64) v7))] 1 (by simp [F10]) (by simp [F10]) ?_
      refine AW.block ?_
      refine AW.loopF (α := (Int × Int)) (fun n (v10, v11) => beacon_Numbers.L2 k v6 v7 v9 (fun v6_ v7_ => beacon_Numbers.L1 k v2 v5 n1 v6_ v7_) n v10 v11 = some (v3, v4)) (fun (v10, v11) => [(8, AV.slc 0 0 1 v7.length false), (9, Lb v5), (11, AV.str v9), (12, Iz v10), (33, Iz v2), (34, Iz v6), (47, Iz v11)]) (fun (v10, v11) => [(0, .grow (List.map (AV.int .i64) v7))]) 1 k ((0, 0)) hF (by simp [F10]) (by simp [F10]) (by simp) ?_
      rintro (_|n2) ⟨v10, v11⟩ hF K2437 hK2437
      ·try dsimp only at hF
       rw [beacon_Numbers.L2] at hF; cases hF
      try dsimp only at hF
      rw [beacon_Numbers.L2] at hF
      refine SQ [] [none] fun _ _ g r => ?_
      try simp [F10]
      and_intros <;> first | exact g _ (by kernel_rfl) | refine r _ _ _ ?_ | omega | (simp [maxLen, F10] <;> omega)
      refine WK [(8, AV.slc 0 0 1 v7.length false), (9, Lb v5), (11, AV.str v9), (12, Iz v10), (33, Iz v2), (34, Iz v6), (47, Iz v11), (48, AV.bool (decide (v11 < 4)))] [(0, .grow (List.map (AV.int .i64) v7))] 1 (by simp [F10]) (by simp [F10]) ?_
      refine AW.seq fun K2439 hK2439 => ?_
      by_cases h11 : v11 < 4
      ·replace hF := ite_t h11 hF
       have h11_ := h11
       try simp at h11_
       have F11 := And.intro F10 (And.intro h11 h11_)
       refine CT (by simp [F11] <;> omega) ?_
       refine AW.skip ?_
       refine hK2439 _ _ _ ?_
       refine AW.seq fun K2442 hK2442 => ?_
       refine AW.block ?_
       refine SQ [] [none, none] fun _ _ g r => ?_
       try simp [F11]
       and_intros <;> first | exact g _ (by kernel_rfl) | refine r _ _ _ ?_ | omega | (simp [maxLen, F11] <;> omega)
       refine WK [(8, AV.slc 0 0 1 v7.length false), (9, Lb v5), (11, AV.str v9), (12, Iz v10), (13, Iz v11), (33, Iz v2), (34, Iz v6), (47, Iz v11)] [(0, .grow (List.map (AV.int .i64) v7))] 1 (by simp [F11]) (by simp [F11]) ?_
       refine RG [] [none, none, none, none, none, none, none, none] fun _ _ g r => ?_
       obtain ⟨v12, h12, h13, h14, hF⟩ := idx_elim hF
       have h14_ := get_of h14
       have h13_ := h13
       simp at h13_
       have h12_ := h12
       try simp at h12_
       have h14__ := h14_
       try simp [bI] at h14__
       have h14b := bI_at h14
       try simp at h14b
       have F12 := And.intro F11 (And.intro h12 (And.intro h12_ (And.intro h13_ (And.intro h14 (And.intro h14_ (And.intro h14__ h14b))))))
       try simp [F12]
       and_intros <;> first | exact g _ (by kernel_rfl) | refine r _ _ _ ?_ | omega | (simp [maxLen, F12] <;> omega)
       refine hK2442 _ _ _ ?_
       refine WK [(8, AV.slc 0 0 1 v7.length false), (9, Lb v5), (11, AV.str v9), (12, Iz (bitsV .or .i64 (IntKind.wrap .i64 (v10 * 2 ^ (8))) (IntKind.wrap .i64 v12))), (33, Iz v2), (34, Iz v6), (47, Iz v11)] [(0, .grow (List.map (AV.int .i64) v7))] 1 (by simp [F12]) (by simp [F12]) ?_
       refine RG [] [none, none] fun _ _ g r => ?_
       try simp [F12]
       and_intros <;> first | exact g _ (by kernel_rfl) | refine r _ _ _ ?_ | omega | (simp [maxLen, F12] <;> omega)
       refine hK2437 _ _ _ ?_
       exact NX (k' := n2) ((bitsV .or .i64 (IntKind.wrap .i64 (v10 * 2 ^ (8))) (IntKind.wrap .i64 v12), IntKind.wrap .i64 (v11 + 1))) hF (by simp [F12]) (by simp [F12])
      ·replace hF := ite_f h11 hF
       have h11_ := h11
       try simp at h11_
       have F13 := And.intro F10 (And.intro h11 h11_)
       refine CF (by simp [F13] <;> omega) ?_
       refine AW.exit ?_
       try simp
       refine hK2411 _ _ _ ?_
       refine RG [] [none, none, none, none, none] fun _ _ g r => ?_
       obtain ⟨h15, hF⟩ := chk_elim hF
       have h15_ := h15
       try simp at h15_
       have F14 := And.intro F13 h15
       try simp [F14]
       and_intros <;> first | exact g _ (by kernel_rfl) | refine r _ _ _ ?_ | omega | (simp [maxLen, F14] <;> omega)
       refine hK2373 _ _ _ ?_
       refine WK [(8, AV.slc 1 0 1 ((v7 ++ ([v10] : List Int)).length) false), (9, Lb v5), (33, Iz v2), (34, Iz v6)] [(1, .grow (List.map (AV.int .i64) (v7 ++ ([v10] : List Int))))] 2 (by simp [F14] <;> omega) (by simp [F14]) ?_
       refine RG [] [none, none] fun _ _ g r => ?_
       try simp [F14]
       and_intros <;> first | exact g _ (by kernel_rfl) | refine r _ _ _ ?_ | omega | (simp [maxLen, F14] <;> omega)
       refine hK2297 _ _ _ ?_
       refine RN h0 [(0, 1)] [(8, AV.slc 0 0 1 ((v7 ++ ([v10] : List Int)).length) false), (9, Lb v5), (33, Iz v2), (34, Iz (IntKind.wrap .i64 (v6 + 1)))] [(0, .grow (List.map (AV.int .i64) (v7 ++ ([v10] : List Int))))] 1 (by simp [F14] <;> omega) (by simp [F14]) ?_
       exact NX (k' := n1) ((IntKind.wrap .i64 (v6 + 1), v7 ++ ([v10] : List Int))) hF (by simp [F14]) (by simp [F14])
     ·replace hF := ite_f h6 hF
      have h6_ := h6
      try simp at h6_
      have F15 := And.intro F8 (And.intro h6 h6_)
      refine CF (by simp [F15] <;> omega) ?_
      refine AW.exit ?_
      try simp
      refine hK1845 _ _ _ ?_
      refine SQ [] [none, none, none] fun _ _ g r => ?_
      try simp [F15]
      and_intros <;> first | exact g _ (by kernel_rfl) | refine r _ _ _ ?_ | omega | (simp [maxLen, F15] <;> omega)
      refine WK [(6, AV.slc 0 0 1 v7.length false), (7, Iz 0)] [(0, .grow (List.map (AV.int .i64) v7))] 1 (by simp [F15]) (by simp [F15]) ?_
      simp only [Option.some.injEq, Prod.mk.injEq] at hF
      obtain ⟨e0, e1⟩ := hF
      subst e0 e1
      refine AW.ret (hQ _ _ _ ?_ (matchO_0 ?_)).1
      ·simp [Try.f41, F15]
      ·simp [F15]
theorem w_committee_draw (k : Nat) (v0 : (List Int)) (v1 : (List Int)) (v2 : (List Int)) (v3 : Int) (v4 : Int) (v5 : Int) (v6 : Int) (v7 : ByteArray) (v8 : (List Int)) (v9 : Int) (v10 : Int) (v11 : Int) (v12 : Int) (v13 : Int) (v14 : (List Int)) (v15 : Int) (hF : committee_draw k v0 v1 v2 v3 v4 v5 v6 v7 v8 v9 v10 v11 v12 v13 = some (v14, v15)) :
  FCall Try.prog 87 [AV.agg [AV.lst false false (List.map (AV.int .i64) v0), AV.lst false false (List.map (AV.int .i64) v1), AV.lst false false (List.map (AV.int .i64) v2), AV.int .i64 v3, AV.int .i64 v4, AV.int .i64 v5, AV.int .i64 v6], AV.str v7, AV.lst false false (List.map (AV.int .i64) v8), AV.agg [AV.int .i64 v9, AV.int .i64 v10, AV.int .i64 v11, AV.int .i64 v12], AV.int .i64 v13] [] (AV.tup [AV.slc 0 0 1 v14.length false, AV.int .i64 v15]) [some (.grow (List.map (AV.int .i64) v14))] := by
 unfold committee_draw at hF
 refine EN Try.func87 ?_
 intro c0 w0 Q h0 hQ
 refine WK [(0, AV.agg [Lz v0, Lz v1, Lz v2, Iz v3, Iz v4, Iz v5, Iz v6]), (1, AV.str v7), (2, Lz v8), (3, AV.agg [Iz v9, Iz v10, Iz v11, Iz v12]), (4, Iz v13)] [] 0 (by simp) (by simp) ?_
 refine SQ [] [none, none, none, none] fun _ _ g r => ?_
 try simp
 and_intros <;> first | exact g _ (by kernel_rfl) | refine r _ _ _ ?_ | omega | (simp [maxLen] <;> omega)
 refine WK [(1, AV.str v7), (2, Lz v8), (4, Iz v13), (5, AV.ptr 0 0), (8, AV.ptr 1 0)] [(0, .cells [Lz v0, Lz v1, Lz v2, Iz v3, Iz v4, Iz v5, Iz v6]), (1, .cells [Iz v9, Iz v10, Iz v11, Iz v12])] 2 (by simp) (by simp) ?_
 refine SQ [] [none, none, none, none, none, none, none, none, none, none, none, none, none, none, none] fun _ _ g r => ?_
 try simp
 and_intros
 try any_goals first | omega | (simp [maxLen] <;> omega)
 obtain ⟨v16, v17, h1, hF⟩ := bnd2_elim hF
 refine AC (w_beacon_Numbers k _ _ _ _ _ h1) (.cons (.same (by simp)) (.cons (Coe.fl (by simp)) (.cons (.same (by simp)) .nil))) ?_
 try simp
 and_intros <;> first | exact g _ (by kernel_rfl) | refine r _ _ _ ?_ | omega | (simp [maxLen] <;> omega)
 refine WK [(2, Lz v8), (5, AV.ptr 0 0), (12, AV.slc 2 0 1 v16.length false), (13, Iz v17)] [(0, .cells [Lz v0, Lz v1, Lz v2, Iz v3, Iz v4, Iz v5, Iz v6]), (2, .grow (List.map (AV.int .i64) v16))] 3 (by simp) (by simp) ?_
 refine AW.frz 2 (o := .grow (List.map (AV.int .i64) v16)) (by simp) rfl [(12, Lz v16)] [] ⟨(.l (by simp) (by simp) (by simp) (by simp)), trivial⟩ trivial ?_
 refine WK [(2, Lz v8), (5, AV.ptr 0 0), (12, Lz v16), (13, Iz v17)] [(0, .cells [Lz v0, Lz v1, Lz v2, Iz v3, Iz v4, Iz v5, Iz v6])] 3 (by simp) (by simp) ?_
 refine AW.seq fun K13 hK13 => ?_
 refine SQ [] [none, none] fun _ _ g r => ?_
 try simp
 and_intros <;> first | exact g _ (by kernel_rfl) | refine r _ _ _ ?_ | omega | (simp [maxLen] <;> omega)
 refine WK [(2, Lz v8), (5, AV.ptr 0 0), (12, Lz v16), (13, Iz v17), (28, AV.bool (v17 != 0))] [(0, .cells [Lz v0, Lz v1, Lz v2, Iz v3, Iz v4, Iz v5, Iz v6])] 3 (by simp) (by simp) ?_
 by_cases h2 : v17 ≠ 0
 ·replace hF := ite_t h2 hF
  have h2_ := eqb_f h2
  have h2__ := neb_t h2
  have F1 := And.intro h2 (And.intro h2_ h2__)
  refine CT (by simp [F1] <;> omega) ?_
  refine SQ [] [none, none, none] fun _ _ g r => ?_
  try simp [F1]
  and_intros <;> first | exact g _ (by kernel_rfl) | refine r _ _ _ ?_ | omega | (simp [maxLen, F1] <;> omega)
  refine WK [(10, AV.lst true true (List.map (AV.int .i64) ([] : List Int))), (11, Iz v17)] [] 3 (by simp [F1]) (by simp [F1]) ?_
  refine AW.own' 10 1 true (by simp [F1]) (by decide) ?_
  refine RM h0 [(0, 3)] [(10, AV.slc 0 0 1 (([] : List Int).length) false), (11, Iz v17)] [(0, .grow (List.map (AV.int .i64) ([] : List Int)))] 1 (by simp [F1]) (by simp [F1]) ?_
  simp only [Option.some.injEq, Prod.mk.injEq] at hF
  obtain ⟨e0, e1⟩ := hF
  subst e0 e1
  refine AW.ret (hQ _ _ _ ?_ (matchO_0 ?_)).1
  ·simp [Try.f87, F1]
  ·simp [F1]
 ·replace hF := ite_f h2 hF
  have h2q : v17 = 0 := Classical.not_not.1 h2
  have h2_ := eqb_t h2q
  have h2__ := neb_f h2q
  have F2 := And.intro h2_ (And.intro h2__ h2q)
  refine CF (by simp [F2] <;> omega) ?_
  refine AW.skip ?_
  refine hK13 _ _ _ ?_
  refine SQ [] [none, none, none, none, none, none, none, none, none] fun _ _ g r => ?_
  try simp [F2]
  and_intros
  try any_goals first | omega | (simp [maxLen, F2] <;> omega)
  obtain ⟨v18, v19, h3, hF⟩ := bnd2_elim hF
  refine AC (w_committee_Draw k _ _ _ _ _ h3) (.cons (.same (by simp [F2])) (.cons (.same (by simp [F2])) (.cons (.same (by simp [F2])) .nil))) ?_
  try simp [F2]
  and_intros <;> first | exact g _ (by kernel_rfl) | refine r _ _ _ ?_ | omega | (simp [maxLen, F2] <;> omega)
  refine RM h0 [(0, 3)] [(10, AV.slc 0 0 1 v18.length false), (11, Iz v19)] [(0, .grow (List.map (AV.int .i64) v18))] 1 (by simp [F2]) (by simp [F2]) ?_
  simp only [Option.some.injEq, Prod.mk.injEq] at hF
  obtain ⟨e0, e1⟩ := hF
  subst e0 e1
  refine AW.ret (hQ _ _ _ ?_ (matchO_0 ?_)).1
  ·simp [Try.f87, F2]
  ·simp [F2]
theorem w_roster_Minus_1 (k : Nat) (v0 : Int) (v1 : (List Bool)) (v2 : (List Bool)) (v3 : Bool) (hF : roster_Minus_1 k v0 v1 v2 = some v3) :
  FCall Try.prog 115 [AV.int .i64 v0, AV.ptr 0 0, AV.ptr 1 0] [.cells (List.map AV.bool v1), .cells (List.map AV.bool v2)] (AV.bool v3) [some (.cells (List.map AV.bool v1)), some (.cells (List.map AV.bool v2))] := by
 unfold roster_Minus_1 at hF
 refine EN Try.func115 ?_
 intro c0 w0 Q h0 hQ
 refine WK [(0, Iz v0), (1, AV.ptr 0 0), (2, AV.ptr 1 0)] [(0, .cells (List.map AV.bool v1)), (1, .cells (List.map AV.bool v2))] 2 (by simp) (by simp) ?_
 refine SQ [] [none] fun _ _ g r => ?_
 try simp
 and_intros <;> first | exact g _ (by kernel_rfl) | refine r _ _ _ ?_ | omega | (simp [maxLen] <;> omega)
 refine WK [(0, Iz v0), (1, AV.ptr 0 0), (2, AV.ptr 1 0)] [(0, .cells (List.map AV.bool v1)), (1, .cells (List.map AV.bool v2))] 2 (by simp) (by simp) ?_
 refine SQ [] [none, none, none, none, some (8, true), some (8, true), some (8, true), some (8, true), none, none] fun _ _ g r => ?_
 obtain ⟨⟨h1, h3, h2⟩, hF⟩ := chk_elim hF
 have h2_ := ne_of_lt h2
 obtain ⟨v4, h4, h5, h6, hF⟩ := idx_elim hF
 have h6_ := get_of h6
 try simp at h6_
 have h5_ := h5
 try simp at h5_
 by_cases h7 : v4 = true
 ·replace hF := ite_t h7 hF
  have h7_ := h7
  try simp at h7_
  obtain ⟨⟨h8, h10, h9⟩, hF⟩ := chk_elim hF
  have h9_ := ne_of_lt h9
  obtain ⟨v5, h11, h12, h13, hF⟩ := idx_elim hF
  have h13_ := get_of h13
  try simp at h13_
  have h12_ := h12
  try simp at h12_
  have F1 := And.intro h1 (And.intro h2 (And.intro h3 (And.intro h2_ (And.intro h4 (And.intro h5 (And.intro h6 (And.intro h6_ (And.intro h5_ (And.intro h7 (And.intro h7_ (And.intro h8 (And.intro h9 (And.intro h10 (And.intro h9_ (And.intro h11 (And.intro h12 (And.intro h13 (And.intro h13_ h12_))))))))))))))))))
  try simp [F1]
  and_intros <;> first | exact g _ (by kernel_rfl) | refine r _ _ _ ?_ | omega | (simp [maxLen, F1] <;> omega)
  refine WK [(4, AV.bool (!v5))] [(0, .cells (List.map AV.bool v1)), (1, .cells (List.map AV.bool v2))] 2 (by simp [F1]) (by simp [F1]) ?_
  simp only [Option.some.injEq] at hF
  subst hF
  refine AW.ret (hQ _ _ _ ?_ (matchO_0 ?_)).1
  ·simp [Try.f115, F1]
  ·simp [F1]
 ·replace hF := ite_f h7 hF
  have h7_ := h7
  try simp at h7_
  have F2 := And.intro h1 (And.intro h2 (And.intro h3 (And.intro h2_ (And.intro h4 (And.intro h5 (And.intro h6 (And.intro h6_ (And.intro h5_ (And.intro h7 h7_)))))))))
  try simp [F2]
  and_intros <;> first | exact g _ (by kernel_rfl) | refine r _ _ _ ?_ | omega | (simp [maxLen, F2] <;> omega)
  refine WK [(4, AV.bool false)] [(0, .cells (List.map AV.bool v1)), (1, .cells (List.map AV.bool v2))] 2 (by simp [F2]) (by simp [F2]) ?_
  simp only [Option.some.injEq] at hF
  subst hF
  refine AW.ret (hQ _ _ _ ?_ (matchO_0 ?_)).1
  ·simp [Try.f115, F2]
  ·simp [F2]
theorem w_roster_keys_Minus_1 (k : Nat) (v0 : (List Bool)) (v1 : (List Bool)) (v2 : (List Int)) (hF : roster_keys_Minus_1 k v0 v1 = some v2) :
  FCall Try.prog 114 [AV.fn 115 [AV.ptr 0 0, AV.ptr 1 0]] [.cells (List.map AV.bool v0), .cells (List.map AV.bool v1)] (AV.slc 2 0 1 v2.length false) [some (.cells (List.map AV.bool v0)), some (.cells (List.map AV.bool v1)), some (.grow (List.map (AV.int .i64) v2))] := by
 unfold roster_keys_Minus_1 at hF
 refine EN Try.func114 ?_
 intro c0 w0 Q h0 hQ
 refine WK [(0, AV.fn 115 [AV.ptr 0 0, AV.ptr 1 0])] [(0, .cells (List.map AV.bool v0)), (1, .cells (List.map AV.bool v1))] 2 (by simp) (by simp) ?_
 refine SQ [] [none] fun _ _ g r => ?_
 try simp
 and_intros <;> first | exact g _ (by kernel_rfl) | refine r _ _ _ ?_ | omega | (simp [maxLen] <;> omega)
 refine WK [(0, AV.fn 115 [AV.ptr 0 0, AV.ptr 1 0])] [(0, .cells (List.map AV.bool v0)), (1, .cells (List.map AV.bool v1))] 2 (by simp) (by simp) ?_
 refine SQ [] [none] fun _ _ g r => ?_
 try simp
 and_intros <;> first | exact g _ (by kernel_rfl) | refine r _ _ _ ?_ | omega | (simp [maxLen] <;> omega)
 refine WK [(0, AV.fn 115 [AV.ptr 0 0, AV.ptr 1 0]), (3, AV.lst true true (List.map (AV.int .i64) ([] : List Int)))] [(0, .cells (List.map AV.bool v0)), (1, .cells (List.map AV.bool v1))] 2 (by simp) (by simp) ?_
 refine AW.seq fun K133 hK133 => ?_
 refine SQ [] [none] fun _ _ g r => ?_
 try simp
 and_intros <;> first | exact g _ (by kernel_rfl) | refine r _ _ _ ?_ | omega | (simp [maxLen] <;> omega)
 refine WK [(0, AV.fn 115 [AV.ptr 0 0, AV.ptr 1 0]), (3, AV.lst true true (List.map (AV.int .i64) ([] : List Int))), (5, Iz 0)] [(0, .cells (List.map AV.bool v0)), (1, .cells (List.map AV.bool v1))] 2 (by simp) (by simp) ?_
 refine AW.block ?_
 refine AW.own' 3 1 true (by simp) (by decide) ?_
 refine AW.loopF (α := (Int × (List Int))) (fun n (v3, v4) => roster_keys_Minus_1.L1 k v0 v1 n v3 v4 = some v2) (fun (v3, v4) => [(0, AV.fn 115 [AV.ptr 0 0, AV.ptr 1 0]), (3, AV.slc 2 0 1 v4.length false), (5, Iz v3)]) (fun (v3, v4) => [(0, .cells (List.map AV.bool v0)), (1, .cells (List.map AV.bool v1)), (2, .grow (List.map (AV.int .i64) v4))]) 3 k ((0, ([] : List Int))) hF (by simp) (by simp) (by simp) ?_
 rintro (_|n1) ⟨v3, v4⟩ hF K165 hK165
 ·try dsimp only at hF
  rw [roster_keys_Minus_1.L1] at hF; cases hF
 try dsimp only at hF
 rw [roster_keys_Minus_1.L1] at hF
 refine SQ [] [none] fun _ _ g r => ?_
 try simp
 and_intros <;> first | exact g _ (by kernel_rfl) | refine r _ _ _ ?_ | omega | (simp [maxLen] <;> omega)
 refine WK [(0, AV.fn 115 [AV.ptr 0 0, AV.ptr 1 0]), (3, AV.slc 2 0 1 v4.length false), (5, Iz v3), (6, AV.bool (decide (v3 < 64)))] [(0, .cells (List.map AV.bool v0)), (1, .cells (List.map AV.bool v1)), (2, .grow (List.map (AV.int .i64) v4))] 3 (by simp) (by simp) ?_
 refine AW.seq fun K167 hK167 => ?_
 by_cases h1 : v3 < 64
 ·replace hF := ite_t h1 hF
  have h1_ := h1
  try simp at h1_
  refine CT (by simp [h1, h1_] <;> omega) ?_
  refine AW.skip ?_
  refine hK167 _ _ _ ?_
  refine AW.midF (α := (List Int)) (fun v5 => roster_keys_Minus_1.J2 k v3 (fun v3_ v4_ => roster_keys_Minus_1.L1 k v0 v1 n1 v3_ v4_) v5 = some v2) (fun v5 => [(0, AV.fn 115 [AV.ptr 0 0, AV.ptr 1 0]), (3, AV.slc 2 0 1 v5.length false), (5, Iz v3)]) (fun v5 => [(0, .cells (List.map AV.bool v0)), (1, .cells (List.map AV.bool v1)), (2, .grow (List.map (AV.int .i64) v5))]) 3 (fun K172 hK172 => ?_) ?_
  ·refine AW.block ?_
   refine SQ [] [none, none] fun _ _ g r => ?_
   try simp [h1, h1_]
   and_intros <;> first | exact g _ (by kernel_rfl) | refine r _ _ _ ?_ | omega | (simp [h1, h1_, maxLen] <;> omega)
   refine WK [(0, AV.fn 115 [AV.ptr 0 0, AV.ptr 1 0]), (3, AV.slc 2 0 1 v4.length false), (4, Iz v3), (5, Iz v3)] [(0, .cells (List.map AV.bool v0)), (1, .cells (List.map AV.bool v1)), (2, .grow (List.map (AV.int .i64) v4))] 3 (by simp [h1, h1_]) (by simp [h1, h1_]) ?_
   refine SQ [] [none, none, none] fun _ _ g r => ?_
   try simp [h1, h1_]
   and_intros
   try any_goals first | omega | (simp [h1, h1_, maxLen] <;> omega)
   obtain ⟨v6, h2, hF⟩ := bnd1_elim hF
   refine aCall_l (w_roster_Minus_1 k _ _ _ _ h2) (by simp) [0, 1] [] [] rfl (.cons (.same (by simp [h1, h1_])) (.cons (.same (by simp [h1, h1_])) (.cons (.same (by simp [h1, h1_])) .nil))) (by simp [h1, h1_]) (by decide) (by simp) (by simp) (.inl rfl) (by simp) (by simp) ?_
   try simp [h1, h1_]
   and_intros <;> first | exact g _ (by kernel_rfl) | refine r _ _ _ ?_ | omega | (simp [h1, h1_, maxLen] <;> omega)
   refine WK [(0, AV.fn 115 [AV.ptr 0 0, AV.ptr 1 0]), (3, AV.slc 2 0 1 v4.length false), (4, Iz v3), (5, Iz v3), (10, AV.bool v6)] [(0, .cells (List.map AV.bool v0)), (1, .cells (List.map AV.bool v1)), (2, .grow (List.map (AV.int .i64) v4))] 3 (by simp [h1, h1_]) (by simp [h1, h1_]) ?_
   by_cases h3 : v6 = true
   ·replace hF := ite_t h3 hF
    have h3_ := h3
    try simp at h3_
    have F1 := And.intro h1 (And.intro h1_ (And.intro h3 h3_))
    refine CT (by simp [F1] <;> omega) ?_
    refine RG [] [none, none, none, none, none] fun _ _ g r => ?_
    obtain ⟨h4, hF⟩ := chk_elim hF
    have h4_ := h4
    try simp at h4_
    have F2 := And.intro F1 h4
    try simp [F2]
    and_intros <;> first | exact g _ (by kernel_rfl) | refine r _ _ _ ?_ | omega | (simp [maxLen, F2] <;> omega)
    refine hK172 _ _ _ ?_
    refine Can.weak [(0, AV.fn 115 [AV.ptr 0 0, AV.ptr 1 0]), (3, AV.slc 3 0 1 ((v4 ++ ([v3] : List Int)).length) false), (5, Iz v3)] [(0, .cells (List.map AV.bool v0)), (1, .cells (List.map AV.bool v1)), (3, .grow (List.map (AV.int .i64) (v4 ++ ([v3] : List Int))))] 4 (by simp [F2] <;> omega) (by simp [F2]) (by simp) ?_
    refine Can.ren (m := 2) h0 [(0, 0), (1, 1), (2, 3)] [(0, AV.fn 115 [AV.ptr 0 0, AV.ptr 1 0]), (3, AV.slc 2 0 1 ((v4 ++ ([v3] : List Int)).length) false), (5, Iz v3)] [(0, .cells (List.map AV.bool v0)), (1, .cells (List.map AV.bool v1)), (2, .grow (List.map (AV.int .i64) (v4 ++ ([v3] : List Int))))] 3 (by decide) (by decide) (by decide) rfl (by simp [F2]) (by simp [F2]) ?_
    exact JN (v4 ++ ([v3] : List Int)) hF (by simp [F2]) (by simp [F2])
   ·replace hF := ite_f h3 hF
    have h3_ := h3
    try simp at h3_
    have F3 := And.intro h1 (And.intro h1_ (And.intro h3 h3_))
    refine CF (by simp [F3] <;> omega) ?_
    refine AW.skip ?_
    refine hK172 _ _ _ ?_
    exact JN (v4) hF (by simp [F3]) (by simp [F3])
  ·rintro v5 hF
   try dsimp only at hF
   unfold roster_keys_Minus_1.J2 at hF
   refine RG [] [none, none] fun _ _ g r => ?_
   try simp [h1, h1_]
   and_intros <;> first | exact g _ (by kernel_rfl) | refine r _ _ _ ?_ | omega | (simp [h1, h1_, maxLen] <;> omega)
   refine hK165 _ _ _ ?_
   exact NX (k' := n1) ((IntKind.wrap .i64 (v3 + 1), v5)) hF (by simp [h1, h1_]) (by simp [h1, h1_])
 ·replace hF := ite_f h1 hF
  have h1_ := h1
  try simp at h1_
  refine CF (by simp [h1, h1_] <;> omega) ?_
  refine AW.exit ?_
  try simp
  refine hK133 _ _ _ ?_
  refine SQ [] [none, none] fun _ _ g r => ?_
  try simp [h1, h1_]
  and_intros <;> first | exact g _ (by kernel_rfl) | refine r _ _ _ ?_ | omega | (simp [h1, h1_, maxLen] <;> omega)
  refine WK [(2, AV.slc 2 0 1 v4.length false)] [(0, .cells (List.map AV.bool v0)), (1, .cells (List.map AV.bool v1)), (2, .grow (List.map (AV.int .i64) v4))] 3 (by simp [h1, h1_]) (by simp [h1, h1_]) ?_
  simp only [Option.some.injEq] at hF
  subst hF
  refine AW.ret (hQ _ _ _ ?_ (matchO_0 ?_)).1
  ·simp [Try.f114, h1, h1_]
  ·simp [h1, h1_]
end Go.TF
