/- Walks: the Go text computes the Lean functions (printed by a program of our own). -/
import Derived.Test.YteclncnknklkfaaGaPu
import Derived.Test.YteclncnknklkfaaGaAbsT
import Derived.Test.YteclncnknklkfaaGaWa0
import Derived.Test.YteclncnknklkfaaGaWa1
import Derived.Test.YteclncnknklkfaaGaWa2
set_option linter.unusedVariables false
set_option linter.unusedSimpArgs false
set_option maxRecDepth 100000
set_option maxHeartbeats 4000000
namespace Go.TF
open Go Go.Abs Go.Proofs Go.Proofs.YteclncnknklkfaaGaT
theorem w_ref01_Sum (k : Nat) (v0 : (List Int)) (v1 : ByteArray) (hF : ref01_Sum k v0 = some v1) :
  FCall Try.prog 64 [AV.lst false false (List.map (AV.int .u8) v0)] [] (AV.str v1) [] := by
 unfold ref01_Sum at hF
 refine EN Try.func64 ?_
 intro c0 w0 Q h0 hQ
 refine WK [(0, Lb v0)] [] 0 (by simp) (by simp) ?_
 refine SQ [] [none] fun _ _ g r => ?_
 try simp
 and_intros <;> first | exact g _ (by kernel_rfl) | refine r _ _ _ ?_ | omega | (simp [maxLen] <;> omega)
 refine WK [(0, Lb v0)] [] 0 (by simp) (by simp) ?_
 refine SQ [] [none, none] fun _ _ g r => ?_
 try simp
 and_intros <;> first | exact g _ (by kernel_rfl) | refine r _ _ _ ?_ | omega | (simp [maxLen] <;> omega)
 refine WK [(0, Lb v0), (3, AV.lst false true (List.map (AV.int .u32) ([1779033703, 3144134277, 1013904242, 2773480762, 1359893119, 2600822924, 528734635, 1541459225] : List Int)))] [] 0 (by simp) (by simp) ?_
 refine SQ [13] [none, none, none, none, none] fun _ _ g r => ?_
 obtain ⟨h1, hF⟩ := chk_elim hF
 have h1_ := h1
 try simp at h1_
 obtain ⟨h2, hF⟩ := chk_elim hF
 have h2_ := h2
 try simp at h2_
 try simp [h1, h2]
 and_intros <;> first | exact g _ (by kernel_rfl) | refine r _ _ _ ?_ | omega | (simp [h1, h2, maxLen] <;> omega)
 refine WK [(0, Lb v0), (3, AV.lst false true (List.map (AV.int .u32) ([1779033703, 3144134277, 1013904242, 2773480762, 1359893119, 2600822924, 528734635, 1541459225] : List Int))), (4, AV.slc 1 0 1 ((v0 ++ ([128] : List Int)).length) false)] [(1, .grow (List.map (AV.int .u8) (v0 ++ ([128] : List Int))))] 2 (by simp [h1, h2] <;> omega) (by simp [h1, h2]) ?_
 refine AW.seq fun K246 hK246 => ?_
 refine AW.block ?_
 refine RM h0 [(0, 1)] [(0, Lb v0), (3, AV.lst false true (List.map (AV.int .u32) ([1779033703, 3144134277, 1013904242, 2773480762, 1359893119, 2600822924, 528734635, 1541459225] : List Int))), (4, AV.slc 0 0 1 ((v0 ++ ([128] : List Int)).length) false)] [(0, .grow (List.map (AV.int .u8) (v0 ++ ([128] : List Int))))] 1 (by simp [h1, h2]) (by simp [h1, h2]) ?_
 refine AW.loopF (α := (List Int)) (fun n v2 => ref01_Sum.L1 k v0 n v2 = some v1) (fun v2 => [(0, Lb v0), (3, AV.lst false true (List.map (AV.int .u32) ([1779033703, 3144134277, 1013904242, 2773480762, 1359893119, 2600822924, 528734635, 1541459225] : List Int))), (4, AV.slc 0 0 1 v2.length false)]) (fun v2 => [(0, .grow (List.map (AV.int .u8) v2))]) 1 k (v0 ++ ([128] : List Int)) hF (by simp [h1, h2]) (by simp [h1, h2]) (by simp) ?_
 rintro (_|n1) v2 hF K259 hK259
 ·try dsimp only at hF
  rw [ref01_Sum.L1] at hF; cases hF
 try dsimp only at hF
 rw [ref01_Sum.L1] at hF
 refine AW.seq fun K261 hK261 => ?_
 refine SQ [] [none, none, none, none] fun _ _ g r => ?_
 try simp [h1, h2]
 and_intros <;> first | exact g _ (by kernel_rfl) | refine r _ _ _ ?_ | omega | (simp [h1, h2, maxLen] <;> omega)
 refine WK [(0, Lb v0), (3, AV.lst false true (List.map (AV.int .u32) ([1779033703, 3144134277, 1013904242, 2773480762, 1359893119, 2600822924, 528734635, 1541459225] : List Int))), (4, AV.slc 0 0 1 v2.length false), (19, AV.bool ((Int.tmod (v2.length : Int) 64) != 56))] [(0, .grow (List.map (AV.int .u8) v2))] 1 (by simp [h1, h2]) (by simp [h1, h2]) ?_
 by_cases h3 : (Int.tmod (v2.length : Int) 64) ≠ 56
 ·replace hF := ite_t h3 hF
  have h3_ := eqb_f h3
  have h3__ := neb_t h3
  refine CT (by simp [h1, h2, h3, h3_, h3__] <;> omega) ?_
  refine AW.skip ?_
  refine hK261 _ _ _ ?_
  refine AW.block ?_
  refine RG [] [none, none, none, none] fun _ _ g r => ?_
  obtain ⟨h4, hF⟩ := chk_elim hF
  have h4_ := h4
  try simp at h4_
  have F1 := And.intro h1 (And.intro h2 (And.intro h3 (And.intro h3_ (And.intro h3__ h4))))
  try simp [F1]
  and_intros <;> first | exact g _ (by kernel_rfl) | refine r _ _ _ ?_ | omega | (simp [maxLen, F1] <;> omega)
  refine hK259 _ _ _ ?_
  refine RN h0 [(0, 1)] [(0, Lb v0), (3, AV.lst false true (List.map (AV.int .u32) ([1779033703, 3144134277, 1013904242, 2773480762, 1359893119, 2600822924, 528734635, 1541459225] : List Int))), (4, AV.slc 0 0 1 ((v2 ++ ([0] : List Int)).length) false)] [(0, .grow (List.map (AV.int .u8) (v2 ++ ([0] : List Int))))] 1 (by simp [F1] <;> omega) (by simp [F1]) ?_
  exact NX (k' := n1) (v2 ++ ([0] : List Int)) hF (by simp [F1]) (by simp [F1])
 ·replace hF := ite_f h3 hF
  have h3q : (Int.tmod (v2.length : Int) 64) = 56 := Classical.not_not.1 h3
  have h3_ := eqb_t h3q
  have h3__ := neb_f h3q
  have F2 := And.intro h1 (And.intro h2 (And.intro h3_ (And.intro h3__ h3q)))
  refine CF (by simp [F2] <;> omega) ?_
  refine AW.exit ?_
  try simp
  refine hK246 _ _ _ ?_
  refine SQ [] [none, none, none, none, none] fun _ _ g r => ?_
  try simp [F2]
  and_intros <;> first | exact g _ (by kernel_rfl) | refine r _ _ _ ?_ | omega | (simp [maxLen, F2] <;> omega)
  refine WK [(3, AV.lst false true (List.map (AV.int .u32) ([1779033703, 3144134277, 1013904242, 2773480762, 1359893119, 2600822924, 528734635, 1541459225] : List Int))), (4, AV.slc 0 0 1 v2.length false), (5, AV.int .u64 (IntKind.wrap .u64 (IntKind.wrap .u64 (v0.length : Int) * 8)))] [(0, .grow (List.map (AV.int .u8) v2))] 1 (by simp [F2]) (by simp [F2]) ?_
  refine AW.seq fun K295 hK295 => ?_
  refine SQ [] [none] fun _ _ g r => ?_
  try simp [F2]
  and_intros <;> first | exact g _ (by kernel_rfl) | refine r _ _ _ ?_ | omega | (simp [maxLen, F2] <;> omega)
  refine WK [(3, AV.lst false true (List.map (AV.int .u32) ([1779033703, 3144134277, 1013904242, 2773480762, 1359893119, 2600822924, 528734635, 1541459225] : List Int))), (4, AV.slc 0 0 1 v2.length false), (5, AV.int .u64 (IntKind.wrap .u64 (IntKind.wrap .u64 (v0.length : Int) * 8))), (6, Iz 7)] [(0, .grow (List.map (AV.int .u8) v2))] 1 (by simp [F2]) (by simp [F2]) ?_
  refine AW.block ?_
  refine AW.loopF (α := (Int × (List Int))) (fun n (v3, v4) => ref01_Sum.L2 k v0 n v3 v4 = some v1) (fun (v3, v4) => [(3, AV.lst false true (List.map (AV.int .u32) ([1779033703, 3144134277, 1013904242, 2773480762, 1359893119, 2600822924, 528734635, 1541459225] : List Int))), (4, AV.slc 0 0 1 v4.length false), (5, AV.int .u64 (IntKind.wrap .u64 (IntKind.wrap .u64 (v0.length : Int) * 8))), (6, Iz v3)]) (fun (v3, v4) => [(0, .grow (List.map (AV.int .u8) v4))]) 1 k ((7, v2)) hF (by simp [F2]) (by simp [F2]) (by simp) ?_
  rintro (_|n2) ⟨v3, v4⟩ hF K318 hK318
  ·try dsimp only at hF
   rw [ref01_Sum.L2] at hF; cases hF
  try dsimp only at hF
  rw [ref01_Sum.L2] at hF
  refine AW.seq fun K320 hK320 => ?_
  refine SQ [] [none, none] fun _ _ g r => ?_
  try simp [F2]
  and_intros <;> first | exact g _ (by kernel_rfl) | refine r _ _ _ ?_ | omega | (simp [maxLen, F2] <;> omega)
  refine WK [(3, AV.lst false true (List.map (AV.int .u32) ([1779033703, 3144134277, 1013904242, 2773480762, 1359893119, 2600822924, 528734635, 1541459225] : List Int))), (4, AV.slc 0 0 1 v4.length false), (5, AV.int .u64 (IntKind.wrap .u64 (IntKind.wrap .u64 (v0.length : Int) * 8))), (6, Iz v3), (28, AV.bool (decide (0 ≤ v3)))] [(0, .grow (List.map (AV.int .u8) v4))] 1 (by simp [F2]) (by simp [F2]) ?_
  by_cases h5 : 0 ≤ v3
  ·replace hF := ite_t h5 hF
   have h5_ := h5
   try simp at h5_
   have F3 := And.intro F2 (And.intro h5 h5_)
   refine CT (by simp [F3] <;> omega) ?_
   refine AW.skip ?_
   refine hK320 _ _ _ ?_
   refine AW.seq fun K323 hK323 => ?_
   refine AW.block ?_
   refine RG [] [none, none, none, none, none, none, none, none, none, none] fun _ _ g r => ?_
   obtain ⟨h6, hF⟩ := chk_elim hF
   obtain ⟨h7, hF⟩ := chk_elim hF
   have h7_ := h7
   try simp at h7_
   have F4 := And.intro F3 (And.intro h6 h7)
   try simp [F4]
   and_intros <;> first | exact g _ (by kernel_rfl) | refine r _ _ _ ?_ | omega | (simp [maxLen, F4] <;> omega)
   refine hK323 _ _ _ ?_
   refine WK [(3, AV.lst false true (List.map (AV.int .u32) ([1779033703, 3144134277, 1013904242, 2773480762, 1359893119, 2600822924, 528734635, 1541459225] : List Int))), (4, AV.slc 1 0 1 ((v4 ++ ([IntKind.wrap .u8 (Int.fdiv (IntKind.wrap .u64 (IntKind.wrap .u64 (v0.length : Int) * 8)) (2 ^ (min ((IntKind.wrap .u64 (IntKind.wrap .i64 (8 * v3))).toNat) 64)))] : List Int)).length) false), (5, AV.int .u64 (IntKind.wrap .u64 (IntKind.wrap .u64 (v0.length : Int) * 8))), (6, Iz v3)] [(1, .grow (List.map (AV.int .u8) (v4 ++ ([IntKind.wrap .u8 (Int.fdiv (IntKind.wrap .u64 (IntKind.wrap .u64 (v0.length : Int) * 8)) (2 ^ (min ((IntKind.wrap .u64 (IntKind.wrap .i64 (8 * v3))).toNat) 64)))] : List Int))))] 2 (by simp [F4] <;> omega) (by simp [F4]) ?_
   refine RG [] [none, none, none] fun _ _ g r => ?_
   try simp [F4]
   and_intros <;> first | exact g _ (by kernel_rfl) | refine r _ _ _ ?_ | omega | (simp [maxLen, F4] <;> omega)
   refine hK318 _ _ _ ?_
   refine RN h0 [(0, 1)] [(3, AV.lst false true (List.map (AV.int .u32) ([1779033703, 3144134277, 1013904242, 2773480762, 1359893119, 2600822924, 528734635, 1541459225] : List Int))), (4, AV.slc 0 0 1 ((v4 ++ ([IntKind.wrap .u8 (Int.fdiv (IntKind.wrap .u64 (IntKind.wrap .u64 (v0.length : Int) * 8)) (2 ^ (min ((IntKind.wrap .u64 (IntKind.wrap .i64 (8 * v3))).toNat) 64)))] : List Int)).length) false), (5, AV.int .u64 (IntKind.wrap .u64 (IntKind.wrap .u64 (v0.length : Int) * 8))), (6, Iz (IntKind.wrap .i64 (v3 - 1)))] [(0, .grow (List.map (AV.int .u8) (v4 ++ ([IntKind.wrap .u8 (Int.fdiv (IntKind.wrap .u64 (IntKind.wrap .u64 (v0.length : Int) * 8)) (2 ^ (min ((IntKind.wrap .u64 (IntKind.wrap .i64 (8 * v3))).toNat) 64)))] : List Int))))] 1 (by simp [F4] <;> omega) (by simp [F4]) ?_
   exact NX (k' := n2) ((IntKind.wrap .i64 (v3 - 1), v4 ++ ([IntKind.wrap .u8 (Int.fdiv (IntKind.wrap .u64 (IntKind.wrap .u64 (v0.length : Int) * 8)) (2 ^ (min ((IntKind.wrap .u64 (IntKind.wrap .i64 (8 * v3))).toNat) 64)))] : List Int))) hF (by simp [F4]) (by simp [F4])
  ·replace hF := ite_f h5 hF
   have h5_ := h5
   try simp at h5_
   have F5 := And.intro F2 (And.intro h5 h5_)
   refine CF (by simp [F5] <;> omega) ?_
   refine AW.exit ?_
   try simp
   refine hK295 _ _ _ ?_
   refine WK [(3, AV.lst false true (List.map (AV.int .u32) ([1779033703, 3144134277, 1013904242, 2773480762, 1359893119, 2600822924, 528734635, 1541459225] : List Int))), (4, AV.slc 0 0 1 v4.length false)] [(0, .grow (List.map (AV.int .u8) v4))] 1 (by simp [F5]) (by simp [F5]) ?_
   refine AW.frz 0 (o := .grow (List.map (AV.int .u8) v4)) (by simp [F5]) rfl [(4, Lb v4)] [] ⟨(.l (by simp) (by simp) (by simp) (by simp)), trivial⟩ trivial ?_
   refine WK [(3, AV.lst false true (List.map (AV.int .u32) ([1779033703, 3144134277, 1013904242, 2773480762, 1359893119, 2600822924, 528734635, 1541459225] : List Int))), (4, Lb v4)] [] 1 (by simp [F5]) (by simp [F5]) ?_
   refine SQ [] [none, none] fun _ _ g r => ?_
   try simp [F5]
   and_intros
   try any_goals first | omega | (simp [maxLen, F5] <;> omega)
   obtain ⟨v5, h8, hF⟩ := bnd1_elim hF
   refine AC (w_ref01_constants k _ h8) .nil ?_
   try simp [F5]
   and_intros <;> first | exact g _ (by kernel_rfl) | refine r _ _ _ ?_ | omega | (simp [maxLen, F5] <;> omega)
   refine WK [(3, AV.lst false true (List.map (AV.int .u32) ([1779033703, 3144134277, 1013904242, 2773480762, 1359893119, 2600822924, 528734635, 1541459225] : List Int))), (4, Lb v4), (7, Lw v5)] [] 1 (by simp [F5]) (by simp [F5]) ?_
   refine AW.seq fun K357 hK357 => ?_
   refine SQ [] [none] fun _ _ g r => ?_
   try simp [F5]
   and_intros <;> first | exact g _ (by kernel_rfl) | refine r _ _ _ ?_ | omega | (simp [maxLen, F5] <;> omega)
   refine WK [(3, AV.lst false true (List.map (AV.int .u32) ([1779033703, 3144134277, 1013904242, 2773480762, 1359893119, 2600822924, 528734635, 1541459225] : List Int))), (4, Lb v4), (7, Lw v5), (8, Iz 0)] [] 1 (by simp [F5]) (by simp [F5]) ?_
   refine AW.block ?_
   refine RM h0 [] [(3, AV.lst false true (List.map (AV.int .u32) ([1779033703, 3144134277, 1013904242, 2773480762, 1359893119, 2600822924, 528734635, 1541459225] : List Int))), (4, Lb v4), (7, Lw v5), (8, Iz 0)] [] 0 (by simp [F5]) (by simp [F5]) ?_
   refine AW.flg [(3, Lw ([1779033703, 3144134277, 1013904242, 2773480762, 1359893119, 2600822924, 528734635, 1541459225] : List Int))] [] ⟨(.lst (by simp)), trivial⟩ trivial (by simp) ?_
   refine AW.loopF (α := ((List Int) × Int)) (fun n (v6, v7) => ref01_Sum.L3 k v4 v5 n v6 v7 = some v1) (fun (v6, v7) => [(3, Lw v6), (4, Lb v4), (7, Lw v5), (8, Iz v7)]) (fun (v6, v7) => []) 0 k ((([1779033703, 3144134277, 1013904242, 2773480762, 1359893119, 2600822924, 528734635, 1541459225] : List Int), 0)) hF (by simp [F5]) (by simp [F5]) (by simp) ?_
   rintro (_|n3) ⟨v6, v7⟩ hF K380 hK380
   ·try dsimp only at hF
    rw [ref01_Sum.L3] at hF; cases hF
   try dsimp only at hF
   rw [ref01_Sum.L3] at hF
   refine AW.seq fun K382 hK382 => ?_
   refine SQ [] [none, none, none, none] fun _ _ g r => ?_
   try simp [F5]
   and_intros <;> first | exact g _ (by kernel_rfl) | refine r _ _ _ ?_ | omega | (simp [maxLen, F5] <;> omega)
   refine WK [(3, Lw v6), (4, Lb v4), (7, Lw v5), (8, Iz v7), (44, AV.bool (decide (v7 < (v4.length : Int))))] [] 0 (by simp [F5]) (by simp [F5]) ?_
   by_cases h9 : v7 < (v4.length : Int)
   ·replace hF := ite_t h9 hF
    have h9_ := h9
    try simp at h9_
    have F6 := And.intro F5 (And.intro h9 h9_)
    refine CT (by simp [F6] <;> omega) ?_
    refine AW.skip ?_
    refine hK382 _ _ _ ?_
    refine AW.seq fun K385 hK385 => ?_
    refine AW.block ?_
    refine RG [] [none, none, none, none, none, none, none, none, none] fun _ _ g r => ?_
    obtain ⟨⟨h10, h11, h12⟩, hF⟩ := chk_elim hF
    have h10_ := h10
    try simp at h10_
    have h11_ := h11
    try simp at h11_
    have h12_ := h12
    try simp at h12_
    have F7 := And.intro F6 (And.intro h10 (And.intro h11 (And.intro h12 (And.intro h10_ (And.intro h11_ h12_)))))
    try simp [F7]
    and_intros
    try any_goals first | omega | (simp [maxLen, F7] <;> omega)
    obtain ⟨v8, h13, hF⟩ := bnd1_elim hF
    refine AC (w_ref01_block k _ _ _ _ h13) (.cons (.same (by simp [F7])) (.cons (.same (by simp [F7])) (.cons (.same (by simp [F7])) .nil))) ?_
    try simp [F7]
    and_intros <;> first | exact g _ (by kernel_rfl) | refine r _ _ _ ?_ | omega | (simp [maxLen, F7] <;> omega)
    refine hK385 _ _ _ ?_
    refine WK [(3, AV.slc 0 0 1 v8.length false), (4, Lb v4), (7, Lw v5), (8, Iz v7)] [(0, .grow (List.map (AV.int .u32) v8))] 1 (by simp [F7]) (by simp [F7]) ?_
    refine AW.frz 0 (o := .grow (List.map (AV.int .u32) v8)) (by simp [F7]) rfl [(3, Lw v8)] [] ⟨(.l (by simp) (by simp) (by simp) (by simp)), trivial⟩ trivial ?_
    refine WK [(3, Lw v8), (4, Lb v4), (7, Lw v5), (8, Iz v7)] [] 1 (by simp [F7]) (by simp [F7]) ?_
    refine RG [] [none, none, none] fun _ _ g r => ?_
    try simp [F7]
    and_intros <;> first | exact g _ (by kernel_rfl) | refine r _ _ _ ?_ | omega | (simp [maxLen, F7] <;> omega)
    refine hK380 _ _ _ ?_
    refine RN h0 [] [(3, Lw v8), (4, Lb v4), (7, Lw v5), (8, Iz (IntKind.wrap .i64 (v7 + 64)))] [] 0 (by simp [F7]) (by simp [F7]) ?_
    exact NX (k' := n3) ((v8, IntKind.wrap .i64 (v7 + 64))) hF (by simp [F7]) (by simp [F7])
   ·replace hF := ite_f h9 hF
    have h9_ := h9
    try simp at h9_
    have F8 := And.intro F5 (And.intro h9 h9_)
    refine CF (by simp [F8] <;> omega) ?_
    refine AW.exit ?_
    try simp
    refine hK357 _ _ _ ?_
    refine SQ [] [none] fun _ _ g r => ?_
    try simp [F8]
    and_intros <;> first | exact g _ (by kernel_rfl) | refine r _ _ _ ?_ | omega | (simp [maxLen, F8] <;> omega)
    refine WK [(3, Lw v6), (9, AV.lst true true (List.map (AV.int .u8) ([] : List Int)))] [] 0 (by simp [F8]) (by simp [F8]) ?_
    refine AW.seq fun K419 hK419 => ?_
    refine SQ [] [none] fun _ _ g r => ?_
    try simp [F8]
    and_intros <;> first | exact g _ (by kernel_rfl) | refine r _ _ _ ?_ | omega | (simp [maxLen, F8] <;> omega)
    refine WK [(3, Lw v6), (9, AV.lst true true (List.map (AV.int .u8) ([] : List Int))), (10, Iz 0)] [] 0 (by simp [F8]) (by simp [F8]) ?_
    refine AW.block ?_
    refine AW.own' 9 1 true (by simp [F8]) (by decide) ?_
    refine AW.loopF (α := (Int × (List Int))) (fun n (v9, v10) => ref01_Sum.L4 k v6 n v9 v10 = some v1) (fun (v9, v10) => [(3, Lw v6), (9, AV.slc 0 0 1 v10.length false), (10, Iz v9)]) (fun (v9, v10) => [(0, .grow (List.map (AV.int .u8) v10))]) 1 k ((0, ([] : List Int))) hF (by simp [F8]) (by simp [F8]) (by simp) ?_
    rintro (_|n4) ⟨v9, v10⟩ hF K442 hK442
    ·try dsimp only at hF
     rw [ref01_Sum.L4] at hF; cases hF
    try dsimp only at hF
    rw [ref01_Sum.L4] at hF
    refine AW.seq fun K444 hK444 => ?_
    refine SQ [] [none, none] fun _ _ g r => ?_
    try simp [F8]
    and_intros <;> first | exact g _ (by kernel_rfl) | refine r _ _ _ ?_ | omega | (simp [maxLen, F8] <;> omega)
    refine WK [(3, Lw v6), (9, AV.slc 0 0 1 v10.length false), (10, Iz v9), (56, AV.bool (decide (v9 < 8)))] [(0, .grow (List.map (AV.int .u8) v10))] 1 (by simp [F8]) (by simp [F8]) ?_
    by_cases h14 : v9 < 8
    ·replace hF := ite_t h14 hF
     have h14_ := h14
     try simp at h14_
     have F9 := And.intro F8 (And.intro h14 h14_)
     refine CT (by simp [F9] <;> omega) ?_
     refine AW.skip ?_
     refine hK444 _ _ _ ?_
     refine AW.seq fun K447 hK447 => ?_
     refine AW.block ?_
     refine RG [] [none, none, none, none, none, none, none, none, none, none, none, none, none, none, none, none, none, none, none, none, none, none, none, none, none, none, none] fun _ _ g r => ?_
     obtain ⟨v11, h15, h16, h17, hF⟩ := idx_elim hF
     have h17_ := get_of h17
     try simp at h17_
     have h16_ := h16
     try simp at h16_
     obtain ⟨h18, hF⟩ := chk_elim hF
     have h18_ := h18
     try simp at h18_
     have F10 := And.intro F9 (And.intro h15 (And.intro h16 (And.intro h17 (And.intro h17_ (And.intro h16_ h18)))))
     try simp [F10]
     and_intros <;> first | exact g _ (by kernel_rfl) | refine r _ _ _ ?_ | omega | (simp [maxLen, F10] <;> omega)
     refine hK447 _ _ _ ?_
     refine WK [(3, Lw v6), (9, AV.slc 1 0 1 ((v10 ++ ([IntKind.wrap .u8 (Int.fdiv v11 (2 ^ (24))), IntKind.wrap .u8 (Int.fdiv v11 (2 ^ (16))), IntKind.wrap .u8 (Int.fdiv v11 (2 ^ (8))), IntKind.wrap .u8 v11] : List Int)).length) false), (10, Iz v9)] [(1, .grow (List.map (AV.int .u8) (v10 ++ ([IntKind.wrap .u8 (Int.fdiv v11 (2 ^ (24))), IntKind.wrap .u8 (Int.fdiv v11 (2 ^ (16))), IntKind.wrap .u8 (Int.fdiv v11 (2 ^ (8))), IntKind.wrap .u8 v11] : List Int))))] 2 (by simp [F10] <;> omega) (by simp [F10]) ?_
     refine RG [] [none, none, none] fun _ _ g r => ?_
     try simp [F10]
     and_intros <;> first | exact g _ (by kernel_rfl) | refine r _ _ _ ?_ | omega | (simp [maxLen, F10] <;> omega)
     refine hK442 _ _ _ ?_
     refine RN h0 [(0, 1)] [(3, Lw v6), (9, AV.slc 0 0 1 ((v10 ++ ([IntKind.wrap .u8 (Int.fdiv v11 (2 ^ (24))), IntKind.wrap .u8 (Int.fdiv v11 (2 ^ (16))), IntKind.wrap .u8 (Int.fdiv v11 (2 ^ (8))), IntKind.wrap .u8 v11] : List Int)).length) false), (10, Iz (IntKind.wrap .i64 (v9 + 1)))] [(0, .grow (List.map (AV.int .u8) (v10 ++ ([IntKind.wrap .u8 (Int.fdiv v11 (2 ^ (24))), IntKind.wrap .u8 (Int.fdiv v11 (2 ^ (16))), IntKind.wrap .u8 (Int.fdiv v11 (2 ^ (8))), IntKind.wrap .u8 v11] : List Int))))] 1 (by simp [F10] <;> omega) (by simp [F10]) ?_
     exact NX (k' := n4) ((IntKind.wrap .i64 (v9 + 1), v10 ++ ([IntKind.wrap .u8 (Int.fdiv v11 (2 ^ (24))), IntKind.wrap .u8 (Int.fdiv v11 (2 ^ (16))), IntKind.wrap .u8 (Int.fdiv v11 (2 ^ (8))), IntKind.wrap .u8 v11] : List Int))) hF (by simp [F10]) (by simp [F10])
    ·replace hF := ite_f h14 hF
     have h14_ := h14
     try simp at h14_
     have F11 := And.intro F8 (And.intro h14 h14_)
     refine CF (by simp [F11] <;> omega) ?_
     refine AW.exit ?_
     try simp
     refine hK419 _ _ _ ?_
     refine WK [(9, AV.slc 0 0 1 v10.length false)] [(0, .grow (List.map (AV.int .u8) v10))] 1 (by simp [F11]) (by simp [F11]) ?_
     refine AW.frz 0 (o := .grow (List.map (AV.int .u8) v10)) (by simp [F11]) rfl [(9, Lb v10)] [] ⟨(.l (by simp) (by simp) (by simp) (by simp)), trivial⟩ trivial ?_
     refine WK [(9, Lb v10)] [] 1 (by simp [F11]) (by simp [F11]) ?_
     refine SQ [] [none, none, none] fun _ _ g r => ?_
     try simp [F11]
     and_intros <;> first | exact g _ (by kernel_rfl) | refine r _ _ _ ?_ | omega | (simp [maxLen, F11] <;> omega)
     refine WK [(2, AV.str (ofI v10))] [] 1 (by simp [F11]) (by simp [F11]) ?_
     simp only [Option.some.injEq] at hF
     subst hF
     refine AW.ret (hQ _ _ _ ?_ (matchO_0 ?_)).1
     ·simp [Try.f64, F11]
     ·simp [F11]
theorem w_ref03_Digest (k : Nat) (v0 : Int) (v1 : Int) (v2 : ByteArray) (v3 : Int) (v4 : Int) (v5 : Int) (v6 : Int) (v7 : Int) (v8 : (List Int)) (v9 : (List api_Pin)) (v10 : ByteArray) (v11 : Int) (v12 : ByteArray) (v13 : ByteArray) (hF : ref03_Digest k v0 v1 v2 v3 v4 v5 v6 v7 v8 v9 v10 v11 v12 = some v13) :
  FCall Try.prog 50 [AV.agg [AV.int .i64 v0, AV.int .i64 v1, AV.str v2, AV.int .i64 v3, AV.int .i64 v4, AV.int .i64 v5, AV.int .i64 v6, AV.int .i64 v7, AV.lst false false (List.map (AV.int .i64) v8), AV.lst false false (List.map api_Pin.av v9), AV.str v10, AV.int .i64 v11, AV.str v12]] [] (AV.str v13) [] := by
 unfold ref03_Digest at hF
 refine EN Try.func50 ?_
 intro c0 w0 Q h0 hQ
 refine WK [(0, AV.agg [Iz v0, Iz v1, AV.str v2, Iz v3, Iz v4, Iz v5, Iz v6, Iz v7, Lz v8, AV.lst false false (List.map api_Pin.av v9), AV.str v10, Iz v11, AV.str v12])] [] 0 (by simp) (by simp) ?_
 refine SQ [] [none, none] fun _ _ g r => ?_
 try simp
 and_intros <;> first | exact g _ (by kernel_rfl) | refine r _ _ _ ?_ | omega | (simp [maxLen] <;> omega)
 refine WK [(1, AV.ptr 0 0)] [(0, .cells [Iz v0, Iz v1, AV.str v2, Iz v3, Iz v4, Iz v5, Iz v6, Iz v7, Lz v8, AV.lst false false (List.map api_Pin.av v9), AV.str v10, Iz v11, AV.str v12])] 1 (by simp) (by simp) ?_
 refine SQ [] [none, none, none, none] fun _ _ g r => ?_
 try simp
 and_intros
 try any_goals first | omega | (simp [maxLen] <;> omega)
 obtain ⟨v14, h1, hF⟩ := bnd1_elim hF
 refine AC (w_ref03_Bytes k _ _ _ _ _ _ _ _ _ _ _ _ _ _ h1) (.cons (.same (by simp)) .nil) ?_
 try simp
 and_intros
 try any_goals first | omega | (simp [maxLen] <;> omega)
 obtain ⟨v15, h2, hF⟩ := bnd1_elim hF
 refine aCall_l (w_ref01_Sum k _ _ h2) (by simp) [] [1] [] rfl (.cons (Coe.l (o := .grow (List.map (AV.int .u8) v14)) (by simp) rfl (by simp) (by simp [noIdsL]) (by simp) (by simp)) .nil) (by simp) (by decide) (by simp) (by simp) (.inr ⟨by simp, by simp⟩) (by simp) (by simp) ?_
 try simp
 and_intros <;> first | exact g _ (by kernel_rfl) | refine r _ _ _ ?_ | omega | (simp [maxLen] <;> omega)
 refine WK [(2, AV.str v15)] [] 2 (by simp) (by simp) ?_
 simp only [Option.some.injEq] at hF
 subst hF
 refine AW.ret (hQ _ _ _ ?_ (matchO_0 ?_)).1
 ·simp [Try.f50]
 ·simp
abbrev c_ref03_Seal  : AObj := .cells [Iz 0, Iz 0, AV.str (ByteArray.mk #[]), Iz 0, Iz 0, Iz 0, Iz 0, Iz 0, AV.lst true true (List.map (AV.int .i64) ([] : List Int)), AV.lst true true (List.map api_Pin.av ([] : List api_Pin)), AV.str (ByteArray.mk #[]), Iz 0, AV.str (ByteArray.mk #[])]
theorem w_ref03_Seal (k : Nat) (v0 : Int) (v1 : Int) (v2 : ByteArray) (v3 : Int) (v4 : Int) (v5 : Int) (v6 : Int) (v7 : Int) (v8 : (List Int)) (v9 : (List api_Pin)) (v10 : ByteArray) (v11 : Int) (v12 : ByteArray) (v13 : api_Statement) (hF : ref03_Seal k v0 v1 v2 v3 v4 v5 v6 v7 v8 v9 v10 v11 v12 = some v13) :
  FCall Try.prog 49 [AV.agg [AV.int .i64 v0, AV.int .i64 v1, AV.str v2, AV.int .i64 v3, AV.int .i64 v4, AV.int .i64 v5, AV.int .i64 v6, AV.int .i64 v7, AV.lst false false (List.map (AV.int .i64) v8), AV.lst false false (List.map api_Pin.av v9), AV.str v10, AV.int .i64 v11, AV.str v12]] [] (AV.agg [AV.int .i64 v13.Author, AV.int .i64 v13.Number, AV.str v13.Prev, AV.int .i64 v13.Time, AV.int .i64 v13.Kind, AV.int .i64 v13.A, AV.int .i64 v13.B, AV.int .i64 v13.C, AV.lst false false (List.map (AV.int .i64) v13.Lst), AV.lst false false (List.map api_Pin.av v13.Pins), AV.str v13.Body, AV.int .i64 v13.Seal_Key, AV.str v13.Seal_Digest]) [] := by
 unfold ref03_Seal at hF
 refine EN Try.func49 ?_
 intro c0 w0 Q h0 hQ
 refine WK [(0, AV.agg [Iz v0, Iz v1, AV.str v2, Iz v3, Iz v4, Iz v5, Iz v6, Iz v7, Lz v8, AV.lst false false (List.map api_Pin.av v9), AV.str v10, Iz v11, AV.str v12])] [] 0 (by simp) (by simp) ?_
 refine SQ [] [none, none] fun _ _ g r => ?_
 try simp
 and_intros <;> first | exact g _ (by kernel_rfl) | refine r _ _ _ ?_ | omega | (simp [maxLen] <;> omega)
 refine WK [(1, AV.ptr 0 0), (2, AV.ptr 1 0)] [(0, .cells [Iz v0, Iz v1, AV.str v2, Iz v3, Iz v4, Iz v5, Iz v6, Iz v7, Lz v8, AV.lst false false (List.map api_Pin.av v9), AV.str v10, Iz v11, AV.str v12]), (1, c_ref03_Seal )] 2 (by simp) (by simp) ?_
 refine SQ [] [none, none, none] fun _ _ g r => ?_
 try simp
 and_intros
 try any_goals first | omega | (simp [maxLen] <;> omega)
 obtain ⟨v14, h1, hF⟩ := bnd1_elim hF
 refine AC (w_ref03_Copy k _ _ _ _ _ _ _ _ _ _ _ _ _ _ h1) (.cons (.same (by simp)) .nil) ?_
 try simp
 and_intros <;> first | exact g _ (by kernel_rfl) | refine r _ _ _ ?_ | omega | (simp [maxLen] <;> omega)
 refine WK [(1, AV.ptr 0 0), (2, AV.ptr 1 0)] [(0, .cells [Iz v14.Author, Iz v14.Number, AV.str v14.Prev, Iz v14.Time, Iz v14.Kind, Iz v14.A, Iz v14.B, Iz v14.C, AV.lst false false (List.map (AV.int .i64) v14.Lst), AV.lst false false (List.map api_Pin.av v14.Pins), AV.str v14.Body, Iz v14.Seal_Key, AV.str v14.Seal_Digest]), (1, c_ref03_Seal )] 2 (by simp) (by simp) ?_
 refine SQ [] [none, none, none, none, none, none, none] fun _ _ g r => ?_
 try simp
 and_intros
 try any_goals first | omega | (simp [maxLen] <;> omega)
 obtain ⟨v15, h2, hF⟩ := bnd1_elim hF
 refine AC (w_ref03_Digest k _ _ _ _ _ _ _ _ _ _ _ _ _ _ h2) (.cons (.same (by simp)) .nil) ?_
 try simp
 and_intros <;> first | exact g _ (by kernel_rfl) | refine r _ _ _ ?_ | omega | (simp [maxLen] <;> omega)
 refine WK [(1, AV.ptr 0 0), (2, AV.ptr 1 0)] [(0, .cells [Iz v14.Author, Iz v14.Number, AV.str v14.Prev, Iz v14.Time, Iz v14.Kind, Iz v14.A, Iz v14.B, Iz v14.C, AV.lst false false (List.map (AV.int .i64) v14.Lst), AV.lst false false (List.map api_Pin.av v14.Pins), AV.str v14.Body, Iz v14.Author, AV.str v15]), (1, c_ref03_Seal )] 2 (by simp) (by simp) ?_
 refine SQ [] [none, none] fun _ _ g r => ?_
 try simp
 and_intros <;> first | exact g _ (by kernel_rfl) | refine r _ _ _ ?_ | omega | (simp [maxLen] <;> omega)
 refine RM h0 [(0, 1)] [(2, AV.ptr 0 0)] [(0, .cells [Iz v14.Author, Iz v14.Number, AV.str v14.Prev, Iz v14.Time, Iz v14.Kind, Iz v14.A, Iz v14.B, Iz v14.C, AV.lst false false (List.map (AV.int .i64) v14.Lst), AV.lst false false (List.map api_Pin.av v14.Pins), AV.str v14.Body, Iz v14.Author, AV.str v15])] 1 (by simp) (by simp) ?_
 simp only [Option.some.injEq] at hF
 subst hF
 refine AW.ret (hQ _ _ _ ?_ (matchO_0 ?_)).1
 ·simp [Try.f49]
 ·simp
abbrev c_mill_Statement  : AObj := .cells [Iz 0, Iz 0, AV.str (ByteArray.mk #[]), Iz 0, Iz 0, Iz 0, Iz 0, Iz 0, AV.lst true true (List.map (AV.int .i64) ([] : List Int)), AV.lst true true (List.map api_Pin.av ([] : List api_Pin)), AV.str (ByteArray.mk #[]), Iz 0, AV.str (ByteArray.mk #[])]
abbrev c_mill_Statement1 (v0 : Int) (v1 : Int) (v2 : Int) (v3 : Int) (v4 : Int) (v5 : Int) (v6 : Int) (v7 : (List Int)) (v8 : (List api_Pin)) : AObj := .cells [Iz v0, Iz v1, AV.str (ByteArray.mk #[]), Iz v2, Iz v3, Iz v4, Iz v5, Iz v6, Lz v7, AV.lst false false (List.map api_Pin.av v8), AV.str (ByteArray.mk #[]), Iz 0, AV.str (ByteArray.mk #[])]
theorem w_mill_Statement (k : Nat) (v0 : Int) (v1 : Int) (v2 : Int) (v3 : Int) (v4 : Int) (v5 : Int) (v6 : Int) (v7 : (List Int)) (v8 : (List api_Pin)) (v9 : api_Statement) (hF : mill_Statement k v0 v1 v2 v3 v4 v5 v6 v7 v8 = some v9) :
  FCall Try.prog 31 [AV.int .i64 v0, AV.int .i64 v1, AV.int .i64 v2, AV.agg [AV.int .i64 v3, AV.int .i64 v4, AV.int .i64 v5, AV.int .i64 v6, AV.lst false false (List.map (AV.int .i64) v7), AV.lst false false (List.map api_Pin.av v8)]] [] (AV.agg [AV.int .i64 v9.Author, AV.int .i64 v9.Number, AV.str v9.Prev, AV.int .i64 v9.Time, AV.int .i64 v9.Kind, AV.int .i64 v9.A, AV.int .i64 v9.B, AV.int .i64 v9.C, AV.lst false false (List.map (AV.int .i64) v9.Lst), AV.lst false false (List.map api_Pin.av v9.Pins), AV.str v9.Body, AV.int .i64 v9.Seal_Key, AV.str v9.Seal_Digest]) [] := by
 unfold mill_Statement at hF
 refine EN Try.func31 ?_
 intro c0 w0 Q h0 hQ
 refine WK [(0, Iz v0), (1, Iz v1), (2, Iz v2), (3, AV.agg [Iz v3, Iz v4, Iz v5, Iz v6, Lz v7, AV.lst false false (List.map api_Pin.av v8)])] [] 0 (by simp [-List.reduceReplicate, sOf_set, ofI_set, allU8_set]) (by simp [-List.reduceReplicate, sOf_set, ofI_set, allU8_set]) ?_
 refine SQ [] [none, none] fun _ _ g r => ?_
 try simp [-List.reduceReplicate, sOf_set, ofI_set, allU8_set]
 and_intros <;> first | exact g _ (by kernel_rfl) | refine r _ _ _ ?_ | omega | (simp [-List.reduceReplicate, sOf_set, ofI_set, allU8_set, maxLen] <;> omega)
 refine WK [(0, Iz v0), (1, Iz v1), (2, Iz v2), (7, AV.ptr 0 0), (8, AV.ptr 1 0)] [(0, .cells [Iz v3, Iz v4, Iz v5, Iz v6, Lz v7, AV.lst false false (List.map api_Pin.av v8)]), (1, c_mill_Statement )] 2 (by simp [-List.reduceReplicate, sOf_set, ofI_set, allU8_set]) (by simp [-List.reduceReplicate, sOf_set, ofI_set, allU8_set]) ?_
 refine SQ [24, 28] [none, none, none, none, none, none, none, none, none, none, none, none, none, none, none, none, none, none, none, none, none, none] fun _ _ g r => ?_
 obtain ⟨h1, hF⟩ := chk_elim hF
 have h1_ := h1
 try simp [-List.reduceReplicate] at h1_
 obtain ⟨h2, hF⟩ := chk_elim hF
 have h2_ := h2
 try simp [-List.reduceReplicate] at h2_
 try simp [-List.reduceReplicate, sOf_set, ofI_set, allU8_set, h1, h2]
 and_intros <;> first | exact g _ (by kernel_rfl) | refine r _ _ _ ?_ | omega | (simp [-List.reduceReplicate, sOf_set, ofI_set, allU8_set, h1, h2, maxLen] <;> omega)
 refine WK [(1, Iz v1), (8, AV.ptr 1 0), (9, AV.ptr 4 0)] [(1, c_mill_Statement ), (2, .grow (List.map (AV.int .i64) v7)), (3, .grow (flatA (List.map api_Pin.av v8))), (4, .cells [Iz v0, Iz v1, AV.str (ByteArray.mk #[]), Iz v2, Iz v3, Iz v4, Iz v5, Iz v6, AV.slc 2 0 1 v7.length false, AV.slc 3 0 3 v8.length false, AV.str (ByteArray.mk #[]), Iz 0, AV.str (ByteArray.mk #[])])] 5 (by simp [-List.reduceReplicate, sOf_set, ofI_set, allU8_set, h1, h2]) (by simp [-List.reduceReplicate, sOf_set, ofI_set, allU8_set, h1, h2]) ?_
 refine AW.frz 2 (o := .grow (List.map (AV.int .i64) v7)) (by simp [-List.reduceReplicate, sOf_set, ofI_set, allU8_set, h1, h2]) rfl [] [(4, .cells [Iz v0, Iz v1, AV.str (ByteArray.mk #[]), Iz v2, Iz v3, Iz v4, Iz v5, Iz v6, Lz v7, AV.slc 3 0 3 v8.length false, AV.str (ByteArray.mk #[]), Iz 0, AV.str (ByteArray.mk #[])])] trivial ⟨⟨by simp, AObj.cells [Iz v0, Iz v1, AV.str (ByteArray.mk #[]), Iz v2, Iz v3, Iz v4, Iz v5, Iz v6, AV.slc 2 0 1 v7.length false, AV.slc 3 0 3 v8.length false, AV.str (ByteArray.mk #[]), Iz 0, AV.str (ByteArray.mk #[])], by simp [-List.reduceReplicate, sOf_set, ofI_set, allU8_set, h1, h2], (.mk (.cons (.same _) (.cons (.same _) (.cons (.same _) (.cons (.same _) (.cons (.same _) (.cons (.same _) (.cons (.same _) (.cons (.same _) (.cons (.l (by simp) (by simp) (by simp) (by simp)) (.cons (.same _) (.cons (.same _) (.cons (.same _) (.cons (.same _) .nil))))))))))))))⟩, trivial⟩ ?_
 refine AW.frz 3 (o := .grow (flatA (List.map api_Pin.av v8))) (by simp [-List.reduceReplicate, sOf_set, ofI_set, allU8_set, h1, h2]) rfl [] [(4, c_mill_Statement1 v0 v1 v2 v3 v4 v5 v6 v7 v8)] trivial ⟨⟨by simp, AObj.cells [Iz v0, Iz v1, AV.str (ByteArray.mk #[]), Iz v2, Iz v3, Iz v4, Iz v5, Iz v6, Lz v7, AV.slc 3 0 3 v8.length false, AV.str (ByteArray.mk #[]), Iz 0, AV.str (ByteArray.mk #[])], by simp [-List.reduceReplicate, sOf_set, ofI_set, allU8_set, h1, h2], (.mk (.cons (.same _) (.cons (.same _) (.cons (.same _) (.cons (.same _) (.cons (.same _) (.cons (.same _) (.cons (.same _) (.cons (.same _) (.cons (.same _) (.cons (.l (by simp) (by simp) (by simp) (by simp)) (.cons (.same _) (.cons (.same _) (.cons (.same _) .nil))))))))))))))⟩, trivial⟩ ?_
 refine WK [(1, Iz v1), (8, AV.ptr 1 0), (9, AV.ptr 4 0)] [(1, c_mill_Statement ), (4, c_mill_Statement1 v0 v1 v2 v3 v4 v5 v6 v7 v8)] 5 (by simp [-List.reduceReplicate, sOf_set, ofI_set, allU8_set, h1, h2]) (by simp [-List.reduceReplicate, sOf_set, ofI_set, allU8_set, h1, h2]) ?_
 refine AW.midF (α := ByteArray) (fun v10 => mill_Statement.J1 k v0 v1 v2 v3 v4 v5 v6 v7 v8 v10 = some v9) (fun v10 => [(8, AV.ptr 0 0), (9, AV.ptr 1 0)]) (fun v10 => [(0, c_mill_Statement ), (1, .cells [Iz v0, Iz v1, AV.str v10, Iz v2, Iz v3, Iz v4, Iz v5, Iz v6, Lz v7, AV.lst false false (List.map api_Pin.av v8), AV.str (ByteArray.mk #[]), Iz 0, AV.str (ByteArray.mk #[])])]) 2 (fun K14 hK14 => ?_) ?_
 ·refine SQ [] [none, none] fun _ _ g r => ?_
  try simp [-List.reduceReplicate, sOf_set, ofI_set, allU8_set, h1, h2]
  and_intros <;> first | exact g _ (by kernel_rfl) | refine r _ _ _ ?_ | omega | (simp [-List.reduceReplicate, sOf_set, ofI_set, allU8_set, h1, h2, maxLen] <;> omega)
  refine WK [(8, AV.ptr 1 0), (9, AV.ptr 4 0), (31, AV.bool (decide (0 < v1)))] [(1, c_mill_Statement ), (4, c_mill_Statement1 v0 v1 v2 v3 v4 v5 v6 v7 v8)] 5 (by simp [-List.reduceReplicate, sOf_set, ofI_set, allU8_set, h1, h2]) (by simp [-List.reduceReplicate, sOf_set, ofI_set, allU8_set, h1, h2]) ?_
  by_cases h4 : 0 < v1
  ·replace hF := ite_t h4 hF
   have h4_ := h4
   try simp [-List.reduceReplicate] at h4_
   have F1 := And.intro h1 (And.intro h2 (And.intro h4 h4_))
   refine CT (by simp [-List.reduceReplicate, sOf_set, ofI_set, allU8_set, F1] <;> omega) ?_
   refine RG [] [none, none, none, none] fun _ _ g r => ?_
   obtain ⟨h5, hF⟩ := chk_elim hF
   have F2 := And.intro F1 h5
   try simp [-List.reduceReplicate, sOf_set, ofI_set, allU8_set, F2]
   and_intros <;> first | exact g _ (by kernel_rfl) | refine r _ _ _ ?_ | omega | (simp [-List.reduceReplicate, sOf_set, ofI_set, allU8_set, maxLen, F2] <;> omega)
   refine hK14 _ _ _ ?_
   refine RN h0 [(0, 1), (1, 4)] [(8, AV.ptr 0 0), (9, AV.ptr 1 0)] [(0, c_mill_Statement ), (1, .cells [Iz v0, Iz v1, AV.str (ofI (List.replicate (32 : Int).toNat 0)), Iz v2, Iz v3, Iz v4, Iz v5, Iz v6, Lz v7, AV.lst false false (List.map api_Pin.av v8), AV.str (ByteArray.mk #[]), Iz 0, AV.str (ByteArray.mk #[])])] 2 (by simp [-List.reduceReplicate, sOf_set, ofI_set, allU8_set, F2]) (by simp [-List.reduceReplicate, sOf_set, ofI_set, allU8_set, F2]) ?_
   exact JN (ofI (List.replicate (32 : Int).toNat 0)) hF (by simp [-List.reduceReplicate, sOf_set, ofI_set, allU8_set, F2]) (by simp [-List.reduceReplicate, sOf_set, ofI_set, allU8_set, F2])
  ·replace hF := ite_f h4 hF
   have h4_ := h4
   try simp [-List.reduceReplicate] at h4_
   have F3 := And.intro h1 (And.intro h2 (And.intro h4 h4_))
   refine CF (by simp [-List.reduceReplicate, sOf_set, ofI_set, allU8_set, F3] <;> omega) ?_
   refine AW.skip ?_
   refine hK14 _ _ _ ?_
   refine RN h0 [(0, 1), (1, 4)] [(8, AV.ptr 0 0), (9, AV.ptr 1 0)] [(0, c_mill_Statement ), (1, c_mill_Statement1 v0 v1 v2 v3 v4 v5 v6 v7 v8)] 2 (by simp [-List.reduceReplicate, sOf_set, ofI_set, allU8_set, F3]) (by simp [-List.reduceReplicate, sOf_set, ofI_set, allU8_set, F3]) ?_
   exact JN ((ByteArray.mk #[])) hF (by simp [-List.reduceReplicate, sOf_set, ofI_set, allU8_set, F3]) (by simp [-List.reduceReplicate, sOf_set, ofI_set, allU8_set, F3])
 ·rintro v10 hF
  try dsimp only at hF
  unfold mill_Statement.J1 at hF
  refine SQ [] [none, none, none] fun _ _ g r => ?_
  try simp [-List.reduceReplicate, sOf_set, ofI_set, allU8_set, h1, h2]
  and_intros
  try any_goals first | omega | (simp [-List.reduceReplicate, sOf_set, ofI_set, allU8_set, h1, h2, maxLen] <;> omega)
  obtain ⟨v11, h3, hF⟩ := bnd1_elim hF
  refine AC (w_ref03_Seal k _ _ _ _ _ _ _ _ _ _ _ _ _ _ h3) (.cons (.same (by simp [-List.reduceReplicate, sOf_set, ofI_set, allU8_set, h1, h2])) .nil) ?_
  try simp [-List.reduceReplicate, sOf_set, ofI_set, allU8_set, h1, h2]
  and_intros <;> first | exact g _ (by kernel_rfl) | refine r _ _ _ ?_ | omega | (simp [-List.reduceReplicate, sOf_set, ofI_set, allU8_set, h1, h2, maxLen] <;> omega)
  refine WK [(8, AV.ptr 0 0)] [(0, .cells [Iz v11.Author, Iz v11.Number, AV.str v11.Prev, Iz v11.Time, Iz v11.Kind, Iz v11.A, Iz v11.B, Iz v11.C, AV.lst false false (List.map (AV.int .i64) v11.Lst), AV.lst false false (List.map api_Pin.av v11.Pins), AV.str v11.Body, Iz v11.Seal_Key, AV.str v11.Seal_Digest])] 2 (by simp [-List.reduceReplicate, sOf_set, ofI_set, allU8_set, h1, h2]) (by simp [-List.reduceReplicate, sOf_set, ofI_set, allU8_set, h1, h2]) ?_
  simp only [Option.some.injEq] at hF
  subst hF
  refine AW.ret (hQ _ _ _ ?_ (matchO_0 ?_)).1
  ·simp [Try.f31, h1, h2]
  ·simp [h1, h2]
abbrev c_cases_Of  : AObj := .cells [Iz 0, Iz 0, Iz 0, Iz 0, Iz 0, AV.lst true true (List.map (AV.int .i64) ([] : List Int)), AV.lst true true (List.map api_Pin.av ([] : List api_Pin))]
abbrev c_cases_Of1  : AObj := .cells [Iz 0, Iz 0, Iz 0, Iz 0, Iz 0, Lz ([] : List Int), AV.lst false false (List.map api_Pin.av ([] : List api_Pin))]
theorem w_cases_Of (k : Nat) (v0 : Int) (v1 : Int) (v2 : ByteArray) (v3 : Int) (v4 : Int) (v5 : Int) (v6 : Int) (v7 : Int) (v8 : (List Int)) (v9 : (List api_Pin)) (v10 : ByteArray) (v11 : Int) (v12 : ByteArray) (v13 : Int) (v14 : Int) (v15 : Int) (v16 : Int) (v17 : Int) (v18 : (List Int)) (v19 : (List api_Pin)) (v20 : Int) (hF : cases_Of k v0 v1 v2 v3 v4 v5 v6 v7 v8 v9 v10 v11 v12 = some (v13, v14, v15, v16, v17, v18, v19, v20)) :
  FCall Try.prog 17 [AV.agg [AV.int .i64 v0, AV.int .i64 v1, AV.str v2, AV.int .i64 v3, AV.int .i64 v4, AV.int .i64 v5, AV.int .i64 v6, AV.int .i64 v7, AV.lst false false (List.map (AV.int .i64) v8), AV.lst false false (List.map api_Pin.av v9), AV.str v10, AV.int .i64 v11, AV.str v12]] [] (AV.tup [AV.agg [AV.int .i64 v13, AV.int .i64 v14, AV.int .i64 v15, AV.int .i64 v16, AV.int .i64 v17, AV.lst false false (List.map (AV.int .i64) v18), AV.lst false false (List.map api_Pin.av v19)], AV.int .i64 v20]) [] := by
 unfold cases_Of at hF
 refine EN Try.func17 ?_
 intro c0 w0 Q h0 hQ
 refine WK [(0, AV.agg [Iz v0, Iz v1, AV.str v2, Iz v3, Iz v4, Iz v5, Iz v6, Iz v7, Lz v8, AV.lst false false (List.map api_Pin.av v9), AV.str v10, Iz v11, AV.str v12])] [] 0 (by simp) (by simp) ?_
 refine SQ [] [none, none, none] fun _ _ g r => ?_
 try simp
 and_intros <;> first | exact g _ (by kernel_rfl) | refine r _ _ _ ?_ | omega | (simp [maxLen] <;> omega)
 refine WK [(1, AV.ptr 0 0), (2, AV.ptr 1 0)] [(0, .cells [Iz v0, Iz v1, AV.str v2, Iz v3, Iz v4, Iz v5, Iz v6, Iz v7, Lz v8, AV.lst false false (List.map api_Pin.av v9), AV.str v10, Iz v11, AV.str v12]), (1, c_cases_Of )] 2 (by simp) (by simp) ?_
 refine AW.seq fun K24 hK24 => ?_
 refine SQ [] [none, none, none] fun _ _ g r => ?_
 try simp
 and_intros
 try any_goals first | omega | (simp [maxLen] <;> omega)
 obtain ⟨v21, h1, hF⟩ := bnd1_elim hF
 refine AC (w_statement_Check k _ _ _ _ _ _ _ _ _ _ _ _ _ _ h1) (.cons (.same (by simp)) .nil) ?_
 try simp
 and_intros <;> first | exact g _ (by kernel_rfl) | refine r _ _ _ ?_ | omega | (simp [maxLen] <;> omega)
 refine WK [(1, AV.ptr 0 0), (2, AV.ptr 1 0), (4, Iz v21)] [(0, .cells [Iz v0, Iz v1, AV.str v2, Iz v3, Iz v4, Iz v5, Iz v6, Iz v7, Lz v8, AV.lst false false (List.map api_Pin.av v9), AV.str v10, Iz v11, AV.str v12]), (1, c_cases_Of )] 2 (by simp) (by simp) ?_
 refine SQ [] [none, none] fun _ _ g r => ?_
 try simp
 and_intros <;> first | exact g _ (by kernel_rfl) | refine r _ _ _ ?_ | omega | (simp [maxLen] <;> omega)
 refine WK [(1, AV.ptr 0 0), (2, AV.ptr 1 0), (4, Iz v21), (9, AV.bool (v21 != 0))] [(0, .cells [Iz v0, Iz v1, AV.str v2, Iz v3, Iz v4, Iz v5, Iz v6, Iz v7, Lz v8, AV.lst false false (List.map api_Pin.av v9), AV.str v10, Iz v11, AV.str v12]), (1, c_cases_Of )] 2 (by simp) (by simp) ?_
 by_cases h2 : v21 ≠ 0
 ·replace hF := ite_t h2 hF
  have h2_ := eqb_f h2
  have h2__ := neb_t h2
  have F1 := And.intro h2 (And.intro h2_ h2__)
  refine CT (by simp [F1] <;> omega) ?_
  refine SQ [] [none, none, none, none] fun _ _ g r => ?_
  try simp [F1]
  and_intros <;> first | exact g _ (by kernel_rfl) | refine r _ _ _ ?_ | omega | (simp [maxLen, F1] <;> omega)
  refine RM h0 [(0, 1)] [(2, AV.ptr 0 0), (3, Iz v21)] [(0, c_cases_Of )] 1 (by simp [F1]) (by simp [F1]) ?_
  refine AW.flg [] [(0, c_cases_Of1 )] trivial ⟨⟨(c_cases_Of ), by simp [F1], (.mk (.cons (.same _) (.cons (.same _) (.cons (.same _) (.cons (.same _) (.cons (.same _) (.cons (.lst (by simp)) (.cons (.lst (by simp)) .nil))))))))⟩, trivial⟩ (by simp) ?_
  simp only [Option.some.injEq, Prod.mk.injEq] at hF
  obtain ⟨e0, e1, e2, e3, e4, e5, e6, e7⟩ := hF
  subst e0 e1 e2 e3 e4 e5 e6 e7
  refine AW.ret (hQ _ _ _ ?_ (matchO_0 ?_)).1
  ·simp [Try.f17, F1]
  ·simp [F1]
 ·replace hF := ite_f h2 hF
  have h2q : v21 = 0 := Classical.not_not.1 h2
  have h2_ := eqb_t h2q
  have h2__ := neb_f h2q
  have F2 := And.intro h2_ (And.intro h2__ h2q)
  refine CF (by simp [F2] <;> omega) ?_
  refine AW.skip ?_
  refine hK24 _ _ _ ?_
  refine SQ [] [none, none, none, none, none, none, none, none, none, none, none, none, none, none, none, none, none, none, none, none, none, none] fun _ _ g r => ?_
  try simp [F2]
  and_intros
  try any_goals first | omega | (simp [maxLen, F2] <;> omega)
  obtain ⟨v22, v23, h3, hF⟩ := bnd2_elim hF
  refine AC (w_cases_Copy k _ _ _ _ h3) (.cons (.same (by simp [F2])) .nil) ?_
  try simp [F2]
  and_intros <;> first | exact g _ (by kernel_rfl) | refine r _ _ _ ?_ | omega | (simp [maxLen, F2] <;> omega)
  refine WK [(1, AV.ptr 0 0), (2, AV.ptr 1 0), (5, AV.ptr 2 0)] [(0, .cells [Iz v0, Iz v1, AV.str v2, Iz v3, Iz v4, Iz v5, Iz v6, Iz v7, Lz v8, AV.lst false false (List.map api_Pin.av v9), AV.str v10, Iz v11, AV.str v12]), (1, c_cases_Of ), (2, .cells [Iz v0, Iz v5, Iz (Int.tmod v6 16), Iz v7, Iz (IntKind.wrap .i64 (Int.tdiv v6 16)), Lz v22, AV.lst false false (List.map api_Pin.av v23)])] 3 (by simp [F2]) (by simp [F2]) ?_
  refine AW.seq fun K33 hK33 => ?_
  refine SQ [] [none, none, none, none, some (35, false), some (35, false), some (35, false), none, none, some (40, false), some (40, false), some (40, false), some (40, false), some (40, false), some (40, false), none] fun _ _ g r => ?_
  by_cases h4 : v4 ≠ 10
  ·replace hF := ite_t h4 hF
   have h4_ := eqb_f h4
   have h4__ := neb_t h4
   have F3 := And.intro F2 (And.intro h4 (And.intro h4_ h4__))
   try simp [F3]
   and_intros <;> first | exact g _ (by kernel_rfl) | refine r _ _ _ ?_ | omega | (simp [maxLen, F3] <;> omega)
   refine WK [(2, AV.ptr 1 0), (5, AV.ptr 2 0), (47, AV.bool true)] [(1, c_cases_Of ), (2, .cells [Iz v0, Iz v5, Iz (Int.tmod v6 16), Iz v7, Iz (IntKind.wrap .i64 (Int.tdiv v6 16)), Lz v22, AV.lst false false (List.map api_Pin.av v23)])] 3 (by simp [F3]) (by simp [F3]) ?_
   refine CT (by simp [F3]) ?_
   refine SQ [] [none, none, none] fun _ _ g r => ?_
   try simp [F3]
   and_intros <;> first | exact g _ (by kernel_rfl) | refine r _ _ _ ?_ | omega | (simp [maxLen, F3] <;> omega)
   refine RM h0 [(0, 1)] [(2, AV.ptr 0 0), (3, Iz 42)] [(0, c_cases_Of )] 1 (by simp [F3]) (by simp [F3]) ?_
   refine AW.flg [] [(0, c_cases_Of1 )] trivial ⟨⟨(c_cases_Of ), by simp [F3], (.mk (.cons (.same _) (.cons (.same _) (.cons (.same _) (.cons (.same _) (.cons (.same _) (.cons (.lst (by simp)) (.cons (.lst (by simp)) .nil))))))))⟩, trivial⟩ (by simp) ?_
   simp only [Option.some.injEq, Prod.mk.injEq] at hF
   obtain ⟨e0, e1, e2, e3, e4, e5, e6, e7⟩ := hF
   subst e0 e1 e2 e3 e4 e5 e6 e7
   refine AW.ret (hQ _ _ _ ?_ (matchO_0 ?_)).1
   ·simp [Try.f17, F3]
   ·simp [F3]
  ·replace hF := ite_f h4 hF
   have h4q : v4 = 10 := Classical.not_not.1 h4
   have h4_ := eqb_t h4q
   have h4__ := neb_f h4q
   by_cases h5 : (!strEq v10 (ByteArray.mk #[])) = true
   ·replace hF := ite_t h5 hF
    have h5_ := h5
    try simp at h5_
    have F4 := And.intro F2 (And.intro h4_ (And.intro h4__ (And.intro h4q (And.intro h5 h5_))))
    try simp [F4]
    and_intros <;> first | exact g _ (by kernel_rfl) | refine r _ _ _ ?_ | omega | (simp [maxLen, F4] <;> omega)
    refine WK [(2, AV.ptr 1 0), (5, AV.ptr 2 0), (47, AV.bool true)] [(1, c_cases_Of ), (2, .cells [Iz v0, Iz v5, Iz (Int.tmod v6 16), Iz v7, Iz (IntKind.wrap .i64 (Int.tdiv v6 16)), Lz v22, AV.lst false false (List.map api_Pin.av v23)])] 3 (by simp [F4]) (by simp [F4]) ?_
    refine CT (by simp [F4]) ?_
    refine SQ [] [none, none, none] fun _ _ g r => ?_
    try simp [F4]
    and_intros <;> first | exact g _ (by kernel_rfl) | refine r _ _ _ ?_ | omega | (simp [maxLen, F4] <;> omega)
    refine RM h0 [(0, 1)] [(2, AV.ptr 0 0), (3, Iz 42)] [(0, c_cases_Of )] 1 (by simp [F4]) (by simp [F4]) ?_
    refine AW.flg [] [(0, c_cases_Of1 )] trivial ⟨⟨(c_cases_Of ), by simp [F4], (.mk (.cons (.same _) (.cons (.same _) (.cons (.same _) (.cons (.same _) (.cons (.same _) (.cons (.lst (by simp)) (.cons (.lst (by simp)) .nil))))))))⟩, trivial⟩ (by simp) ?_
    simp only [Option.some.injEq, Prod.mk.injEq] at hF
    obtain ⟨e0, e1, e2, e3, e4, e5, e6, e7⟩ := hF
    subst e0 e1 e2 e3 e4 e5 e6 e7
    refine AW.ret (hQ _ _ _ ?_ (matchO_0 ?_)).1
    ·simp [Try.f17, F4]
    ·simp [F4]
   ·replace hF := ite_f h5 hF
    have h5_ := h5
    try simp at h5_
    have F5 := And.intro F2 (And.intro h4_ (And.intro h4__ (And.intro h4q (And.intro h5 h5_))))
    try simp [F5]
    and_intros
    try any_goals first | omega | (simp [maxLen, F5] <;> omega)
    obtain ⟨v24, h6, hF⟩ := bnd1_elim hF
    refine AC (w_cases_Right k _ _ _ _ _ _ _ h6) (.cons (.same (by simp [F5])) (.cons (.same (by simp [F5])) .nil)) ?_
    try simp [F5]
    and_intros <;> first | exact g _ (by kernel_rfl) | refine r _ _ _ ?_ | omega | (simp [maxLen, F5] <;> omega)
    refine WK [(2, AV.ptr 1 0), (5, AV.ptr 2 0), (47, AV.bool (!v24))] [(1, c_cases_Of ), (2, .cells [Iz v0, Iz v5, Iz (Int.tmod v6 16), Iz v7, Iz (IntKind.wrap .i64 (Int.tdiv v6 16)), Lz v22, AV.lst false false (List.map api_Pin.av v23)])] 3 (by simp [F5]) (by simp [F5]) ?_
    by_cases h7 : (!v24) = true
    ·replace hF := ite_t h7 hF
     have h7_ := h7
     try simp at h7_
     have F6 := And.intro F5 (And.intro h7 h7_)
     refine CT (by simp [F6] <;> omega) ?_
     refine SQ [] [none, none, none] fun _ _ g r => ?_
     try simp [F6]
     and_intros <;> first | exact g _ (by kernel_rfl) | refine r _ _ _ ?_ | omega | (simp [maxLen, F6] <;> omega)
     refine RM h0 [(0, 1)] [(2, AV.ptr 0 0), (3, Iz 42)] [(0, c_cases_Of )] 1 (by simp [F6]) (by simp [F6]) ?_
     refine AW.flg [] [(0, c_cases_Of1 )] trivial ⟨⟨(c_cases_Of ), by simp [F6], (.mk (.cons (.same _) (.cons (.same _) (.cons (.same _) (.cons (.same _) (.cons (.same _) (.cons (.lst (by simp)) (.cons (.lst (by simp)) .nil))))))))⟩, trivial⟩ (by simp) ?_
     simp only [Option.some.injEq, Prod.mk.injEq] at hF
     obtain ⟨e0, e1, e2, e3, e4, e5, e6, e7⟩ := hF
     subst e0 e1 e2 e3 e4 e5 e6 e7
     refine AW.ret (hQ _ _ _ ?_ (matchO_0 ?_)).1
     ·simp [Try.f17, F6]
     ·simp [F6]
    ·replace hF := ite_f h7 hF
     have h7_ := h7
     try simp at h7_
     have F7 := And.intro F5 (And.intro h7 h7_)
     refine CF (by simp [F7] <;> omega) ?_
     refine AW.skip ?_
     refine hK33 _ _ _ ?_
     refine SQ [] [none, none, none] fun _ _ g r => ?_
     try simp [F7]
     and_intros <;> first | exact g _ (by kernel_rfl) | refine r _ _ _ ?_ | omega | (simp [maxLen, F7] <;> omega)
     refine RM h0 [(0, 1)] [(2, AV.ptr 0 0), (3, Iz 0)] [(0, .cells [Iz v0, Iz v5, Iz (Int.tmod v6 16), Iz v7, Iz (IntKind.wrap .i64 (Int.tdiv v6 16)), Lz v22, AV.lst false false (List.map api_Pin.av v23)])] 1 (by simp [F7]) (by simp [F7]) ?_
     simp only [Option.some.injEq, Prod.mk.injEq] at hF
     obtain ⟨e0, e1, e2, e3, e4, e5, e6, e7⟩ := hF
     subst e0 e1 e2 e3 e4 e5 e6 e7
     refine AW.ret (hQ _ _ _ ?_ (matchO_0 ?_)).1
     ·simp [Try.f17, F7]
     ·simp [F7]
theorem w_law23_awake (k : Nat) (v0 : Bool) (hF : law23_awake k = some v0) :
  FCall Try.prog 10 [] [] (AV.bool v0) [] := by
 unfold law23_awake at hF
 refine EN Try.func10 ?_
 intro c0 w0 Q h0 hQ
 refine WK [] [] 0 (by simp) (by simp) ?_
 refine SQ [] [none] fun _ _ g r => ?_
 try simp
 and_intros <;> first | exact g _ (by kernel_rfl) | refine r _ _ _ ?_ | omega | (simp [maxLen] <;> omega)
 refine WK [] [] 0 (by simp) (by simp) ?_
 refine SQ [] [none, none, none] fun _ _ g r => ?_
 try simp
 and_intros <;> first | exact g _ (by kernel_rfl) | refine r _ _ _ ?_ | omega | (simp [maxLen] <;> omega)
 refine WK [(1, AV.ptr 0 0)] [(0, .cells [Iz 2, Iz 3, Iz 5, Iz 1])] 1 (by simp) (by simp) ?_
 refine SQ [] [none, none, none, none, none, none, none, none, none, none] fun _ _ g r => ?_
 try simp
 and_intros
 try any_goals first | omega | (simp [maxLen] <;> omega)
 obtain ⟨v1, v2, v3, v4, v5, v6, v7, h1, hF⟩ := bnd7_elim hF
 refine AC (w_cases_Draft k _ _ _ _ _ _ _ _ _ _ _ _ _ h1) (.cons (.same (by simp)) (.cons (.agg (.cons (Coe.fl (by simp)) (.cons (Coe.fl (by simp)) .nil))) .nil)) ?_
 try simp
 and_intros <;> first | exact g _ (by kernel_rfl) | refine r _ _ _ ?_ | omega | (simp [maxLen] <;> omega)
 refine WK [(1, AV.ptr 0 0), (2, AV.ptr 1 0), (3, Iz v7)] [(0, .cells [Iz 2, Iz 3, Iz 5, Iz 1]), (1, .cells [Iz v1, Iz v2, Iz v3, Iz v4, Lz v5, AV.lst false false (List.map api_Pin.av v6)])] 2 (by simp) (by simp) ?_
 refine SQ [] [none, none, none, none, none, none, none, none, none] fun _ _ g r => ?_
 try simp
 and_intros
 try any_goals first | omega | (simp [maxLen] <;> omega)
 obtain ⟨v8, h2, hF⟩ := bnd1_elim hF
 refine AC (w_mill_Statement k _ _ _ _ _ _ _ _ _ _ h2) (.cons (.same (by simp)) (.cons (.same (by simp)) (.cons (.same (by simp)) (.cons (.same (by simp)) .nil)))) ?_
 try simp
 and_intros
 try any_goals first | omega | (simp [maxLen] <;> omega)
 obtain ⟨v9, v10, v11, v12, v13, v14, v15, v16, h3, hF⟩ := bnd8_elim hF
 refine AC (w_cases_Of k _ _ _ _ _ _ _ _ _ _ _ _ _ _ _ _ _ _ _ _ _ h3) (.cons (.same (by simp)) .nil) ?_
 try simp
 and_intros <;> first | exact g _ (by kernel_rfl) | refine r _ _ _ ?_ | omega | (simp [maxLen] <;> omega)
 refine WK [(1, AV.ptr 0 0), (3, Iz v7), (4, AV.ptr 2 0), (5, Iz v16)] [(0, .cells [Iz 2, Iz 3, Iz 5, Iz 1]), (2, .cells [Iz v9, Iz v10, Iz v11, Iz v12, Iz v13, Lz v14, AV.lst false false (List.map api_Pin.av v15)])] 3 (by simp) (by simp) ?_
 refine SQ [] [none, none, none, some (22, true), some (22, true), none, none, some (26, true), some (26, true), some (26, true), none, none, some (31, true), some (31, true), some (31, true), none, none, some (36, true), some (36, true), some (36, true), some (36, true), none, none, some (42, true), some (42, true), some (42, true), some (42, true), some (42, true), none, none, some (49, true), some (49, true), none, none] fun _ _ g r => ?_
 by_cases h4 : v7 = 0
 ·replace hF := ite_t h4 hF
  have h4q : v7 = 0 := h4
  have h4_ := eqb_t h4q
  have h4__ := neb_f h4q
  by_cases h5 : v16 = 0
  ·replace hF := ite_t h5 hF
   have h5q : v16 = 0 := h5
   have h5_ := eqb_t h5q
   have h5__ := neb_f h5q
   have F1 := And.intro h4_ (And.intro h4__ (And.intro h4q (And.intro h5_ (And.intro h5__ h5q))))
   try simp [F1]
   and_intros
   try any_goals first | omega | (simp [maxLen, F1] <;> omega)
   obtain ⟨v17, h6, hF⟩ := bnd1_elim hF
   refine AC (w_cases_Code k _ _ _ _ _ h6) (.cons (.same (by simp [F1])) .nil) ?_
   by_cases h7 : v17 = 19
   ·replace hF := ite_t h7 hF
    have h7q : v17 = 19 := h7
    have h7_ := eqb_t h7q
    have h7__ := neb_f h7q
    by_cases h8 : v9 = 3
    ·replace hF := ite_t h8 hF
     have h8q : v9 = 3 := h8
     have h8_ := eqb_t h8q
     have h8__ := neb_f h8q
     obtain ⟨v18, h9, hF⟩ := let1_elim hF
     have h9_ := h9
     try simp at h9_
     by_cases h10 : v18 = true
     ·replace hF := ite_t h10 hF
      have h10_ := h10
      try simp at h10_
      by_cases h11 : (v14.length : Int) = 1
      ·replace hF := ite_t h11 hF
       have h11q : (v14.length : Int) = 1 := h11
       have h11_ := eqb_t h11q
       have h11__ := neb_f h11q
       have F2 := And.intro F1 (And.intro h7_ (And.intro h7__ (And.intro h7q (And.intro h8_ (And.intro h8__ (And.intro h8q (And.intro h9 (And.intro h9_ (And.intro h10 (And.intro h10_ (And.intro h11_ (And.intro h11__ h11q))))))))))))
       try simp [F2]
       and_intros
       try any_goals first | omega | (simp [maxLen, F2] <;> omega)
       obtain ⟨v19, h12, hF⟩ := bnd1_elim hF
       refine AC (w_cases_Valid k _ _ _ _ _ h12) (.cons (.same (by simp [F2])) .nil) ?_
       try simp [F2]
       and_intros <;> first | exact g _ (by kernel_rfl) | refine r _ _ _ ?_ | omega | (simp [maxLen, F2] <;> omega)
       refine WK [(0, AV.bool v19)] [] 3 (by simp [F2]) (by simp [F2]) ?_
       simp only [Option.some.injEq] at hF
       subst hF
       refine AW.ret (hQ _ _ _ ?_ (matchO_0 ?_)).1
       ·simp [Try.f10, F2]
       ·simp [F2]
      ·replace hF := ite_f h11 hF
       have h11_ := eqb_f h11
       have h11__ := neb_t h11
       have F3 := And.intro F1 (And.intro h7_ (And.intro h7__ (And.intro h7q (And.intro h8_ (And.intro h8__ (And.intro h8q (And.intro h9 (And.intro h9_ (And.intro h10 (And.intro h10_ (And.intro h11 (And.intro h11_ h11__))))))))))))
       try simp [F3]
       and_intros <;> first | exact g _ (by kernel_rfl) | refine r _ _ _ ?_ | omega | (simp [maxLen, F3] <;> omega)
       refine WK [(0, AV.bool false)] [] 3 (by simp [F3]) (by simp [F3]) ?_
       simp only [Option.some.injEq] at hF
       subst hF
       refine AW.ret (hQ _ _ _ ?_ (matchO_0 ?_)).1
       ·simp [Try.f10, F3]
       ·simp [F3]
     ·replace hF := ite_f h10 hF
      have h10_ := h10
      try simp at h10_
      have F4 := And.intro F1 (And.intro h7_ (And.intro h7__ (And.intro h7q (And.intro h8_ (And.intro h8__ (And.intro h8q (And.intro h9 (And.intro h9_ (And.intro h10 h10_)))))))))
      try simp [F4]
      and_intros <;> first | exact g _ (by kernel_rfl) | refine r _ _ _ ?_ | omega | (simp [maxLen, F4] <;> omega)
      refine WK [(0, AV.bool false)] [] 3 (by simp [F4]) (by simp [F4]) ?_
      simp only [Option.some.injEq] at hF
      subst hF
      refine AW.ret (hQ _ _ _ ?_ (matchO_0 ?_)).1
      ·simp [Try.f10, F4]
      ·simp [F4]
    ·replace hF := ite_f h8 hF
     have h8_ := eqb_f h8
     have h8__ := neb_t h8
     have F5 := And.intro F1 (And.intro h7_ (And.intro h7__ (And.intro h7q (And.intro h8 (And.intro h8_ h8__)))))
     try simp [F5]
     and_intros <;> first | exact g _ (by kernel_rfl) | refine r _ _ _ ?_ | omega | (simp [maxLen, F5] <;> omega)
     refine WK [(0, AV.bool false)] [] 3 (by simp [F5]) (by simp [F5]) ?_
     simp only [Option.some.injEq] at hF
     subst hF
     refine AW.ret (hQ _ _ _ ?_ (matchO_0 ?_)).1
     ·simp [Try.f10, F5]
     ·simp [F5]
   ·replace hF := ite_f h7 hF
    have h7_ := eqb_f h7
    have h7__ := neb_t h7
    have F6 := And.intro F1 (And.intro h7 (And.intro h7_ h7__))
    try simp [F6]
    and_intros <;> first | exact g _ (by kernel_rfl) | refine r _ _ _ ?_ | omega | (simp [maxLen, F6] <;> omega)
    refine WK [(0, AV.bool false)] [] 3 (by simp [F6]) (by simp [F6]) ?_
    simp only [Option.some.injEq] at hF
    subst hF
    refine AW.ret (hQ _ _ _ ?_ (matchO_0 ?_)).1
    ·simp [Try.f10, F6]
    ·simp [F6]
  ·replace hF := ite_f h5 hF
   have h5_ := eqb_f h5
   have h5__ := neb_t h5
   have F7 := And.intro h4_ (And.intro h4__ (And.intro h4q (And.intro h5 (And.intro h5_ h5__))))
   try simp [F7]
   and_intros <;> first | exact g _ (by kernel_rfl) | refine r _ _ _ ?_ | omega | (simp [maxLen, F7] <;> omega)
   refine WK [(0, AV.bool false)] [] 3 (by simp [F7]) (by simp [F7]) ?_
   simp only [Option.some.injEq] at hF
   subst hF
   refine AW.ret (hQ _ _ _ ?_ (matchO_0 ?_)).1
   ·simp [Try.f10, F7]
   ·simp [F7]
 ·replace hF := ite_f h4 hF
  have h4_ := eqb_f h4
  have h4__ := neb_t h4
  have F8 := And.intro h4 (And.intro h4_ h4__)
  try simp [F8]
  and_intros <;> first | exact g _ (by kernel_rfl) | refine r _ _ _ ?_ | omega | (simp [maxLen, F8] <;> omega)
  refine WK [(0, AV.bool false)] [] 3 (by simp [F8]) (by simp [F8]) ?_
  simp only [Option.some.injEq] at hF
  subst hF
  refine AW.ret (hQ _ _ _ ?_ (matchO_0 ?_)).1
  ·simp [Try.f10, F8]
  ·simp [F8]
theorem w_made_Roll (k : Nat) (v0 : (List Int)) (v1 : (List Int)) (v2 : Int) (hF : made_Roll k v0 = some (v1, v2)) :
  FCall Try.prog 37 [AV.lst false false (List.map (AV.int .i64) v0)] [] (AV.ptr 0 0) [some (.cells [AV.lst false false (List.map (AV.int .i64) v1), AV.int .i64 v2])] := by
 unfold made_Roll at hF
 refine EN Try.func37 ?_
 intro c0 w0 Q h0 hQ
 refine WK [(0, Lz v0)] [] 0 (by simp) (by simp) ?_
 refine SQ [] [none] fun _ _ g r => ?_
 try simp
 and_intros <;> first | exact g _ (by kernel_rfl) | refine r _ _ _ ?_ | omega | (simp [maxLen] <;> omega)
 refine WK [(0, Lz v0)] [] 0 (by simp) (by simp) ?_
 refine SQ [] [none, none, none, none] fun _ _ g r => ?_
 try simp
 and_intros <;> first | exact g _ (by kernel_rfl) | refine r _ _ _ ?_ | omega | (simp [maxLen] <;> omega)
 refine WK [(2, AV.ptr 0 0)] [(0, .cells [Lz v0, Iz 0])] 1 (by simp) (by simp) ?_
 simp only [Option.some.injEq, Prod.mk.injEq] at hF
 obtain ⟨e0, e1⟩ := hF
 subst e0 e1
 refine AW.ret (hQ _ _ _ ?_ (matchO_0 ?_)).1
 ·simp [Try.f37]
 ·simp
theorem w_mill_Roll (k : Nat) (v0 : (List Int)) (v1 : (List Int)) (v2 : Int) (hF : mill_Roll k v0 = some (v1, v2)) :
  FCall Try.prog 11 [AV.lst false false (List.map (AV.int .i64) v0)] [] (AV.ptr 0 0) [some (.cells [AV.lst false false (List.map (AV.int .i64) v1), AV.int .i64 v2])] := by
 unfold mill_Roll at hF
 refine EN Try.func11 ?_
 intro c0 w0 Q h0 hQ
 refine WK [(0, Lz v0)] [] 0 (by simp) (by simp) ?_
 refine SQ [] [none] fun _ _ g r => ?_
 try simp
 and_intros <;> first | exact g _ (by kernel_rfl) | refine r _ _ _ ?_ | omega | (simp [maxLen] <;> omega)
 refine WK [(0, Lz v0)] [] 0 (by simp) (by simp) ?_
 refine SQ [] [none, none, none] fun _ _ g r => ?_
 try simp
 and_intros
 try any_goals first | omega | (simp [maxLen] <;> omega)
 obtain ⟨v3, v4, h1, hF⟩ := bnd2_elim hF
 refine AC (w_made_Roll k _ _ _ h1) (.cons (.same (by simp)) .nil) ?_
 try simp
 and_intros <;> first | exact g _ (by kernel_rfl) | refine r _ _ _ ?_ | omega | (simp [maxLen] <;> omega)
 refine WK [(2, AV.ptr 0 0)] [(0, .cells [Lz v3, Iz v4])] 1 (by simp) (by simp) ?_
 simp only [Option.some.injEq, Prod.mk.injEq] at hF
 obtain ⟨e0, e1⟩ := hF
 subst e0 e1
 refine AW.ret (hQ _ _ _ ?_ (matchO_0 ?_)).1
 ·simp [Try.f11]
 ·simp
theorem w_made_Mod (k : Nat) (v0 : Int) (v1 : Int) (v2 : Int) (hF : made_Mod k v0 v1 = some v2) :
  FCall Try.prog 38 [AV.int .i64 v0, AV.int .i64 v1] [] (AV.int .i64 v2) [] := by
 unfold made_Mod at hF
 refine EN Try.func38 ?_
 intro c0 w0 Q h0 hQ
 refine WK [(0, Iz v0), (1, Iz v1)] [] 0 (by simp) (by simp) ?_
 refine SQ [] [none] fun _ _ g r => ?_
 try simp
 and_intros <;> first | exact g _ (by kernel_rfl) | refine r _ _ _ ?_ | omega | (simp [maxLen] <;> omega)
 refine WK [(0, Iz v0), (1, Iz v1)] [] 0 (by simp) (by simp) ?_
 refine AW.seq fun K17 hK17 => ?_
 refine SQ [] [none, none] fun _ _ g r => ?_
 try simp
 and_intros <;> first | exact g _ (by kernel_rfl) | refine r _ _ _ ?_ | omega | (simp [maxLen] <;> omega)
 refine WK [(0, Iz v0), (1, Iz v1), (6, AV.bool (decide (v1 < 1)))] [] 0 (by simp) (by simp) ?_
 by_cases h1 : v1 < 1
 ·replace hF := ite_t h1 hF
  have h1_ := h1
  try simp at h1_
  refine CT (by simp [h1, h1_] <;> omega) ?_
  refine SQ [] [none] fun _ _ g r => ?_
  try simp [h1, h1_]
  and_intros <;> first | exact g _ (by kernel_rfl) | refine r _ _ _ ?_ | omega | (simp [h1, h1_, maxLen] <;> omega)
  refine WK [(4, Iz 0)] [] 0 (by simp [h1, h1_]) (by simp [h1, h1_]) ?_
  simp only [Option.some.injEq] at hF
  subst hF
  refine AW.ret (hQ _ _ _ ?_ (matchO_0 ?_)).1
  ·simp [Try.f38, h1, h1_]
  ·simp [h1, h1_]
 ·replace hF := ite_f h1 hF
  have h1_ := h1
  try simp at h1_
  refine CF (by simp [h1, h1_] <;> omega) ?_
  refine AW.skip ?_
  refine hK17 _ _ _ ?_
  refine SQ [] [none, none, none, none] fun _ _ g r => ?_
  obtain ⟨h2, hF⟩ := chk_elim hF
  have h2_ := h2
  try simp at h2_
  have F1 := And.intro h1 (And.intro h1_ (And.intro h2 h2_))
  try simp [F1]
  and_intros <;> first | exact g _ (by kernel_rfl) | refine r _ _ _ ?_ | omega | (simp [maxLen, F1] <;> omega)
  refine WK [(0, Iz (Int.tmod v0 v1)), (1, Iz v1)] [] 0 (by simp [F1]) (by simp [F1]) ?_
  refine AW.midF (α := Int) (fun v3 => made_Mod.J1 k v3 = some v2) (fun v3 => [(0, Iz v3)]) (fun v3 => []) 0 (fun K24 hK24 => ?_) ?_
  ·refine SQ [] [none, none] fun _ _ g r => ?_
   try simp [F1]
   and_intros <;> first | exact g _ (by kernel_rfl) | refine r _ _ _ ?_ | omega | (simp [maxLen, F1] <;> omega)
   refine WK [(0, Iz (Int.tmod v0 v1)), (1, Iz v1), (11, AV.bool (decide (Int.tmod v0 v1 < 0)))] [] 0 (by simp [F1]) (by simp [F1]) ?_
   by_cases h3 : Int.tmod v0 v1 < 0
   ·replace hF := ite_t h3 hF
    have h3_ := h3
    try simp at h3_
    have F2 := And.intro F1 (And.intro h3 h3_)
    refine CT (by simp [F2] <;> omega) ?_
    refine RG [] [none, none, none, none] fun _ _ g r => ?_
    try simp [F2]
    and_intros <;> first | exact g _ (by kernel_rfl) | refine r _ _ _ ?_ | omega | (simp [maxLen, F2] <;> omega)
    refine hK24 _ _ _ ?_
    exact JN (IntKind.wrap .i64 (Int.tmod v0 v1 + v1)) hF (by simp [F2]) (by simp [F2])
   ·replace hF := ite_f h3 hF
    have h3_ := h3
    try simp at h3_
    have F3 := And.intro F1 (And.intro h3 h3_)
    refine CF (by simp [F3] <;> omega) ?_
    refine AW.skip ?_
    refine hK24 _ _ _ ?_
    exact JN (Int.tmod v0 v1) hF (by simp [F3]) (by simp [F3])
  ·rintro v3 hF
   try dsimp only at hF
   unfold made_Mod.J1 at hF
   refine SQ [] [none, none] fun _ _ g r => ?_
   try simp [F1]
   and_intros <;> first | exact g _ (by kernel_rfl) | refine r _ _ _ ?_ | omega | (simp [maxLen, F1] <;> omega)
   refine WK [(4, Iz v3)] [] 0 (by simp [F1]) (by simp [F1]) ?_
   simp only [Option.some.injEq] at hF
   subst hF
   refine AW.ret (hQ _ _ _ ?_ (matchO_0 ?_)).1
   ·simp [Try.f38, F1]
   ·simp [F1]
theorem w_made_Dice_Next (k : Nat) (v0 : (List Int)) (v1 : Int) (v2 : Int) (v3 : Int) (v4 : Int) (hF : made_Dice_Next k v0 v1 v2 = some (v3, v4)) :
  FCall Try.prog 13 [AV.ptr 0 0, AV.int .i64 v2] [.cells [AV.lst false false (List.map (AV.int .i64) v0), AV.int .i64 v1]] (AV.int .i64 v3) [some (.cells [AV.lst false false (List.map (AV.int .i64) v0), AV.int .i64 v4])] := by
 unfold made_Dice_Next at hF
 refine EN Try.func13 ?_
 intro c0 w0 Q h0 hQ
 refine WK [(0, AV.ptr 0 0), (1, Iz v2)] [(0, .cells [Lz v0, Iz v1])] 1 (by simp) (by simp) ?_
 refine SQ [] [none] fun _ _ g r => ?_
 try simp
 and_intros <;> first | exact g _ (by kernel_rfl) | refine r _ _ _ ?_ | omega | (simp [maxLen] <;> omega)
 refine WK [(0, AV.ptr 0 0), (1, Iz v2)] [(0, .cells [Lz v0, Iz v1])] 1 (by simp) (by simp) ?_
 refine AW.seq fun K12 hK12 => ?_
 refine SQ [] [none, none, none, none, none, none, none, none, none, none] fun _ _ g r => ?_
 try simp
 and_intros <;> first | exact g _ (by kernel_rfl) | refine r _ _ _ ?_ | omega | (simp [maxLen] <;> omega)
 refine WK [(0, AV.ptr 0 0), (1, Iz v2), (14, AV.bool (decide ((v0.length : Int) ≤ v1)))] [(0, .cells [Lz v0, Iz v1])] 1 (by simp) (by simp) ?_
 by_cases h1 : (v0.length : Int) ≤ v1
 ·replace hF := ite_t h1 hF
  have h1_ := h1
  try simp at h1_
  refine CT (by simp [h1, h1_] <;> omega) ?_
  refine SQ [] [none] fun _ _ g r => ?_
  try simp [h1, h1_]
  and_intros <;> first | exact g _ (by kernel_rfl) | refine r _ _ _ ?_ | omega | (simp [h1, h1_, maxLen] <;> omega)
  refine WK [(4, Iz 0)] [(0, .cells [Lz v0, Iz v1])] 1 (by simp [h1, h1_]) (by simp [h1, h1_]) ?_
  simp only [Option.some.injEq, Prod.mk.injEq] at hF
  obtain ⟨e0, e1⟩ := hF
  subst e0 e1
  refine AW.ret (hQ _ _ _ ?_ (matchO_0 ?_)).1
  ·simp [Try.f13, h1, h1_]
  ·simp [h1, h1_]
 ·replace hF := ite_f h1 hF
  have h1_ := h1
  try simp at h1_
  refine CF (by simp [h1, h1_] <;> omega) ?_
  refine AW.skip ?_
  refine hK12 _ _ _ ?_
  refine SQ [] [none, none, none, none, none, none, none, none] fun _ _ g r => ?_
  try simp [h1, h1_]
  and_intros <;> first | exact g _ (by kernel_rfl) | refine r _ _ _ ?_ | omega | (simp [h1, h1_, maxLen] <;> omega)
  refine WK [(0, AV.ptr 0 0), (1, Iz v2)] [(0, .cells [Lz v0, Iz (IntKind.wrap .i64 (v1 + 1))])] 1 (by simp [h1, h1_]) (by simp [h1, h1_]) ?_
  refine SQ [] [none, none, none, none, none, none, none, none, none, none, none, none, none, none] fun _ _ g r => ?_
  obtain ⟨v5, h2, h3, h4, hF⟩ := idx_elim hF
  have h4_ := get_of h4
  try simp at h4_
  have h3_ := h3
  try simp at h3_
  have F1 := And.intro h1 (And.intro h1_ (And.intro h2 (And.intro h3 (And.intro h4 (And.intro h4_ h3_)))))
  try simp [F1]
  and_intros
  try any_goals first | omega | (simp [maxLen, F1] <;> omega)
  obtain ⟨v6, h5, hF⟩ := bnd1_elim hF
  refine AC (w_made_Mod k _ _ _ h5) (.cons (.same (by simp [F1])) (.cons (.same (by simp [F1])) .nil)) ?_
  try simp [F1]
  and_intros <;> first | exact g _ (by kernel_rfl) | refine r _ _ _ ?_ | omega | (simp [maxLen, F1] <;> omega)
  refine WK [(4, Iz v6)] [(0, .cells [Lz v0, Iz (IntKind.wrap .i64 (v1 + 1))])] 1 (by simp [F1]) (by simp [F1]) ?_
  simp only [Option.some.injEq, Prod.mk.injEq] at hF
  obtain ⟨e0, e1⟩ := hF
  subst e0 e1
  refine AW.ret (hQ _ _ _ ?_ (matchO_0 ?_)).1
  ·simp [Try.f13, F1]
  ·simp [F1]
theorem w_mill_Case (k : Nat) (v0 : (List Int)) (v1 : Int) (v2 : Int) (v3 : Int) (v4 : Int) (v5 : Int) (v6 : Int) (v7 : Int) (hF : mill_Case k v0 v1 v2 = some (v3, v4, v5, v6, v7)) :
  FCall Try.prog 12 [AV.ptr 0 0, AV.int .i64 v2] [.cells [AV.lst false false (List.map (AV.int .i64) v0), AV.int .i64 v1]] (AV.agg [AV.int .i64 v3, AV.int .i64 v4, AV.int .i64 v5, AV.int .i64 v6]) [some (.cells [AV.lst false false (List.map (AV.int .i64) v0), AV.int .i64 v7])] := by
 unfold mill_Case at hF
 refine EN Try.func12 ?_
 intro c0 w0 Q h0 hQ
 refine WK [(0, AV.ptr 0 0), (1, Iz v2)] [(0, .cells [Lz v0, Iz v1])] 1 (by simp) (by simp) ?_
 refine SQ [] [none] fun _ _ g r => ?_
 try simp
 and_intros <;> first | exact g _ (by kernel_rfl) | refine r _ _ _ ?_ | omega | (simp [maxLen] <;> omega)
 refine WK [(0, AV.ptr 0 0), (1, Iz v2), (4, AV.ptr 1 0)] [(0, .cells [Lz v0, Iz v1]), (1, .cells [Iz 0, Iz 0, Iz 0, Iz 0])] 2 (by simp) (by simp) ?_
 refine SQ [] [none, none, none, none, none, none, none] fun _ _ g r => ?_
 try simp
 and_intros
 try any_goals first | omega | (simp [maxLen] <;> omega)
 obtain ⟨v8, v9, h1, hF⟩ := bnd2_elim hF
 refine aCall_l (w_made_Dice_Next k _ _ _ _ _ h1) (by simp) [0] [] [0] rfl (.cons (.same (by simp)) (.cons (.same (by simp)) .nil)) (by simp) (by decide) (by simp) (by simp) (.inl rfl) (by simp) (by simp) ?_
 try simp
 and_intros <;> first | exact g _ (by kernel_rfl) | refine r _ _ _ ?_ | omega | (simp [maxLen] <;> omega)
 refine WK [(0, AV.ptr 0 0), (4, AV.ptr 1 0), (5, AV.ptr 2 0)] [(0, .cells [Lz v0, Iz v9]), (1, .cells [Iz 0, Iz 0, Iz 0, Iz 0]), (2, .cells [Iz v2, Iz (IntKind.wrap .i64 (1 + v8)), Iz 0, Iz 0])] 3 (by simp) (by simp) ?_
 refine AW.midF (α := (Int × Int × Int)) (fun (v10, v11, v12) => mill_Case.J1 k v2 v8 v10 v11 v12 = some (v3, v4, v5, v6, v7)) (fun (v10, v11, v12) => [(4, AV.ptr 1 0), (5, AV.ptr 2 0)]) (fun (v10, v11, v12) => [(0, .cells [Lz v0, Iz v12]), (1, .cells [Iz 0, Iz 0, Iz 0, Iz 0]), (2, .cells [Iz v2, Iz (IntKind.wrap .i64 (1 + v8)), Iz v10, Iz v11])]) 3 (fun K14 hK14 => ?_) ?_
 ·refine SQ [] [none, none, none] fun _ _ g r => ?_
  try simp
  and_intros <;> first | exact g _ (by kernel_rfl) | refine r _ _ _ ?_ | omega | (simp [maxLen] <;> omega)
  refine WK [(0, AV.ptr 0 0), (4, AV.ptr 1 0), (5, AV.ptr 2 0), (13, AV.bool ((IntKind.wrap .i64 (1 + v8)) != 1))] [(0, .cells [Lz v0, Iz v9]), (1, .cells [Iz 0, Iz 0, Iz 0, Iz 0]), (2, .cells [Iz v2, Iz (IntKind.wrap .i64 (1 + v8)), Iz 0, Iz 0])] 3 (by simp) (by simp) ?_
  by_cases h2 : (IntKind.wrap .i64 (1 + v8)) ≠ 1
  ·replace hF := ite_t h2 hF
   have h2_ := eqb_f h2
   have h2__ := neb_t h2
   have F1 := And.intro h2 (And.intro h2_ h2__)
   refine CT (by simp [F1] <;> omega) ?_
   refine RG [] [none, none, none, none, none, none, none, none] fun _ _ g r => ?_
   try simp [F1]
   and_intros
   try any_goals first | omega | (simp [maxLen, F1] <;> omega)
   obtain ⟨v13, v14, h3, hF⟩ := bnd2_elim hF
   refine aCall_l (w_made_Dice_Next k _ _ _ _ _ h3) (by simp) [0] [] [0] rfl (.cons (.same (by simp [F1])) (.cons (.same (by simp [F1])) .nil)) (by simp [F1]) (by decide) (by simp) (by simp) (.inl rfl) (by simp) (by simp) ?_
   try simp [F1]
   and_intros
   try any_goals first | omega | (simp [maxLen, F1] <;> omega)
   obtain ⟨v15, v16, h4, hF⟩ := bnd2_elim hF
   refine aCall_l (w_made_Dice_Next k _ _ _ _ _ h4) (by simp) [0] [] [0] rfl (.cons (.same (by simp [F1])) (.cons (.same (by simp [F1])) .nil)) (by simp [F1]) (by decide) (by simp) (by simp) (.inl rfl) (by simp) (by simp) ?_
   try simp [F1]
   and_intros <;> first | exact g _ (by kernel_rfl) | refine r _ _ _ ?_ | omega | (simp [maxLen, F1] <;> omega)
   refine hK14 _ _ _ ?_
   exact JN ((v13, v15, v16)) hF (by simp [F1]) (by simp [F1])
  ·replace hF := ite_f h2 hF
   have h2q : (IntKind.wrap .i64 (1 + v8)) = 1 := Classical.not_not.1 h2
   have h2_ := eqb_t h2q
   have h2__ := neb_f h2q
   have F2 := And.intro h2_ (And.intro h2__ h2q)
   refine CF (by simp [F2] <;> omega) ?_
   refine AW.skip ?_
   refine hK14 _ _ _ ?_
   exact JN ((0, 0, v9)) hF (by simp [F2]) (by simp [F2])
 ·rintro ⟨v10, v11, v12⟩ hF
  try dsimp only at hF
  unfold mill_Case.J1 at hF
  refine SQ [] [none, none] fun _ _ g r => ?_
  try simp
  and_intros <;> first | exact g _ (by kernel_rfl) | refine r _ _ _ ?_ | omega | (simp [maxLen] <;> omega)
  refine WK [(4, AV.ptr 1 0)] [(0, .cells [Lz v0, Iz v12]), (1, .cells [Iz v2, Iz (IntKind.wrap .i64 (1 + v8)), Iz v10, Iz v11])] 3 (by simp) (by simp) ?_
  simp only [Option.some.injEq, Prod.mk.injEq] at hF
  obtain ⟨e0, e1, e2, e3, e4⟩ := hF
  subst e0 e1 e2 e3 e4
  refine AW.ret (hQ _ _ _ ?_ (matchO_0 ?_)).1
  ·simp [Try.f12]
  ·simp
theorem w_made_Dice_Of (k : Nat) (v0 : (List Int)) (v1 : Int) (v2 : (List Int)) (v3 : Int) (v4 : Int) (hF : made_Dice_Of k v0 v1 v2 = some (v3, v4)) :
  FCall Try.prog 16 [AV.ptr 0 0, AV.lst false false (List.map (AV.int .i64) v2)] [.cells [AV.lst false false (List.map (AV.int .i64) v0), AV.int .i64 v1]] (AV.int .i64 v3) [some (.cells [AV.lst false false (List.map (AV.int .i64) v0), AV.int .i64 v4])] := by
 unfold made_Dice_Of at hF
 refine EN Try.func16 ?_
 intro c0 w0 Q h0 hQ
 refine WK [(0, AV.ptr 0 0), (1, Lz v2)] [(0, .cells [Lz v0, Iz v1])] 1 (by simp) (by simp) ?_
 refine SQ [] [none] fun _ _ g r => ?_
 try simp
 and_intros <;> first | exact g _ (by kernel_rfl) | refine r _ _ _ ?_ | omega | (simp [maxLen] <;> omega)
 refine WK [(0, AV.ptr 0 0), (1, Lz v2)] [(0, .cells [Lz v0, Iz v1])] 1 (by simp) (by simp) ?_
 refine SQ [] [none, none, none, none, none, none, none, none] fun _ _ g r => ?_
 try simp
 and_intros
 try any_goals first | omega | (simp [maxLen] <;> omega)
 obtain ⟨v5, v6, h1, hF⟩ := bnd2_elim hF
 refine aCall_l (w_made_Dice_Next k _ _ _ _ _ h1) (by simp) [0] [] [0] rfl (.cons (.same (by simp)) (.cons (.same (by simp)) .nil)) (by simp) (by decide) (by simp) (by simp) (.inl rfl) (by simp) (by simp) ?_
 obtain ⟨v7, h2, h3, h4, hF⟩ := idx_elim hF
 have h4_ := get_of h4
 try simp at h4_
 have h3_ := h3
 try simp at h3_
 have F1 := And.intro h2 (And.intro h3 (And.intro h4 (And.intro h4_ h3_)))
 try simp [F1]
 and_intros <;> first | exact g _ (by kernel_rfl) | refine r _ _ _ ?_ | omega | (simp [maxLen, F1] <;> omega)
 refine WK [(4, Iz v7)] [(0, .cells [Lz v0, Iz v6])] 1 (by simp [F1]) (by simp [F1]) ?_
 simp only [Option.some.injEq, Prod.mk.injEq] at hF
 obtain ⟨e0, e1⟩ := hF
 subst e0 e1
 refine AW.ret (hQ _ _ _ ?_ (matchO_0 ?_)).1
 ·simp [Try.f16, F1]
 ·simp [F1]
theorem w_made_Dice_One (k : Nat) (v0 : (List Int)) (v1 : Int) (v2 : Int) (v3 : Bool) (v4 : Int) (hF : made_Dice_One k v0 v1 v2 = some (v3, v4)) :
  FCall Try.prog 33 [AV.ptr 0 0, AV.int .i64 v2] [.cells [AV.lst false false (List.map (AV.int .i64) v0), AV.int .i64 v1]] (AV.bool v3) [some (.cells [AV.lst false false (List.map (AV.int .i64) v0), AV.int .i64 v4])] := by
 unfold made_Dice_One at hF
 refine EN Try.func33 ?_
 intro c0 w0 Q h0 hQ
 refine WK [(0, AV.ptr 0 0), (1, Iz v2)] [(0, .cells [Lz v0, Iz v1])] 1 (by simp) (by simp) ?_
 refine SQ [] [none] fun _ _ g r => ?_
 try simp
 and_intros <;> first | exact g _ (by kernel_rfl) | refine r _ _ _ ?_ | omega | (simp [maxLen] <;> omega)
 refine WK [(0, AV.ptr 0 0), (1, Iz v2)] [(0, .cells [Lz v0, Iz v1])] 1 (by simp) (by simp) ?_
 refine SQ [] [none, none, none, none, none, none, none] fun _ _ g r => ?_
 try simp
 and_intros
 try any_goals first | omega | (simp [maxLen] <;> omega)
 obtain ⟨v5, v6, h1, hF⟩ := bnd2_elim hF
 refine aCall_l (w_made_Dice_Next k _ _ _ _ _ h1) (by simp) [0] [] [0] rfl (.cons (.same (by simp)) (.cons (.same (by simp)) .nil)) (by simp) (by decide) (by simp) (by simp) (.inl rfl) (by simp) (by simp) ?_
 try simp
 and_intros <;> first | exact g _ (by kernel_rfl) | refine r _ _ _ ?_ | omega | (simp [maxLen] <;> omega)
 refine WK [(4, AV.bool (v5 == (IntKind.wrap .i64 (v2 - 1))))] [(0, .cells [Lz v0, Iz v6])] 1 (by simp) (by simp) ?_
 simp only [Option.some.injEq, Prod.mk.injEq] at hF
 obtain ⟨e0, e1⟩ := hF
 subst e0 e1
 refine AW.ret (hQ _ _ _ ?_ (matchO_0 ?_)).1
 ·simp [Try.f33]
 ·simp
theorem w_made_Dice_Digest (k : Nat) (v0 : (List Int)) (v1 : Int) (v2 : ByteArray) (v3 : Int) (hF : made_Dice_Digest k v0 v1 = some (v2, v3)) :
  FCall Try.prog 20 [AV.ptr 0 0] [.cells [AV.lst false false (List.map (AV.int .i64) v0), AV.int .i64 v1]] (AV.str v2) [some (.cells [AV.lst false false (List.map (AV.int .i64) v0), AV.int .i64 v3])] := by
 unfold made_Dice_Digest at hF
 refine EN Try.func20 ?_
 intro c0 w0 Q h0 hQ
 refine WK [(0, AV.ptr 0 0)] [(0, .cells [Lz v0, Iz v1])] 1 (by simp [-List.reduceReplicate, sOf_set, ofI_set, allU8_set]) (by simp [-List.reduceReplicate, sOf_set, ofI_set, allU8_set]) ?_
 refine SQ [] [none] fun _ _ g r => ?_
 try simp [-List.reduceReplicate, sOf_set, ofI_set, allU8_set]
 and_intros <;> first | exact g _ (by kernel_rfl) | refine r _ _ _ ?_ | omega | (simp [-List.reduceReplicate, sOf_set, ofI_set, allU8_set, maxLen] <;> omega)
 refine WK [(0, AV.ptr 0 0)] [(0, .cells [Lz v0, Iz v1])] 1 (by simp [-List.reduceReplicate, sOf_set, ofI_set, allU8_set]) (by simp [-List.reduceReplicate, sOf_set, ofI_set, allU8_set]) ?_
 refine SQ [4] [none, none] fun _ _ g r => ?_
 obtain ⟨h1, hF⟩ := chk_elim hF
 obtain ⟨v4, h2, hF⟩ := let1_elim hF
 have h2l : v4.length = 32 := by rw [← h2]; exact List.length_replicate
 have h2m : List.replicate 32 (AV.int .u8 0) = List.map (AV.int .u8) v4 := by rw [← h2]; exact (List.map_replicate ..).symm
 have h2n := ne_of_len h2l (by decide)
 have F1 := And.intro h1 (And.intro h2l (And.intro h2m h2n))
 try simp [-List.reduceReplicate, sOf_set, ofI_set, allU8_set, F1]
 and_intros <;> first | exact g _ (by kernel_rfl) | refine r _ _ _ ?_ | omega | (simp [-List.reduceReplicate, sOf_set, ofI_set, allU8_set, maxLen, F1] <;> omega)
 refine WK [(0, AV.ptr 0 0), (3, AV.slc 1 0 1 v4.length true)] [(0, .cells [Lz v0, Iz v1]), (1, .cells (List.map (AV.int .u8) v4))] 2 (by simp [-List.reduceReplicate, sOf_set, ofI_set, allU8_set, F1]) (by simp [-List.reduceReplicate, sOf_set, ofI_set, allU8_set, F1]) ?_
 refine SQ [] [none, none, none, none, none, none, none, none, none, none, none, none] fun _ _ g r => ?_
 try simp [-List.reduceReplicate, sOf_set, ofI_set, allU8_set, F1]
 and_intros
 try any_goals first | omega | (simp [-List.reduceReplicate, sOf_set, ofI_set, allU8_set, maxLen, F1] <;> omega)
 obtain ⟨v5, v6, h3, hF⟩ := bnd2_elim hF
 refine aCall_l (w_made_Dice_Next k _ _ _ _ _ h3) (by simp) [0] [] [0] rfl (.cons (.same (by simp [-List.reduceReplicate, sOf_set, ofI_set, allU8_set, F1])) (.cons (.same (by simp [-List.reduceReplicate, sOf_set, ofI_set, allU8_set, F1])) .nil)) (by simp [-List.reduceReplicate, sOf_set, ofI_set, allU8_set, F1]) (by decide) (by simp) (by simp) (.inl rfl) (by simp) (by simp) ?_
 try simp [-List.reduceReplicate, sOf_set, ofI_set, allU8_set, F1]
 and_intros
 try any_goals first | omega | (simp [-List.reduceReplicate, sOf_set, ofI_set, allU8_set, maxLen, F1] <;> omega)
 obtain ⟨v7, v8, h4, hF⟩ := bnd2_elim hF
 refine aCall_l (w_made_Dice_Next k _ _ _ _ _ h4) (by simp) [0] [] [0] rfl (.cons (.same (by simp [-List.reduceReplicate, sOf_set, ofI_set, allU8_set, F1])) (.cons (.same (by simp [-List.reduceReplicate, sOf_set, ofI_set, allU8_set, F1])) .nil)) (by simp [-List.reduceReplicate, sOf_set, ofI_set, allU8_set, F1]) (by decide) (by simp) (by simp) (.inl rfl) (by simp) (by simp) ?_
 obtain ⟨⟨h5, h6⟩, hF⟩ := chk_elim hF
 have h6_ := ne_of_lt h6
 obtain ⟨⟨h7, h8⟩, hF⟩ := chk_elim hF
 have h8_ := ne_of_lt h8
 have F2 := And.intro F1 (And.intro h5 (And.intro h6 (And.intro h6_ (And.intro h7 (And.intro h8 h8_)))))
 try simp [-List.reduceReplicate, sOf_set, ofI_set, allU8_set, F2]
 and_intros <;> first | exact g _ (by kernel_rfl) | refine r _ _ _ ?_ | omega | (simp [-List.reduceReplicate, sOf_set, ofI_set, allU8_set, maxLen, F2] <;> omega)
 refine WK [(3, AV.slc 1 0 1 (((v4.set (0 : Int).toNat (IntKind.wrap .u8 v5)).set (31 : Int).toNat (IntKind.wrap .u8 v7)).length) true)] [(0, .cells [Lz v0, Iz v8]), (1, .cells (List.map (AV.int .u8) ((v4.set (0 : Int).toNat (IntKind.wrap .u8 v5)).set (31 : Int).toNat (IntKind.wrap .u8 v7))))] 2 (by simp [-List.reduceReplicate, sOf_set, ofI_set, allU8_set, F2]) (by simp [-List.reduceReplicate, sOf_set, ofI_set, allU8_set, F2]) ?_
 refine AW.frz 1 (o := .cells (List.map (AV.int .u8) ((v4.set (0 : Int).toNat (IntKind.wrap .u8 v5)).set (31 : Int).toNat (IntKind.wrap .u8 v7)))) (by simp [-List.reduceReplicate, sOf_set, ofI_set, allU8_set, F2]) rfl [(3, AV.lst false true (List.map (AV.int .u8) ((v4.set (0 : Int).toNat (IntKind.wrap .u8 v5)).set (31 : Int).toNat (IntKind.wrap .u8 v7))))] [] ⟨(.l (by simp [-List.map_set]) (by simp [-List.map_set]) (by simp [-List.map_set]) (by simp [-List.map_set])), trivial⟩ trivial ?_
 refine WK [(3, AV.lst false true (List.map (AV.int .u8) ((v4.set (0 : Int).toNat (IntKind.wrap .u8 v5)).set (31 : Int).toNat (IntKind.wrap .u8 v7))))] [(0, .cells [Lz v0, Iz v8])] 2 (by simp [-List.reduceReplicate, sOf_set, ofI_set, allU8_set, F2]) (by simp [-List.reduceReplicate, sOf_set, ofI_set, allU8_set, F2]) ?_
 refine SQ [] [none, none, none] fun _ _ g r => ?_
 try simp [-List.reduceReplicate, sOf_set, ofI_set, allU8_set, F2]
 and_intros <;> first | exact g _ (by kernel_rfl) | refine r _ _ _ ?_ | omega | (simp [-List.reduceReplicate, sOf_set, ofI_set, allU8_set, maxLen, F2] <;> omega)
 refine WK [(2, AV.str (ofI ((v4.set (0 : Int).toNat (IntKind.wrap .u8 v5)).set (31 : Int).toNat (IntKind.wrap .u8 v7))))] [(0, .cells [Lz v0, Iz v8])] 2 (by simp [-List.reduceReplicate, sOf_set, ofI_set, allU8_set, F2]) (by simp [-List.reduceReplicate, sOf_set, ofI_set, allU8_set, F2]) ?_
 simp only [Option.some.injEq, Prod.mk.injEq] at hF
 obtain ⟨e0, e1⟩ := hF
 subst e0 e1
 refine AW.ret (hQ _ _ _ ?_ (matchO_0 ?_)).1
 ·simp [Try.f20, F2]
 ·simp [F2]
abbrev c_mill_Content  : AObj := .cells [AV.lst true true (List.map (AV.int .i64) ([] : List Int)), AV.lst true true (List.map api_Pin.av ([] : List api_Pin))]
theorem w_mill_Content (k : Nat) (v0 : (List Int)) (v1 : Int) (v2 : Int) (v3 : Int) (v4 : Int) (v5 : Int) (v6 : (List Int)) (v7 : (List api_Pin)) (v8 : Int) (hF : mill_Content k v0 v1 v2 v3 v4 v5 = some (v6, v7, v8)) :
  FCall Try.prog 15 [AV.ptr 0 0, AV.agg [AV.int .i64 v2, AV.int .i64 v3, AV.int .i64 v4, AV.int .i64 v5]] [.cells [AV.lst false false (List.map (AV.int .i64) v0), AV.int .i64 v1]] (AV.agg [AV.lst false false (List.map (AV.int .i64) v6), AV.lst false false (List.map api_Pin.av v7)]) [some (.cells [AV.lst false false (List.map (AV.int .i64) v0), AV.int .i64 v8])] := by
 unfold mill_Content at hF
 refine EN Try.func15 ?_
 intro c0 w0 Q h0 hQ
 refine WK [(0, AV.ptr 0 0), (1, AV.agg [Iz v2, Iz v3, Iz v4, Iz v5])] [(0, .cells [Lz v0, Iz v1])] 1 (by simp) (by simp) ?_
 refine SQ [] [none, none] fun _ _ g r => ?_
 try simp
 and_intros <;> first | exact g _ (by kernel_rfl) | refine r _ _ _ ?_ | omega | (simp [maxLen] <;> omega)
 refine WK [(0, AV.ptr 0 0), (3, AV.ptr 1 0), (4, AV.ptr 2 0)] [(0, .cells [Lz v0, Iz v1]), (1, .cells [Iz v2, Iz v3, Iz v4, Iz v5]), (2, c_mill_Content )] 3 (by simp) (by simp) ?_
 refine AW.seq fun K17 hK17 => ?_
 refine SQ [] [none, none, none] fun _ _ g r => ?_
 try simp
 and_intros <;> first | exact g _ (by kernel_rfl) | refine r _ _ _ ?_ | omega | (simp [maxLen] <;> omega)
 refine WK [(0, AV.ptr 0 0), (4, AV.ptr 2 0), (8, AV.bool (v3 != 1))] [(0, .cells [Lz v0, Iz v1]), (2, c_mill_Content )] 3 (by simp) (by simp) ?_
 by_cases h1 : v3 ≠ 1
 ·replace hF := ite_t h1 hF
  have h1_ := eqb_f h1
  have h1__ := neb_t h1
  have F1 := And.intro h1 (And.intro h1_ h1__)
  refine CT (by simp [F1] <;> omega) ?_
  refine SQ [] [none, none, none, none, none] fun _ _ g r => ?_
  try simp [F1]
  and_intros
  try any_goals first | omega | (simp [maxLen, F1] <;> omega)
  obtain ⟨v9, v10, h2, hF⟩ := bnd2_elim hF
  refine aCall_l (w_made_Dice_Next k _ _ _ _ _ h2) (by simp) [0] [] [0] rfl (.cons (.same (by simp [F1])) (.cons (.same (by simp [F1])) .nil)) (by simp [F1]) (by decide) (by simp) (by simp) (.inl rfl) (by simp) (by simp) ?_
  try simp [F1]
  and_intros <;> first | exact g _ (by kernel_rfl) | refine r _ _ _ ?_ | omega | (simp [maxLen, F1] <;> omega)
  refine WK [(4, AV.ptr 2 0)] [(0, .cells [Lz v0, Iz v10]), (2, .cells [AV.lst false true (List.map (AV.int .i64) ([v9] : List Int)), AV.lst true true (List.map api_Pin.av ([] : List api_Pin))])] 3 (by simp [F1]) (by simp [F1]) ?_
  refine AW.rnm (m := 1) h0 [(0, 0), (1, 2)] [(4, AV.ptr 1 0)] [(0, .cells [Lz v0, Iz v10]), (1, .cells [AV.lst false true (List.map (AV.int .i64) ([v9] : List Int)), AV.lst true true (List.map api_Pin.av ([] : List api_Pin))])] 2 (by decide) (by decide) (by decide) rfl (by simp [F1]) (by simp [F1]) ?_
  refine AW.flg [] [(1, .cells [Lz ([v9] : List Int), AV.lst false false (List.map api_Pin.av ([] : List api_Pin))])] trivial ⟨⟨AObj.cells [AV.lst false true (List.map (AV.int .i64) ([v9] : List Int)), AV.lst true true (List.map api_Pin.av ([] : List api_Pin))], by simp [F1], (.mk (.cons (.lst (by simp)) (.cons (.lst (by simp)) .nil)))⟩, trivial⟩ (by simp) ?_
  simp only [Option.some.injEq, Prod.mk.injEq] at hF
  obtain ⟨e0, e1, e2⟩ := hF
  subst e0 e1 e2
  refine AW.ret (hQ _ _ _ ?_ (matchO_0 ?_)).1
  ·simp [Try.f15, F1]
  ·simp [F1]
 ·replace hF := ite_f h1 hF
  have h1q : v3 = 1 := Classical.not_not.1 h1
  have h1_ := eqb_t h1q
  have h1__ := neb_f h1q
  have F2 := And.intro h1_ (And.intro h1__ h1q)
  refine CF (by simp [F2] <;> omega) ?_
  refine AW.skip ?_
  refine hK17 _ _ _ ?_
  refine SQ [] [none, none, none, none, none, none, none, none, none, none] fun _ _ g r => ?_
  try simp [F2]
  and_intros
  try any_goals first | omega | (simp [maxLen, F2] <;> omega)
  obtain ⟨v11, v12, h3, hF⟩ := bnd2_elim hF
  refine aCall_l (w_made_Dice_Next k _ _ _ _ _ h3) (by simp) [0] [] [0] rfl (.cons (.same (by simp [F2])) (.cons (.same (by simp [F2])) .nil)) (by simp [F2]) (by decide) (by simp) (by simp) (.inl rfl) (by simp) (by simp) ?_
  try simp [F2]
  and_intros
  try any_goals first | omega | (simp [maxLen, F2] <;> omega)
  obtain ⟨v13, v14, h4, hF⟩ := bnd2_elim hF
  refine aCall_l (w_made_Dice_Of k _ _ _ _ _ h4) (by simp) [0] [] [0] rfl (.cons (.same (by simp [F2])) (.cons (Coe.fl (by simp [F2])) .nil)) (by simp [F2]) (by decide) (by simp) (by simp) (.inl rfl) (by simp) (by simp) ?_
  try simp [F2]
  and_intros <;> first | exact g _ (by kernel_rfl) | refine r _ _ _ ?_ | omega | (simp [maxLen, F2] <;> omega)
  refine WK [(0, AV.ptr 0 0), (4, AV.ptr 2 0), (5, AV.ptr 3 0)] [(0, .cells [Lz v0, Iz v14]), (2, c_mill_Content ), (3, .cells [AV.lst false true (List.map (AV.int .i64) ([IntKind.wrap .i64 (1 + v11), v13] : List Int)), AV.lst true true (List.map api_Pin.av ([] : List api_Pin))])] 4 (by simp [F2]) (by simp [F2]) ?_
  refine AW.midF (α := ((List api_Pin) × Int)) (fun (v15, v16) => mill_Content.J1 k v11 v13 v15 v16 = some (v6, v7, v8)) (fun (v15, v16) => [(4, AV.ptr 1 0), (5, AV.ptr 2 0)]) (fun (v15, v16) => [(0, .cells [Lz v0, Iz v16]), (1, c_mill_Content ), (2, .cells [AV.lst false true (List.map (AV.int .i64) ([IntKind.wrap .i64 (1 + v11), v13] : List Int)), AV.lst false false (List.map api_Pin.av v15)])]) 3 (fun K24 hK24 => ?_) ?_
  ·refine SQ [] [none, none] fun _ _ g r => ?_
   try simp [F2]
   and_intros
   try any_goals first | omega | (simp [maxLen, F2] <;> omega)
   obtain ⟨v17, v18, h5, hF⟩ := bnd2_elim hF
   refine aCall_l (w_made_Dice_One k _ _ _ _ _ h5) (by simp) [0] [] [0] rfl (.cons (.same (by simp [F2])) (.cons (.same (by simp [F2])) .nil)) (by simp [F2]) (by decide) (by simp) (by simp) (.inl rfl) (by simp) (by simp) ?_
   try simp [F2]
   and_intros <;> first | exact g _ (by kernel_rfl) | refine r _ _ _ ?_ | omega | (simp [maxLen, F2] <;> omega)
   refine WK [(0, AV.ptr 0 0), (4, AV.ptr 2 0), (5, AV.ptr 3 0), (22, AV.bool v17)] [(0, .cells [Lz v0, Iz v18]), (2, c_mill_Content ), (3, .cells [AV.lst false true (List.map (AV.int .i64) ([IntKind.wrap .i64 (1 + v11), v13] : List Int)), AV.lst true true (List.map api_Pin.av ([] : List api_Pin))])] 4 (by simp [F2]) (by simp [F2]) ?_
   by_cases h6 : v17 = true
   ·replace hF := ite_t h6 hF
    have h6_ := h6
    try simp at h6_
    have F3 := And.intro F2 (And.intro h6 h6_)
    refine CT (by simp [F3] <;> omega) ?_
    refine RG [] [none, none, none, none, none, none, none, none, none, none, none] fun _ _ g r => ?_
    try simp [F3]
    and_intros
    try any_goals first | omega | (simp [maxLen, F3] <;> omega)
    obtain ⟨v19, v20, h7, hF⟩ := bnd2_elim hF
    refine aCall_l (w_made_Dice_Next k _ _ _ _ _ h7) (by simp) [0] [] [0] rfl (.cons (.same (by simp [F3])) (.cons (.same (by simp [F3])) .nil)) (by simp [F3]) (by decide) (by simp) (by simp) (.inl rfl) (by simp) (by simp) ?_
    try simp [F3]
    and_intros
    try any_goals first | omega | (simp [maxLen, F3] <;> omega)
    obtain ⟨v21, v22, h8, hF⟩ := bnd2_elim hF
    refine aCall_l (w_made_Dice_Next k _ _ _ _ _ h8) (by simp) [0] [] [0] rfl (.cons (.same (by simp [F3])) (.cons (.same (by simp [F3])) .nil)) (by simp [F3]) (by decide) (by simp) (by simp) (.inl rfl) (by simp) (by simp) ?_
    try simp [F3]
    and_intros
    try any_goals first | omega | (simp [maxLen, F3] <;> omega)
    obtain ⟨v23, v24, h9, hF⟩ := bnd2_elim hF
    refine aCall_l (w_made_Dice_Digest k _ _ _ _ h9) (by simp) [0] [] [0] rfl (.cons (.same (by simp [F3])) .nil) (by simp [F3]) (by decide) (by simp) (by simp) (.inl rfl) (by simp) (by simp) ?_
    try simp [F3]
    and_intros <;> first | exact g _ (by kernel_rfl) | refine r _ _ _ ?_ | omega | (simp [maxLen, F3] <;> omega)
    refine hK24 _ _ _ ?_
    refine Can.weak [(4, AV.ptr 2 0), (5, AV.ptr 3 0)] [(0, .cells [Lz v0, Iz v24]), (2, c_mill_Content ), (3, .cells [AV.lst false true (List.map (AV.int .i64) ([IntKind.wrap .i64 (1 + v11), v13] : List Int)), AV.lst false true (List.map api_Pin.av ([(api_Pin.mk v19 (IntKind.wrap .i64 (1 + v21)) v23)] : List api_Pin))])] 4 (by simp [F3]) (by simp [F3]) (by simp) ?_
    refine Can.ren (m := 1) h0 [(0, 0), (1, 2), (2, 3)] [(4, AV.ptr 1 0), (5, AV.ptr 2 0)] [(0, .cells [Lz v0, Iz v24]), (1, c_mill_Content ), (2, .cells [AV.lst false true (List.map (AV.int .i64) ([IntKind.wrap .i64 (1 + v11), v13] : List Int)), AV.lst false true (List.map api_Pin.av ([(api_Pin.mk v19 (IntKind.wrap .i64 (1 + v21)) v23)] : List api_Pin))])] 3 (by decide) (by decide) (by decide) rfl (by simp [F3]) (by simp [F3]) ?_
    refine Can.flg [] [(2, .cells [AV.lst false true (List.map (AV.int .i64) ([IntKind.wrap .i64 (1 + v11), v13] : List Int)), AV.lst false false (List.map api_Pin.av ([(api_Pin.mk v19 (IntKind.wrap .i64 (1 + v21)) v23)] : List api_Pin))])] trivial ⟨⟨AObj.cells [AV.lst false true (List.map (AV.int .i64) ([IntKind.wrap .i64 (1 + v11), v13] : List Int)), AV.lst false true (List.map api_Pin.av ([(api_Pin.mk v19 (IntKind.wrap .i64 (1 + v21)) v23)] : List api_Pin))], by simp [F3], (.mk (.cons (.same _) (.cons (.lst (by simp)) .nil)))⟩, trivial⟩ (by simp) ?_
    exact JN ((([(api_Pin.mk v19 (IntKind.wrap .i64 (1 + v21)) v23)] : List api_Pin), v24)) hF (by simp [F3]) (by simp [F3])
   ·replace hF := ite_f h6 hF
    have h6_ := h6
    try simp at h6_
    have F4 := And.intro F2 (And.intro h6 h6_)
    refine CF (by simp [F4] <;> omega) ?_
    refine AW.skip ?_
    refine hK24 _ _ _ ?_
    refine Can.ren (m := 1) h0 [(0, 0), (1, 2), (2, 3)] [(4, AV.ptr 1 0), (5, AV.ptr 2 0)] [(0, .cells [Lz v0, Iz v18]), (1, c_mill_Content ), (2, .cells [AV.lst false true (List.map (AV.int .i64) ([IntKind.wrap .i64 (1 + v11), v13] : List Int)), AV.lst true true (List.map api_Pin.av ([] : List api_Pin))])] 3 (by decide) (by decide) (by decide) rfl (by simp [F4]) (by simp [F4]) ?_
    refine Can.flg [] [(2, .cells [AV.lst false true (List.map (AV.int .i64) ([IntKind.wrap .i64 (1 + v11), v13] : List Int)), AV.lst false false (List.map api_Pin.av ([] : List api_Pin))])] trivial ⟨⟨AObj.cells [AV.lst false true (List.map (AV.int .i64) ([IntKind.wrap .i64 (1 + v11), v13] : List Int)), AV.lst true true (List.map api_Pin.av ([] : List api_Pin))], by simp [F4], (.mk (.cons (.same _) (.cons (.lst (by simp)) .nil)))⟩, trivial⟩ (by simp) ?_
    exact JN ((([] : List api_Pin), v18)) hF (by simp [F4]) (by simp [F4])
  ·rintro ⟨v15, v16⟩ hF
   try dsimp only at hF
   unfold mill_Content.J1 at hF
   refine SQ [] [none, none] fun _ _ g r => ?_
   try simp [F2]
   and_intros <;> first | exact g _ (by kernel_rfl) | refine r _ _ _ ?_ | omega | (simp [maxLen, F2] <;> omega)
   refine WK [(4, AV.ptr 1 0)] [(0, .cells [Lz v0, Iz v16]), (1, .cells [AV.lst false true (List.map (AV.int .i64) ([IntKind.wrap .i64 (1 + v11), v13] : List Int)), AV.lst false false (List.map api_Pin.av v15)])] 3 (by simp [F2]) (by simp [F2]) ?_
   refine AW.flg [] [(1, .cells [Lz ([IntKind.wrap .i64 (1 + v11), v13] : List Int), AV.lst false false (List.map api_Pin.av v15)])] trivial ⟨⟨AObj.cells [AV.lst false true (List.map (AV.int .i64) ([IntKind.wrap .i64 (1 + v11), v13] : List Int)), AV.lst false false (List.map api_Pin.av v15)], by simp [F2], (.mk (.cons (.lst (by simp)) (.cons (.same _) .nil)))⟩, trivial⟩ (by simp) ?_
   simp only [Option.some.injEq, Prod.mk.injEq] at hF
   obtain ⟨e0, e1, e2⟩ := hF
   subst e0 e1 e2
   refine AW.ret (hQ _ _ _ ?_ (matchO_0 ?_)).1
   ·simp [Try.f15, F2]
   ·simp [F2]
theorem w_ref23_Valid (k : Nat) (v0 : Int) (v1 : Int) (v2 : Int) (v3 : Int) (v4 : Bool) (hF : ref23_Valid k v0 v1 v2 v3 = some v4) :
  FCall Try.prog 25 [AV.agg [AV.int .i64 v0, AV.int .i64 v1, AV.int .i64 v2, AV.int .i64 v3]] [] (AV.bool v4) [] := by
 unfold ref23_Valid at hF
 refine EN Try.func25 ?_
 intro c0 w0 Q h0 hQ
 refine WK [(0, AV.agg [Iz v0, Iz v1, Iz v2, Iz v3])] [] 0 (by simp) (by simp) ?_
 refine SQ [] [none, none] fun _ _ g r => ?_
 try simp
 and_intros <;> first | exact g _ (by kernel_rfl) | refine r _ _ _ ?_ | omega | (simp [maxLen] <;> omega)
 refine WK [(1, AV.ptr 0 0)] [(0, .cells [Iz v0, Iz v1, Iz v2, Iz v3])] 1 (by simp) (by simp) ?_
 refine AW.seq fun K45 hK45 => ?_
 refine SQ [] [none, none, none, none, some (6, false), some (6, false), some (6, false), none, none, some (11, false), some (11, false), some (11, false), none, none, some (16, false), some (16, false), some (16, false), none, none, some (21, false), some (21, false), some (21, false), none, none, some (26, false), some (26, false), some (26, false), none] fun _ _ g r => ?_
 by_cases h1 : v0 < 0
 ·replace hF := ite_t h1 hF
  have h1_ := h1
  try simp at h1_
  try simp [h1, h1_]
  and_intros <;> first | exact g _ (by kernel_rfl) | refine r _ _ _ ?_ | omega | (simp [h1, h1_, maxLen] <;> omega)
  refine WK [(1, AV.ptr 0 0), (30, AV.bool true)] [(0, .cells [Iz v0, Iz v1, Iz v2, Iz v3])] 1 (by simp [h1, h1_]) (by simp [h1, h1_]) ?_
  refine CT (by simp [h1, h1_]) ?_
  refine SQ [] [none] fun _ _ g r => ?_
  try simp [h1, h1_]
  and_intros <;> first | exact g _ (by kernel_rfl) | refine r _ _ _ ?_ | omega | (simp [h1, h1_, maxLen] <;> omega)
  refine WK [(2, AV.bool false)] [] 1 (by simp [h1, h1_]) (by simp [h1, h1_]) ?_
  simp only [Option.some.injEq] at hF
  subst hF
  refine AW.ret (hQ _ _ _ ?_ (matchO_0 ?_)).1
  ·simp [Try.f25, h1, h1_]
  ·simp [h1, h1_]
 ·replace hF := ite_f h1 hF
  have h1_ := h1
  try simp at h1_
  by_cases h2 : 40 ≤ v0
  ·replace hF := ite_t h2 hF
   have h2_ := h2
   try simp at h2_
   have F1 := And.intro h1 (And.intro h1_ (And.intro h2 h2_))
   try simp [F1]
   and_intros <;> first | exact g _ (by kernel_rfl) | refine r _ _ _ ?_ | omega | (simp [maxLen, F1] <;> omega)
   refine WK [(1, AV.ptr 0 0), (30, AV.bool true)] [(0, .cells [Iz v0, Iz v1, Iz v2, Iz v3])] 1 (by simp [F1]) (by simp [F1]) ?_
   refine CT (by simp [F1]) ?_
   refine SQ [] [none] fun _ _ g r => ?_
   try simp [F1]
   and_intros <;> first | exact g _ (by kernel_rfl) | refine r _ _ _ ?_ | omega | (simp [maxLen, F1] <;> omega)
   refine WK [(2, AV.bool false)] [] 1 (by simp [F1]) (by simp [F1]) ?_
   simp only [Option.some.injEq] at hF
   subst hF
   refine AW.ret (hQ _ _ _ ?_ (matchO_0 ?_)).1
   ·simp [Try.f25, F1]
   ·simp [F1]
  ·replace hF := ite_f h2 hF
   have h2_ := h2
   try simp at h2_
   by_cases h3 : v2 < 0
   ·replace hF := ite_t h3 hF
    have h3_ := h3
    try simp at h3_
    have F2 := And.intro h1 (And.intro h1_ (And.intro h2 (And.intro h2_ (And.intro h3 h3_))))
    try simp [F2]
    and_intros <;> first | exact g _ (by kernel_rfl) | refine r _ _ _ ?_ | omega | (simp [maxLen, F2] <;> omega)
    refine WK [(1, AV.ptr 0 0), (30, AV.bool true)] [(0, .cells [Iz v0, Iz v1, Iz v2, Iz v3])] 1 (by simp [F2]) (by simp [F2]) ?_
    refine CT (by simp [F2]) ?_
    refine SQ [] [none] fun _ _ g r => ?_
    try simp [F2]
    and_intros <;> first | exact g _ (by kernel_rfl) | refine r _ _ _ ?_ | omega | (simp [maxLen, F2] <;> omega)
    refine WK [(2, AV.bool false)] [] 1 (by simp [F2]) (by simp [F2]) ?_
    simp only [Option.some.injEq] at hF
    subst hF
    refine AW.ret (hQ _ _ _ ?_ (matchO_0 ?_)).1
    ·simp [Try.f25, F2]
    ·simp [F2]
   ·replace hF := ite_f h3 hF
    have h3_ := h3
    try simp at h3_
    by_cases h4 : 64 ≤ v2
    ·replace hF := ite_t h4 hF
     have h4_ := h4
     try simp at h4_
     have F3 := And.intro h1 (And.intro h1_ (And.intro h2 (And.intro h2_ (And.intro h3 (And.intro h3_ (And.intro h4 h4_))))))
     try simp [F3]
     and_intros <;> first | exact g _ (by kernel_rfl) | refine r _ _ _ ?_ | omega | (simp [maxLen, F3] <;> omega)
     refine WK [(1, AV.ptr 0 0), (30, AV.bool true)] [(0, .cells [Iz v0, Iz v1, Iz v2, Iz v3])] 1 (by simp [F3]) (by simp [F3]) ?_
     refine CT (by simp [F3]) ?_
     refine SQ [] [none] fun _ _ g r => ?_
     try simp [F3]
     and_intros <;> first | exact g _ (by kernel_rfl) | refine r _ _ _ ?_ | omega | (simp [maxLen, F3] <;> omega)
     refine WK [(2, AV.bool false)] [] 1 (by simp [F3]) (by simp [F3]) ?_
     simp only [Option.some.injEq] at hF
     subst hF
     refine AW.ret (hQ _ _ _ ?_ (matchO_0 ?_)).1
     ·simp [Try.f25, F3]
     ·simp [F3]
    ·replace hF := ite_f h4 hF
     have h4_ := h4
     try simp at h4_
     by_cases h5 : v3 < 0
     ·replace hF := ite_t h5 hF
      have h5_ := h5
      try simp at h5_
      have F4 := And.intro h1 (And.intro h1_ (And.intro h2 (And.intro h2_ (And.intro h3 (And.intro h3_ (And.intro h4 (And.intro h4_ (And.intro h5 h5_))))))))
      try simp [F4]
      and_intros <;> first | exact g _ (by kernel_rfl) | refine r _ _ _ ?_ | omega | (simp [maxLen, F4] <;> omega)
      refine WK [(1, AV.ptr 0 0), (30, AV.bool true)] [(0, .cells [Iz v0, Iz v1, Iz v2, Iz v3])] 1 (by simp [F4]) (by simp [F4]) ?_
      refine CT (by simp [F4]) ?_
      refine SQ [] [none] fun _ _ g r => ?_
      try simp [F4]
      and_intros <;> first | exact g _ (by kernel_rfl) | refine r _ _ _ ?_ | omega | (simp [maxLen, F4] <;> omega)
      refine WK [(2, AV.bool false)] [] 1 (by simp [F4]) (by simp [F4]) ?_
      simp only [Option.some.injEq] at hF
      subst hF
      refine AW.ret (hQ _ _ _ ?_ (matchO_0 ?_)).1
      ·simp [Try.f25, F4]
      ·simp [F4]
     ·replace hF := ite_f h5 hF
      have h5_ := h5
      try simp at h5_
      have F5 := And.intro h1 (And.intro h1_ (And.intro h2 (And.intro h2_ (And.intro h3 (And.intro h3_ (And.intro h4 (And.intro h4_ (And.intro h5 h5_))))))))
      try simp [F5]
      and_intros <;> first | exact g _ (by kernel_rfl) | refine r _ _ _ ?_ | omega | (simp [maxLen, F5] <;> omega)
      refine WK [(1, AV.ptr 0 0), (30, AV.bool (decide (1 < v3)))] [(0, .cells [Iz v0, Iz v1, Iz v2, Iz v3])] 1 (by simp [F5]) (by simp [F5]) ?_
      by_cases h6 : 1 < v3
      ·replace hF := ite_t h6 hF
       have h6_ := h6
       try simp at h6_
       have F6 := And.intro F5 (And.intro h6 h6_)
       refine CT (by simp [F6] <;> omega) ?_
       refine SQ [] [none] fun _ _ g r => ?_
       try simp [F6]
       and_intros <;> first | exact g _ (by kernel_rfl) | refine r _ _ _ ?_ | omega | (simp [maxLen, F6] <;> omega)
       refine WK [(2, AV.bool false)] [] 1 (by simp [F6]) (by simp [F6]) ?_
       simp only [Option.some.injEq] at hF
       subst hF
       refine AW.ret (hQ _ _ _ ?_ (matchO_0 ?_)).1
       ·simp [Try.f25, F6]
       ·simp [F6]
      ·replace hF := ite_f h6 hF
       have h6_ := h6
       try simp at h6_
       have F7 := And.intro F5 (And.intro h6 h6_)
       refine CF (by simp [F7] <;> omega) ?_
       refine AW.skip ?_
       refine hK45 _ _ _ ?_
       refine AW.seq fun K62 hK62 => ?_
       refine SQ [] [none, none] fun _ _ g r => ?_
       try simp [F7]
       and_intros <;> first | exact g _ (by kernel_rfl) | refine r _ _ _ ?_ | omega | (simp [maxLen, F7] <;> omega)
       refine WK [(1, AV.ptr 0 0), (32, Iz v1)] [(0, .cells [Iz v0, Iz v1, Iz v2, Iz v3])] 1 (by simp [F7]) (by simp [F7]) ?_
       refine AW.block ?_
       refine SQ [] [none, none] fun _ _ g r => ?_
       try simp [F7]
       and_intros <;> first | exact g _ (by kernel_rfl) | refine r _ _ _ ?_ | omega | (simp [maxLen, F7] <;> omega)
       refine WK [(1, AV.ptr 0 0), (32, Iz v1), (33, AV.bool (v1 == 1))] [(0, .cells [Iz v0, Iz v1, Iz v2, Iz v3])] 1 (by simp [F7]) (by simp [F7]) ?_
       by_cases h7 : v1 = 1
       ·replace hF := ite_t h7 hF
        have h7q : v1 = 1 := h7
        have h7_ := eqb_t h7q
        have h7__ := neb_f h7q
        refine CT (by simp [F7, h7_, h7__, h7q] <;> omega) ?_
        refine SQ [] [none, none, none, none, some (38, true), some (38, true), some (38, true), none, none] fun _ _ g r => ?_
        by_cases h8 : v2 = 0
        ·replace hF := ite_t h8 hF
         have h8q : v2 = 0 := h8
         have h8_ := eqb_t h8q
         have h8__ := neb_f h8q
         have F8 := And.intro F7 (And.intro h7_ (And.intro h7__ (And.intro h7q (And.intro h8_ (And.intro h8__ h8q)))))
         try simp [F8]
         and_intros <;> first | exact g _ (by kernel_rfl) | refine r _ _ _ ?_ | omega | (simp [maxLen, F8] <;> omega)
         refine WK [(2, AV.bool (v3 == 0))] [] 1 (by simp [F8]) (by simp [F8]) ?_
         simp only [Option.some.injEq] at hF
         subst hF
         refine AW.ret (hQ _ _ _ ?_ (matchO_0 ?_)).1
         ·simp [Try.f25, F8]
         ·simp [F8]
        ·replace hF := ite_f h8 hF
         have h8_ := eqb_f h8
         have h8__ := neb_t h8
         have F9 := And.intro F7 (And.intro h7_ (And.intro h7__ (And.intro h7q (And.intro h8 (And.intro h8_ h8__)))))
         try simp [F9]
         and_intros <;> first | exact g _ (by kernel_rfl) | refine r _ _ _ ?_ | omega | (simp [maxLen, F9] <;> omega)
         refine WK [(2, AV.bool false)] [] 1 (by simp [F9]) (by simp [F9]) ?_
         simp only [Option.some.injEq] at hF
         subst hF
         refine AW.ret (hQ _ _ _ ?_ (matchO_0 ?_)).1
         ·simp [Try.f25, F9]
         ·simp [F9]
       ·replace hF := ite_f h7 hF
        have h7_ := eqb_f h7
        have h7__ := neb_t h7
        have F10 := And.intro F7 (And.intro h7 (And.intro h7_ h7__))
        refine CF (by simp [F10] <;> omega) ?_
        refine AW.midF (α := Bool) (fun v5 => ref23_Valid.J1 k v5 = some v4) (fun v5 => [(43, AV.bool v5)]) (fun v5 => []) 0 (fun K70 hK70 => ?_) ?_
        ·refine SQ [] [none, none] fun _ _ g r => ?_
         try simp [F10]
         and_intros <;> first | exact g _ (by kernel_rfl) | refine r _ _ _ ?_ | omega | (simp [maxLen, F10] <;> omega)
         refine WK [(32, Iz v1), (43, AV.bool (v1 == 2))] [] 1 (by simp [F10]) (by simp [F10]) ?_
         by_cases h10 : v1 = 2
         ·replace hF := ite_t h10 hF
          have h10q : v1 = 2 := h10
          have h10_ := eqb_t h10q
          have h10__ := neb_f h10q
          have F11 := And.intro F10 (And.intro h10_ (And.intro h10__ h10q))
          refine CT (by simp [F11] <;> omega) ?_
          refine AW.skip ?_
          refine hK70 _ _ _ ?_
          refine RN h0 [] [(43, AV.bool true)] [] 0 (by simp [F11]) (by simp [F11]) ?_
          exact JN (true) hF (by simp [F11]) (by simp [F11])
         ·replace hF := ite_f h10 hF
          have h10_ := eqb_f h10
          have h10__ := neb_t h10
          have F12 := And.intro F10 (And.intro h10 (And.intro h10_ h10__))
          refine CF (by simp [F12] <;> omega) ?_
          refine RG [] [none, none] fun _ _ g r => ?_
          try simp [F12]
          and_intros <;> first | exact g _ (by kernel_rfl) | refine r _ _ _ ?_ | omega | (simp [maxLen, F12] <;> omega)
          refine hK70 _ _ _ ?_
          refine RN h0 [] [(43, AV.bool (v1 == 3))] [] 0 (by simp [F12]) (by simp [F12]) ?_
          exact JN ((v1 == 3)) hF (by simp [F12]) (by simp [F12])
        ·rintro v5 hF
         try dsimp only at hF
         unfold ref23_Valid.J1 at hF
         by_cases h9 : v5 = true
         ·replace hF := ite_t h9 hF
          have h9_ := h9
          try simp at h9_
          have F13 := And.intro F10 (And.intro h9 h9_)
          refine CT (by simp [F13] <;> omega) ?_
          refine SQ [] [none] fun _ _ g r => ?_
          try simp [F13]
          and_intros <;> first | exact g _ (by kernel_rfl) | refine r _ _ _ ?_ | omega | (simp [maxLen, F13] <;> omega)
          refine WK [(2, AV.bool true)] [] 0 (by simp [F13]) (by simp [F13]) ?_
          simp only [Option.some.injEq] at hF
          subst hF
          refine AW.ret (hQ _ _ _ ?_ (matchO_0 ?_)).1
          ·simp [Try.f25, F13]
          ·simp [F13]
         ·replace hF := ite_f h9 hF
          have h9_ := h9
          try simp at h9_
          have F14 := And.intro F10 (And.intro h9 h9_)
          refine CF (by simp [F14] <;> omega) ?_
          refine AW.skip ?_
          refine hK62 _ _ _ ?_
          refine SQ [] [none] fun _ _ g r => ?_
          try simp [F14]
          and_intros <;> first | exact g _ (by kernel_rfl) | refine r _ _ _ ?_ | omega | (simp [maxLen, F14] <;> omega)
          refine WK [(2, AV.bool false)] [] 0 (by simp [F14]) (by simp [F14]) ?_
          simp only [Option.some.injEq] at hF
          subst hF
          refine AW.ret (hQ _ _ _ ?_ (matchO_0 ?_)).1
          ·simp [Try.f25, F14]
          ·simp [F14]
end Go.TF
