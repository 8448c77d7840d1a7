/- Walks: the Go text computes the Lean functions (printed by a program of our own). -/
import Derived.Test.YtmiimcogppdepaaHaPu
import Derived.Test.YtmiimcogppdepaaHaAbsT
import Derived.Test.YtmiimcogppdepaaHaWa0
import Derived.Test.YtmiimcogppdepaaHaWa1
import Derived.Test.YtmiimcogppdepaaHaWa3
import Derived.Test.YtmiimcogppdepaaHaWa4
set_option linter.unusedVariables false
set_option linter.unusedSimpArgs false
set_option maxRecDepth 100000
set_option maxHeartbeats 4000000
namespace Go.TF
open Go Go.Abs Go.Proofs Go.Proofs.YtmiimcogppdepaaHaT
theorem w_ref12_All (k : Nat) (v0 : Int) (v1 : (List api_Edge)) (v2 : (List Int)) (v3 : (List Int)) (v4 : (List Int)) (hF : ref12_All k v0 v1 v2 v3 = some v4) :
  FCall Try.prog 53 [AV.agg [AV.int .i64 v0, AV.lst false false (List.map api_Edge.av v1), AV.lst false false (List.map (AV.int .i64) v2)], AV.lst false false (List.map (AV.int .i64) v3)] [] (AV.slc 0 0 1 v4.length false) [some (.grow (List.map (AV.int .i64) v4))] := by
 unfold ref12_All at hF
 refine EN Try.func53 ?_
 intro c0 w0 Q h0 hQ
 refine WK [(0, AV.agg [Iz v0, AV.lst false false (List.map api_Edge.av v1), Lz v2]), (1, Lz v3)] [] 0 (by simp) (by simp) ?_
 refine SQ [] [none, none] fun _ _ g r => ?_
 try simp
 and_intros <;> first | exact g _ (by kernel_rfl) | refine r _ _ _ ?_ | omega | (simp [maxLen] <;> omega)
 refine WK [(1, Lz v3), (2, AV.ptr 0 0)] [(0, .cells [Iz v0, AV.lst false false (List.map api_Edge.av v1), Lz v2])] 1 (by simp) (by simp) ?_
 refine SQ [] [none] fun _ _ g r => ?_
 try simp
 and_intros <;> first | exact g _ (by kernel_rfl) | refine r _ _ _ ?_ | omega | (simp [maxLen] <;> omega)
 refine WK [(1, Lz v3), (2, AV.ptr 0 0), (5, AV.lst true true (List.map (AV.int .i64) ([] : List Int)))] [(0, .cells [Iz v0, AV.lst false false (List.map api_Edge.av v1), Lz v2])] 1 (by simp) (by simp) ?_
 refine AW.seq fun K926 hK926 => ?_
 refine SQ [] [none] fun _ _ g r => ?_
 try simp
 and_intros <;> first | exact g _ (by kernel_rfl) | refine r _ _ _ ?_ | omega | (simp [maxLen] <;> omega)
 refine WK [(1, Lz v3), (2, AV.ptr 0 0), (5, AV.lst true true (List.map (AV.int .i64) ([] : List Int))), (6, Iz 0)] [(0, .cells [Iz v0, AV.lst false false (List.map api_Edge.av v1), Lz v2])] 1 (by simp) (by simp) ?_
 refine AW.block ?_
 refine AW.own' 5 1 true (by simp) (by decide) ?_
 refine AW.loopF (α := (Int × (List Int))) (fun n (v5, v6) => ref12_All.L1 k v0 v1 v2 v3 n v5 v6 = some v4) (fun (v5, v6) => [(1, Lz v3), (2, AV.ptr 0 0), (5, AV.slc 1 0 1 v6.length false), (6, Iz v5)]) (fun (v5, v6) => [(0, .cells [Iz v0, AV.lst false false (List.map api_Edge.av v1), Lz v2]), (1, .grow (List.map (AV.int .i64) v6))]) 2 k ((0, ([] : List Int))) hF (by simp) (by simp) (by simp) ?_
 rintro (_|n1) ⟨v5, v6⟩ hF K961 hK961
 ·try dsimp only at hF
  rw [ref12_All.L1] at hF; cases hF
 try dsimp only at hF
 rw [ref12_All.L1] at hF
 refine AW.seq fun K963 hK963 => ?_
 refine SQ [] [none, none, none, none] fun _ _ g r => ?_
 try simp
 and_intros <;> first | exact g _ (by kernel_rfl) | refine r _ _ _ ?_ | omega | (simp [maxLen] <;> omega)
 refine WK [(1, Lz v3), (2, AV.ptr 0 0), (5, AV.slc 1 0 1 v6.length false), (6, Iz v5), (13, AV.bool (decide (v5 < v0)))] [(0, .cells [Iz v0, AV.lst false false (List.map api_Edge.av v1), Lz v2]), (1, .grow (List.map (AV.int .i64) v6))] 2 (by simp) (by simp) ?_
 by_cases h1 : v5 < v0
 ·replace hF := ite_t h1 hF
  have h1_ := h1
  try simp at h1_
  refine CT (by simp [h1, h1_] <;> omega) ?_
  refine AW.skip ?_
  refine hK963 _ _ _ ?_
  refine AW.midF (α := (List Int)) (fun v7 => ref12_All.J2 k v5 (fun v5_ v6_ => ref12_All.L1 k v0 v1 v2 v3 n1 v5_ v6_) v7 = some v4) (fun v7 => [(1, Lz v3), (2, AV.ptr 0 0), (5, AV.slc 1 0 1 v7.length false), (6, Iz v5)]) (fun v7 => [(0, .cells [Iz v0, AV.lst false false (List.map api_Edge.av v1), Lz v2]), (1, .grow (List.map (AV.int .i64) v7))]) 2 (fun K969 hK969 => ?_) ?_
  ·refine AW.block ?_
   refine SQ [] [none, none, none, none] fun _ _ g r => ?_
   obtain ⟨h2, hF⟩ := chk_elim hF
   have h2_ := h2
   try simp at h2_
   have F1 := And.intro h1 (And.intro h1_ h2)
   try simp [F1]
   and_intros <;> first | exact g _ (by kernel_rfl) | refine r _ _ _ ?_ | omega | (simp [maxLen, F1] <;> omega)
   refine WK [(1, Lz v3), (2, AV.ptr 0 0), (5, AV.slc 2 0 1 ((v6 ++ ([-1] : List Int)).length) false), (6, Iz v5)] [(0, .cells [Iz v0, AV.lst false false (List.map api_Edge.av v1), Lz v2]), (2, .grow (List.map (AV.int .i64) (v6 ++ ([-1] : List Int))))] 3 (by simp [F1] <;> omega) (by simp [F1]) ?_
   refine SQ [] [none, none, none, none, some (22, true), some (22, true), some (22, true), some (22, true), some (22, true), none] fun _ _ g r => ?_
   try simp [F1]
   and_intros
   try any_goals first | omega | (simp [maxLen, F1] <;> omega)
   obtain ⟨v8, h3, hF⟩ := bnd1_elim hF
   refine AC (w_ref11_Has k _ _ _ h3) (.cons (.same (by simp [F1])) (.cons (.same (by simp [F1])) .nil)) ?_
   by_cases h4 : v8 = true
   ·replace hF := ite_t h4 hF
    have h4_ := h4
    try simp at h4_
    have F2 := And.intro F1 (And.intro h4 h4_)
    try simp [F2]
    and_intros
    try any_goals first | omega | (simp [maxLen, F2] <;> omega)
    obtain ⟨v9, h5, hF⟩ := bnd1_elim hF
    refine AC (w_ref11_Has k _ _ _ h5) (.cons (.same (by simp [F2])) (.cons (.same (by simp [F2])) .nil)) ?_
    try simp [F2]
    and_intros <;> first | exact g _ (by kernel_rfl) | refine r _ _ _ ?_ | omega | (simp [maxLen, F2] <;> omega)
    refine WK [(1, Lz v3), (2, AV.ptr 0 0), (5, AV.slc 2 0 1 ((v6 ++ ([-1] : List Int)).length) false), (6, Iz v5), (28, AV.bool (!v9))] [(0, .cells [Iz v0, AV.lst false false (List.map api_Edge.av v1), Lz v2]), (2, .grow (List.map (AV.int .i64) (v6 ++ ([-1] : List Int))))] 3 (by simp [F2] <;> omega) (by simp [F2]) ?_
    by_cases h6 : (!v9) = true
    ·replace hF := ite_t h6 hF
     have h6_ := h6
     try simp at h6_
     have F3 := And.intro F2 (And.intro h6 h6_)
     refine CT (by simp [F3] <;> omega) ?_
     refine RG [] [none, none, none, none] fun _ _ g r => ?_
     obtain ⟨⟨h7, h8⟩, hF⟩ := chk_elim hF
     have h8_ := ne_of_lt h8
     have h8s := h8
     try simp at h8s
     have F4 := And.intro F3 (And.intro h7 (And.intro h8 (And.intro h8_ h8s)))
     try simp [F4]
     and_intros <;> first | exact g _ (by kernel_rfl) | refine r _ _ _ ?_ | omega | (simp [maxLen, F4] <;> omega)
     refine hK969 _ _ _ ?_
     refine RN h0 [(0, 0), (1, 2)] [(1, Lz v3), (2, AV.ptr 0 0), (5, AV.slc 1 0 1 (((v6 ++ ([-1] : List Int)).set (v5).toNat 0).length) false), (6, Iz v5)] [(0, .cells [Iz v0, AV.lst false false (List.map api_Edge.av v1), Lz v2]), (1, .grow (List.map (AV.int .i64) ((v6 ++ ([-1] : List Int)).set (v5).toNat 0)))] 2 (by simp [F4] <;> omega) (by simp [F4]) ?_
     exact JN ((v6 ++ ([-1] : List Int)).set (v5).toNat 0) hF (by simp [F4]) (by simp [F4])
    ·replace hF := ite_f h6 hF
     have h6_ := h6
     try simp at h6_
     have F5 := And.intro F2 (And.intro h6 h6_)
     refine CF (by simp [F5] <;> omega) ?_
     refine AW.skip ?_
     refine hK969 _ _ _ ?_
     refine RN h0 [(0, 0), (1, 2)] [(1, Lz v3), (2, AV.ptr 0 0), (5, AV.slc 1 0 1 ((v6 ++ ([-1] : List Int)).length) false), (6, Iz v5)] [(0, .cells [Iz v0, AV.lst false false (List.map api_Edge.av v1), Lz v2]), (1, .grow (List.map (AV.int .i64) (v6 ++ ([-1] : List Int))))] 2 (by simp [F5]) (by simp [F5]) ?_
     exact JN (v6 ++ ([-1] : List Int)) hF (by simp [F5]) (by simp [F5])
   ·replace hF := ite_f h4 hF
    have h4_ := h4
    try simp at h4_
    have F6 := And.intro F1 (And.intro h4 h4_)
    try simp [F6]
    and_intros <;> first | exact g _ (by kernel_rfl) | refine r _ _ _ ?_ | omega | (simp [maxLen, F6] <;> omega)
    refine WK [(1, Lz v3), (2, AV.ptr 0 0), (5, AV.slc 2 0 1 ((v6 ++ ([-1] : List Int)).length) false), (6, Iz v5), (28, AV.bool false)] [(0, .cells [Iz v0, AV.lst false false (List.map api_Edge.av v1), Lz v2]), (2, .grow (List.map (AV.int .i64) (v6 ++ ([-1] : List Int))))] 3 (by simp [F6] <;> omega) (by simp [F6]) ?_
    refine CF (by simp [F6]) ?_
    refine AW.skip ?_
    refine hK969 _ _ _ ?_
    refine RN h0 [(0, 0), (1, 2)] [(1, Lz v3), (2, AV.ptr 0 0), (5, AV.slc 1 0 1 ((v6 ++ ([-1] : List Int)).length) false), (6, Iz v5)] [(0, .cells [Iz v0, AV.lst false false (List.map api_Edge.av v1), Lz v2]), (1, .grow (List.map (AV.int .i64) (v6 ++ ([-1] : List Int))))] 2 (by simp [F6]) (by simp [F6]) ?_
    exact JN (v6 ++ ([-1] : List Int)) hF (by simp [F6]) (by simp [F6])
  ·rintro v7 hF
   try dsimp only at hF
   unfold ref12_All.J2 at hF
   refine RG [] [none, none, none] fun _ _ g r => ?_
   try simp [h1, h1_]
   and_intros <;> first | exact g _ (by kernel_rfl) | refine r _ _ _ ?_ | omega | (simp [h1, h1_, maxLen] <;> omega)
   refine hK961 _ _ _ ?_
   exact NX (k' := n1) ((IntKind.wrap .i64 (v5 + 1), v7)) hF (by simp [h1, h1_]) (by simp [h1, h1_])
 ·replace hF := ite_f h1 hF
  have h1_ := h1
  try simp at h1_
  refine CF (by simp [h1, h1_] <;> omega) ?_
  refine AW.exit ?_
  try simp
  refine hK926 _ _ _ ?_
  refine AW.seq fun K1363 hK1363 => ?_
  refine SQ [] [none] fun _ _ g r => ?_
  try simp [h1, h1_]
  and_intros <;> first | exact g _ (by kernel_rfl) | refine r _ _ _ ?_ | omega | (simp [h1, h1_, maxLen] <;> omega)
  refine WK [(2, AV.ptr 0 0), (5, AV.slc 1 0 1 v6.length false), (7, Iz 0)] [(0, .cells [Iz v0, AV.lst false false (List.map api_Edge.av v1), Lz v2]), (1, .grow (List.map (AV.int .i64) v6))] 2 (by simp [h1, h1_]) (by simp [h1, h1_]) ?_
  refine AW.block ?_
  refine AW.loopF (α := (Int × (List Int))) (fun n (v10, v11) => ref12_All.L3 k v0 v1 n v10 v11 = some v4) (fun (v10, v11) => [(2, AV.ptr 0 0), (5, AV.slc 1 0 1 v11.length false), (7, Iz v10)]) (fun (v10, v11) => [(0, .cells [Iz v0, AV.lst false false (List.map api_Edge.av v1), Lz v2]), (1, .grow (List.map (AV.int .i64) v11))]) 2 k ((0, v6)) hF (by simp [h1, h1_]) (by simp [h1, h1_]) (by simp) ?_
  rintro (_|n3) ⟨v10, v11⟩ hF K1656 hK1656
  ·try dsimp only at hF
   rw [ref12_All.L3] at hF; cases hF
  try dsimp only at hF
  rw [ref12_All.L3] at hF
  refine AW.seq fun K1658 hK1658 => ?_
  refine SQ [] [none, none, none, none] fun _ _ g r => ?_
  try simp [h1, h1_]
  and_intros <;> first | exact g _ (by kernel_rfl) | refine r _ _ _ ?_ | omega | (simp [h1, h1_, maxLen] <;> omega)
  refine WK [(2, AV.ptr 0 0), (5, AV.slc 1 0 1 v11.length false), (7, Iz v10), (35, AV.bool (decide (v10 < v0)))] [(0, .cells [Iz v0, AV.lst false false (List.map api_Edge.av v1), Lz v2]), (1, .grow (List.map (AV.int .i64) v11))] 2 (by simp [h1, h1_]) (by simp [h1, h1_]) ?_
  by_cases h9 : v10 < v0
  ·replace hF := ite_t h9 hF
   have h9_ := h9
   try simp at h9_
   have F7 := And.intro h1 (And.intro h1_ (And.intro h9 h9_))
   refine CT (by simp [F7] <;> omega) ?_
   refine AW.skip ?_
   refine hK1658 _ _ _ ?_
   refine AW.seq fun K1706 hK1706 => ?_
   refine AW.block ?_
   refine SQ [] [none] fun _ _ g r => ?_
   try simp [F7]
   and_intros <;> first | exact g _ (by kernel_rfl) | refine r _ _ _ ?_ | omega | (simp [maxLen, F7] <;> omega)
   refine WK [(2, AV.ptr 0 0), (5, AV.slc 1 0 1 v11.length false), (7, Iz v10), (8, Iz 0)] [(0, .cells [Iz v0, AV.lst false false (List.map api_Edge.av v1), Lz v2]), (1, .grow (List.map (AV.int .i64) v11))] 2 (by simp [F7]) (by simp [F7]) ?_
   refine AW.block ?_
   refine AW.loopF (α := (Int × (List Int))) (fun n (v12, v13) => ref12_All.L4 k v1 v10 (fun v10_ v11_ => ref12_All.L3 k v0 v1 n3 v10_ v11_) n v12 v13 = some v4) (fun (v12, v13) => [(2, AV.ptr 0 0), (5, AV.slc 1 0 1 v13.length false), (7, Iz v10), (8, Iz v12)]) (fun (v12, v13) => [(0, .cells [Iz v0, AV.lst false false (List.map api_Edge.av v1), Lz v2]), (1, .grow (List.map (AV.int .i64) v13))]) 2 k ((0, v11)) hF (by simp [F7]) (by simp [F7]) (by simp) ?_
   rintro (_|n4) ⟨v12, v13⟩ hF K1741 hK1741
   ·try dsimp only at hF
    rw [ref12_All.L4] at hF; cases hF
   try dsimp only at hF
   rw [ref12_All.L4] at hF
   refine AW.seq fun K1743 hK1743 => ?_
   refine SQ [] [none, none, none, none, none] fun _ _ g r => ?_
   try simp [F7]
   and_intros <;> first | exact g _ (by kernel_rfl) | refine r _ _ _ ?_ | omega | (simp [maxLen, F7] <;> omega)
   refine WK [(2, AV.ptr 0 0), (5, AV.slc 1 0 1 v13.length false), (7, Iz v10), (8, Iz v12), (42, AV.bool (decide (v12 < (v1.length : Int))))] [(0, .cells [Iz v0, AV.lst false false (List.map api_Edge.av v1), Lz v2]), (1, .grow (List.map (AV.int .i64) v13))] 2 (by simp [F7]) (by simp [F7]) ?_
   by_cases h10 : v12 < (v1.length : Int)
   ·replace hF := ite_t h10 hF
    have h10_ := h10
    try simp at h10_
    have F8 := And.intro F7 (And.intro h10 h10_)
    refine CT (by simp [F8] <;> omega) ?_
    refine AW.skip ?_
    refine hK1743 _ _ _ ?_
    refine AW.midF (α := (List Int)) (fun v14 => ref12_All.J5 k v12 (fun v12_ v13_ => ref12_All.L4 k v1 v10 (fun v10_ v11_ => ref12_All.L3 k v0 v1 n3 v10_ v11_) n4 v12_ v13_) v14 = some v4) (fun v14 => [(2, AV.ptr 0 0), (5, AV.slc 1 0 1 v14.length false), (7, Iz v10), (8, Iz v12)]) (fun v14 => [(0, .cells [Iz v0, AV.lst false false (List.map api_Edge.av v1), Lz v2]), (1, .grow (List.map (AV.int .i64) v14))]) 2 (fun K1749 hK1749 => ?_) ?_
    ·refine AW.block ?_
     refine SQ [] [none, none, none, none, none, none, none] fun _ _ g r => ?_
     obtain ⟨v15, h11, h12, h13, hF⟩ := idx_elim hF
     have h13_ := get_of h13
     try simp at h13_
     have h12_ := h12
     try simp at h12_
     have F9 := And.intro F8 (And.intro h11 (And.intro h12 (And.intro h13 (And.intro h13_ h12_))))
     try simp [F9]
     and_intros <;> first | exact g _ (by kernel_rfl) | refine r _ _ _ ?_ | omega | (simp [maxLen, F9] <;> omega)
     refine WK [(2, AV.ptr 0 0), (5, AV.slc 1 0 1 v13.length false), (7, Iz v10), (8, Iz v12), (9, AV.ptr 2 0)] [(0, .cells [Iz v0, AV.lst false false (List.map api_Edge.av v1), Lz v2]), (1, .grow (List.map (AV.int .i64) v13)), (2, .cells [Iz v15.From, Iz v15.To, Iz v15.Level])] 3 (by simp [F9]) (by simp [F9]) ?_
     refine SQ [] [none, none, none, none, none, none, none, none, some (57, true), some (57, true), some (57, true), some (57, true), some (57, true), some (57, true), none] fun _ _ g r => ?_
     obtain ⟨⟨h14, h15⟩, hF⟩ := chk_elim hF
     have h15_ := ne_of_lt h15
     obtain ⟨v16, h16, h17, h18, hF⟩ := idx_elim hF
     have h18_ := get_of h18
     try simp at h18_
     have h17_ := h17
     try simp at h17_
     by_cases h19 : v16 = v10
     ·replace hF := ite_t h19 hF
      have h19q : v16 = v10 := h19
      have h19_ := eqb_t h19q
      have h19__ := neb_f h19q
      obtain ⟨⟨h20, h21⟩, hF⟩ := chk_elim hF
      have h21_ := ne_of_lt h21
      obtain ⟨v17, h22, h23, h24, hF⟩ := idx_elim hF
      have h24_ := get_of h24
      try simp at h24_
      have h23_ := h23
      try simp at h23_
      have F10 := And.intro F9 (And.intro h14 (And.intro h15 (And.intro h15_ (And.intro h16 (And.intro h17 (And.intro h18 (And.intro h18_ (And.intro h17_ (And.intro h19_ (And.intro h19__ (And.intro h20 (And.intro h21 (And.intro h21_ (And.intro h22 (And.intro h23 (And.intro h24 (And.intro h24_ h23_)))))))))))))))))
      try simp [F10]
      and_intros <;> first | exact g _ (by kernel_rfl) | refine r _ _ _ ?_ | omega | (simp [maxLen, F10] <;> omega)
      refine WK [(2, AV.ptr 0 0), (5, AV.slc 1 0 1 v13.length false), (7, Iz v10), (8, Iz v12), (9, AV.ptr 2 0), (64, AV.bool (v17 == (-1)))] [(0, .cells [Iz v0, AV.lst false false (List.map api_Edge.av v1), Lz v2]), (1, .grow (List.map (AV.int .i64) v13)), (2, .cells [Iz v15.From, Iz v15.To, Iz v15.Level])] 3 (by simp [F10]) (by simp [F10]) ?_
      by_cases h25 : v17 = (-1)
      ·replace hF := ite_t h25 hF
       have h25q : v17 = (-1) := h25
       have h25_ := eqb_t h25q
       have h25__ := neb_f h25q
       refine CT (by simp [F10, h25_, h25__, h25q] <;> omega) ?_
       refine RG [] [none, none, none, none, none, none, none] fun _ _ g r => ?_
       obtain ⟨⟨h26, h27⟩, hF⟩ := chk_elim hF
       have h27_ := ne_of_lt h27
       have F11 := And.intro F10 (And.intro h25_ (And.intro h25__ (And.intro h25q (And.intro h26 (And.intro h27 h27_)))))
       try simp [F11]
       and_intros <;> first | exact g _ (by kernel_rfl) | refine r _ _ _ ?_ | omega | (simp [maxLen, F11] <;> omega)
       refine hK1749 _ _ _ ?_
       refine RN h0 [(0, 0), (1, 1)] [(2, AV.ptr 0 0), (5, AV.slc 1 0 1 ((v13.set (v15.To).toNat (IntKind.wrap .i64 (v10 + 1))).length) false), (7, Iz v10), (8, Iz v12)] [(0, .cells [Iz v0, AV.lst false false (List.map api_Edge.av v1), Lz v2]), (1, .grow (List.map (AV.int .i64) (v13.set (v15.To).toNat (IntKind.wrap .i64 (v10 + 1)))))] 2 (by simp [F11]) (by simp [F11]) ?_
       exact JN (v13.set (v15.To).toNat (IntKind.wrap .i64 (v10 + 1))) hF (by simp [F11]) (by simp [F11])
      ·replace hF := ite_f h25 hF
       have h25_ := eqb_f h25
       have h25__ := neb_t h25
       have F12 := And.intro F10 (And.intro h25 (And.intro h25_ h25__))
       refine CF (by simp [F12] <;> omega) ?_
       refine AW.skip ?_
       refine hK1749 _ _ _ ?_
       refine RN h0 [(0, 0), (1, 1)] [(2, AV.ptr 0 0), (5, AV.slc 1 0 1 v13.length false), (7, Iz v10), (8, Iz v12)] [(0, .cells [Iz v0, AV.lst false false (List.map api_Edge.av v1), Lz v2]), (1, .grow (List.map (AV.int .i64) v13))] 2 (by simp [F12]) (by simp [F12]) ?_
       exact JN (v13) hF (by simp [F12]) (by simp [F12])
     ·replace hF := ite_f h19 hF
      have h19_ := eqb_f h19
      have h19__ := neb_t h19
      have F13 := And.intro F9 (And.intro h14 (And.intro h15 (And.intro h15_ (And.intro h16 (And.intro h17 (And.intro h18 (And.intro h18_ (And.intro h17_ (And.intro h19 (And.intro h19_ h19__))))))))))
      try simp [F13]
      and_intros <;> first | exact g _ (by kernel_rfl) | refine r _ _ _ ?_ | omega | (simp [maxLen, F13] <;> omega)
      refine WK [(2, AV.ptr 0 0), (5, AV.slc 1 0 1 v13.length false), (7, Iz v10), (8, Iz v12), (9, AV.ptr 2 0), (64, AV.bool false)] [(0, .cells [Iz v0, AV.lst false false (List.map api_Edge.av v1), Lz v2]), (1, .grow (List.map (AV.int .i64) v13)), (2, .cells [Iz v15.From, Iz v15.To, Iz v15.Level])] 3 (by simp [F13]) (by simp [F13]) ?_
      refine CF (by simp [F13]) ?_
      refine AW.skip ?_
      refine hK1749 _ _ _ ?_
      refine RN h0 [(0, 0), (1, 1)] [(2, AV.ptr 0 0), (5, AV.slc 1 0 1 v13.length false), (7, Iz v10), (8, Iz v12)] [(0, .cells [Iz v0, AV.lst false false (List.map api_Edge.av v1), Lz v2]), (1, .grow (List.map (AV.int .i64) v13))] 2 (by simp [F13]) (by simp [F13]) ?_
      exact JN (v13) hF (by simp [F13]) (by simp [F13])
    ·rintro v14 hF
     try dsimp only at hF
     unfold ref12_All.J5 at hF
     refine RG [] [none, none, none] fun _ _ g r => ?_
     try simp [F8]
     and_intros <;> first | exact g _ (by kernel_rfl) | refine r _ _ _ ?_ | omega | (simp [maxLen, F8] <;> omega)
     refine hK1741 _ _ _ ?_
     exact NX (k' := n4) ((IntKind.wrap .i64 (v12 + 1), v14)) hF (by simp [F8]) (by simp [F8])
   ·replace hF := ite_f h10 hF
    have h10_ := h10
    try simp at h10_
    have F14 := And.intro F7 (And.intro h10 h10_)
    refine CF (by simp [F14] <;> omega) ?_
    refine AW.exit ?_
    try simp
    refine hK1706 _ _ _ ?_
    refine RG [] [none, none, none] fun _ _ g r => ?_
    try simp [F14]
    and_intros <;> first | exact g _ (by kernel_rfl) | refine r _ _ _ ?_ | omega | (simp [maxLen, F14] <;> omega)
    refine hK1656 _ _ _ ?_
    exact NX (k' := n3) ((IntKind.wrap .i64 (v10 + 1), v13)) hF (by simp [F14]) (by simp [F14])
  ·replace hF := ite_f h9 hF
   have h9_ := h9
   try simp at h9_
   have F15 := And.intro h1 (And.intro h1_ (And.intro h9 h9_))
   refine CF (by simp [F15] <;> omega) ?_
   refine AW.exit ?_
   try simp
   refine hK1363 _ _ _ ?_
   refine SQ [] [none, none] fun _ _ g r => ?_
   try simp [F15]
   and_intros <;> first | exact g _ (by kernel_rfl) | refine r _ _ _ ?_ | omega | (simp [maxLen, F15] <;> omega)
   refine RM h0 [(0, 1)] [(4, AV.slc 0 0 1 v11.length false)] [(0, .grow (List.map (AV.int .i64) v11))] 1 (by simp [F15]) (by simp [F15]) ?_
   simp only [Option.some.injEq] at hF
   subst hF
   refine AW.ret (hQ _ _ _ ?_ (matchO_0 ?_)).1
   ·simp [Try.f53, F15]
   ·simp [F15]
theorem w_ref13_Of (k : Nat) (v0 : (List Int)) (v1 : (List Int)) (v2 : Int) (v3 : Int) (v4 : Int) (hF : ref13_Of k v0 v1 v2 v3 = some v4) :
  FCall Try.prog 14 [AV.agg [AV.lst false false (List.map (AV.int .i64) v0), AV.lst false false (List.map (AV.int .i64) v1), AV.int .i64 v2], AV.int .i64 v3] [] (AV.int .i64 v4) [] := by
 unfold ref13_Of at hF
 refine EN Try.func14 ?_
 intro c0 w0 Q h0 hQ
 refine WK [(0, AV.agg [Lz v0, Lz v1, Iz v2]), (1, Iz v3)] [] 0 (by simp) (by simp) ?_
 refine SQ [] [none, none] fun _ _ g r => ?_
 try simp
 and_intros <;> first | exact g _ (by kernel_rfl) | refine r _ _ _ ?_ | omega | (simp [maxLen] <;> omega)
 refine WK [(1, Iz v3), (2, AV.ptr 0 0)] [(0, .cells [Lz v0, Lz v1, Iz v2])] 1 (by simp) (by simp) ?_
 refine AW.seq fun K16 hK16 => ?_
 refine SQ [] [none, none] fun _ _ g r => ?_
 try simp
 and_intros <;> first | exact g _ (by kernel_rfl) | refine r _ _ _ ?_ | omega | (simp [maxLen] <;> omega)
 refine WK [(1, Iz v3), (2, AV.ptr 0 0), (6, AV.bool (decide (v3 < 0)))] [(0, .cells [Lz v0, Lz v1, Iz v2])] 1 (by simp) (by simp) ?_
 by_cases h1 : v3 < 0
 ·replace hF := ite_t h1 hF
  have h1_ := h1
  try simp at h1_
  refine CT (by simp [h1, h1_] <;> omega) ?_
  refine SQ [] [none] fun _ _ g r => ?_
  try simp [h1, h1_]
  and_intros <;> first | exact g _ (by kernel_rfl) | refine r _ _ _ ?_ | omega | (simp [h1, h1_, maxLen] <;> omega)
  refine WK [(4, Iz 0)] [] 1 (by simp [h1, h1_]) (by simp [h1, h1_]) ?_
  simp only [Option.some.injEq] at hF
  subst hF
  refine AW.ret (hQ _ _ _ ?_ (matchO_0 ?_)).1
  ·simp [Try.f14, h1, h1_]
  ·simp [h1, h1_]
 ·replace hF := ite_f h1 hF
  have h1_ := h1
  try simp at h1_
  refine CF (by simp [h1, h1_] <;> omega) ?_
  refine AW.skip ?_
  refine hK16 _ _ _ ?_
  refine AW.seq fun K21 hK21 => ?_
  refine SQ [] [none, none, none, none, none] fun _ _ g r => ?_
  try simp [h1, h1_]
  and_intros <;> first | exact g _ (by kernel_rfl) | refine r _ _ _ ?_ | omega | (simp [h1, h1_, maxLen] <;> omega)
  refine WK [(1, Iz v3), (2, AV.ptr 0 0), (11, AV.bool (decide (v3 < (v1.length : Int))))] [(0, .cells [Lz v0, Lz v1, Iz v2])] 1 (by simp [h1, h1_]) (by simp [h1, h1_]) ?_
  by_cases h2 : v3 < (v1.length : Int)
  ·replace hF := ite_t h2 hF
   have h2_ := h2
   try simp at h2_
   have F1 := And.intro h1 (And.intro h1_ (And.intro h2 h2_))
   refine CT (by simp [F1] <;> omega) ?_
   refine SQ [] [none, none, none, none, none, none] fun _ _ g r => ?_
   obtain ⟨v5, h3, h4, h5, hF⟩ := idx_elim hF
   have h5_ := get_of h5
   try simp at h5_
   have h4_ := h4
   try simp at h4_
   have F2 := And.intro F1 (And.intro h3 (And.intro h4 (And.intro h5 (And.intro h5_ h4_))))
   try simp [F2]
   and_intros <;> first | exact g _ (by kernel_rfl) | refine r _ _ _ ?_ | omega | (simp [maxLen, F2] <;> omega)
   refine WK [(4, Iz v5)] [] 1 (by simp [F2]) (by simp [F2]) ?_
   simp only [Option.some.injEq] at hF
   subst hF
   refine AW.ret (hQ _ _ _ ?_ (matchO_0 ?_)).1
   ·simp [Try.f14, F2]
   ·simp [F2]
  ·replace hF := ite_f h2 hF
   have h2_ := h2
   try simp at h2_
   have F3 := And.intro h1 (And.intro h1_ (And.intro h2 h2_))
   refine CF (by simp [F3] <;> omega) ?_
   refine AW.skip ?_
   refine hK21 _ _ _ ?_
   refine SQ [] [none] fun _ _ g r => ?_
   try simp [F3]
   and_intros <;> first | exact g _ (by kernel_rfl) | refine r _ _ _ ?_ | omega | (simp [maxLen, F3] <;> omega)
   refine WK [(4, Iz 1)] [] 1 (by simp [F3]) (by simp [F3]) ?_
   simp only [Option.some.injEq] at hF
   subst hF
   refine AW.ret (hQ _ _ _ ?_ (matchO_0 ?_)).1
   ·simp [Try.f14, F3]
   ·simp [F3]
theorem w_ref13_All (k : Nat) (v0 : Int) (v1 : (List api_Edge)) (v2 : (List Int)) (v3 : (List Int)) (v4 : (List Int)) (v5 : Int) (v6 : (List Int)) (hF : ref13_All k v0 v1 v2 v3 v4 v5 = some v6) :
  FCall Try.prog 34 [AV.agg [AV.int .i64 v0, AV.lst false false (List.map api_Edge.av v1), AV.lst false false (List.map (AV.int .i64) v2)], AV.agg [AV.lst false false (List.map (AV.int .i64) v3), AV.lst false false (List.map (AV.int .i64) v4), AV.int .i64 v5]] [] (AV.slc 0 0 1 v6.length false) [some (.grow (List.map (AV.int .i64) v6))] := by
 unfold ref13_All at hF
 refine EN Try.func34 ?_
 intro c0 w0 Q h0 hQ
 refine WK [(0, AV.agg [Iz v0, AV.lst false false (List.map api_Edge.av v1), Lz v2]), (1, AV.agg [Lz v3, Lz v4, Iz v5])] [] 0 (by simp) (by simp) ?_
 refine SQ [] [none, none, none] fun _ _ g r => ?_
 try simp
 and_intros <;> first | exact g _ (by kernel_rfl) | refine r _ _ _ ?_ | omega | (simp [maxLen] <;> omega)
 refine WK [(2, AV.ptr 0 0), (3, AV.ptr 1 0)] [(0, .cells [Iz v0, AV.lst false false (List.map api_Edge.av v1), Lz v2]), (1, .cells [Lz v3, Lz v4, Iz v5])] 2 (by simp) (by simp) ?_
 refine SQ [] [none, none, none, none, none, none, none, none] fun _ _ g r => ?_
 try simp
 and_intros
 try any_goals first | omega | (simp [maxLen] <;> omega)
 obtain ⟨v7, v8, v9, h1, hF⟩ := bnd3_elim hF
 refine AC (w_ref11_Level k _ _ _ _ _ _ _ h1) (.cons (.same (by simp)) (.cons (.same (by simp)) .nil)) ?_
 try simp
 and_intros
 try any_goals first | omega | (simp [maxLen] <;> omega)
 obtain ⟨v10, h2, hF⟩ := bnd1_elim hF
 refine aCall_l (w_ref12_All k _ _ _ _ _ h2) (by simp) [] [2] [] rfl (.cons (.agg (.cons (.same (by simp)) (.cons (Coe.l (o := .grow (flatA (List.map api_Edge.av v8))) (by simp) rfl (by simp) (by simp [noIdsL]) (by simp) (by simp)) (.cons (.same (by simp)) .nil)))) (.cons (.same (by simp)) .nil)) (by simp) (by decide) (by simp) (by simp) (.inr ⟨by simp, by simp⟩) (by simp) (by simp) ?_
 try simp
 and_intros <;> first | exact g _ (by kernel_rfl) | refine r _ _ _ ?_ | omega | (simp [maxLen] <;> omega)
 refine WK [(3, AV.ptr 1 0), (5, AV.slc 3 0 1 v10.length false)] [(1, .cells [Lz v3, Lz v4, Iz v5]), (3, .grow (List.map (AV.int .i64) v10))] 4 (by simp) (by simp) ?_
 refine AW.frz 3 (o := .grow (List.map (AV.int .i64) v10)) (by simp) rfl [(5, Lz v10)] [] ⟨(.l (by simp) (by simp) (by simp) (by simp)), trivial⟩ trivial ?_
 refine WK [(3, AV.ptr 1 0), (5, Lz v10)] [(1, .cells [Lz v3, Lz v4, Iz v5])] 4 (by simp) (by simp) ?_
 refine SQ [] [none] fun _ _ g r => ?_
 try simp
 and_intros <;> first | exact g _ (by kernel_rfl) | refine r _ _ _ ?_ | omega | (simp [maxLen] <;> omega)
 refine WK [(3, AV.ptr 1 0), (5, Lz v10), (6, AV.lst true true (List.map (AV.int .i64) ([] : List Int)))] [(1, .cells [Lz v3, Lz v4, Iz v5])] 4 (by simp) (by simp) ?_
 refine AW.seq fun K99 hK99 => ?_
 refine SQ [] [none] fun _ _ g r => ?_
 try simp
 and_intros <;> first | exact g _ (by kernel_rfl) | refine r _ _ _ ?_ | omega | (simp [maxLen] <;> omega)
 refine WK [(3, AV.ptr 1 0), (5, Lz v10), (6, AV.lst true true (List.map (AV.int .i64) ([] : List Int))), (7, Iz 0)] [(1, .cells [Lz v3, Lz v4, Iz v5])] 4 (by simp) (by simp) ?_
 refine AW.block ?_
 refine AW.own' 6 1 true (by simp) (by decide) ?_
 refine RM h0 [(0, 1), (1, 4)] [(3, AV.ptr 0 0), (5, Lz v10), (6, AV.slc 1 0 1 (([] : List Int).length) false), (7, Iz 0)] [(0, .cells [Lz v3, Lz v4, Iz v5]), (1, .grow (List.map (AV.int .i64) ([] : List Int)))] 2 (by simp) (by simp) ?_
 refine AW.loopF (α := (Int × (List Int))) (fun n (v11, v12) => ref13_All.L1 k v3 v4 v5 v10 n v11 v12 = some v6) (fun (v11, v12) => [(3, AV.ptr 0 0), (5, Lz v10), (6, AV.slc 1 0 1 v12.length false), (7, Iz v11)]) (fun (v11, v12) => [(0, .cells [Lz v3, Lz v4, Iz v5]), (1, .grow (List.map (AV.int .i64) v12))]) 2 k ((0, ([] : List Int))) hF (by simp) (by simp) (by simp) ?_
 rintro (_|n1) ⟨v11, v12⟩ hF K122 hK122
 ·try dsimp only at hF
  rw [ref13_All.L1] at hF; cases hF
 try dsimp only at hF
 rw [ref13_All.L1] at hF
 refine AW.seq fun K124 hK124 => ?_
 refine SQ [] [none, none, none, none] fun _ _ g r => ?_
 try simp
 and_intros <;> first | exact g _ (by kernel_rfl) | refine r _ _ _ ?_ | omega | (simp [maxLen] <;> omega)
 refine WK [(3, AV.ptr 0 0), (5, Lz v10), (6, AV.slc 1 0 1 v12.length false), (7, Iz v11), (18, AV.bool (decide (v11 < (v10.length : Int))))] [(0, .cells [Lz v3, Lz v4, Iz v5]), (1, .grow (List.map (AV.int .i64) v12))] 2 (by simp) (by simp) ?_
 by_cases h3 : v11 < (v10.length : Int)
 ·replace hF := ite_t h3 hF
  have h3_ := h3
  try simp at h3_
  refine CT (by simp [h3, h3_] <;> omega) ?_
  refine AW.skip ?_
  refine hK124 _ _ _ ?_
  refine AW.seq fun K127 hK127 => ?_
  refine AW.block ?_
  refine RG [] [none, none, none, none, none, none, none, none, none, none] fun _ _ g r => ?_
  obtain ⟨v13, h4, h5, h6, hF⟩ := idx_elim hF
  have h6_ := get_of h6
  try simp at h6_
  have h5_ := h5
  try simp at h5_
  have F1 := And.intro h3 (And.intro h3_ (And.intro h4 (And.intro h5 (And.intro h6 (And.intro h6_ h5_)))))
  try simp [F1]
  and_intros
  try any_goals first | omega | (simp [maxLen, F1] <;> omega)
  obtain ⟨v14, h7, hF⟩ := bnd1_elim hF
  refine AC (w_ref13_Of k _ _ _ _ _ h7) (.cons (.same (by simp [F1])) (.cons (.same (by simp [F1])) .nil)) ?_
  obtain ⟨h8, hF⟩ := chk_elim hF
  have h8_ := h8
  try simp at h8_
  have F2 := And.intro F1 h8
  try simp [F2]
  and_intros <;> first | exact g _ (by kernel_rfl) | refine r _ _ _ ?_ | omega | (simp [maxLen, F2] <;> omega)
  refine hK127 _ _ _ ?_
  refine WK [(3, AV.ptr 0 0), (5, Lz v10), (6, AV.slc 2 0 1 ((v12 ++ ([v14] : List Int)).length) false), (7, Iz v11)] [(0, .cells [Lz v3, Lz v4, Iz v5]), (2, .grow (List.map (AV.int .i64) (v12 ++ ([v14] : List Int))))] 3 (by simp [F2] <;> omega) (by simp [F2]) ?_
  refine RG [] [none, none, none] fun _ _ g r => ?_
  try simp [F2]
  and_intros <;> first | exact g _ (by kernel_rfl) | refine r _ _ _ ?_ | omega | (simp [maxLen, F2] <;> omega)
  refine hK122 _ _ _ ?_
  refine RN h0 [(0, 0), (1, 2)] [(3, AV.ptr 0 0), (5, Lz v10), (6, AV.slc 1 0 1 ((v12 ++ ([v14] : List Int)).length) false), (7, Iz (IntKind.wrap .i64 (v11 + 1)))] [(0, .cells [Lz v3, Lz v4, Iz v5]), (1, .grow (List.map (AV.int .i64) (v12 ++ ([v14] : List Int))))] 2 (by simp [F2] <;> omega) (by simp [F2]) ?_
  exact NX (k' := n1) ((IntKind.wrap .i64 (v11 + 1), v12 ++ ([v14] : List Int))) hF (by simp [F2]) (by simp [F2])
 ·replace hF := ite_f h3 hF
  have h3_ := h3
  try simp at h3_
  refine CF (by simp [h3, h3_] <;> omega) ?_
  refine AW.exit ?_
  try simp
  refine hK99 _ _ _ ?_
  refine SQ [] [none, none] fun _ _ g r => ?_
  try simp [h3, h3_]
  and_intros <;> first | exact g _ (by kernel_rfl) | refine r _ _ _ ?_ | omega | (simp [h3, h3_, maxLen] <;> omega)
  refine RM h0 [(0, 1)] [(4, AV.slc 0 0 1 v12.length false)] [(0, .grow (List.map (AV.int .i64) v12))] 1 (by simp [h3, h3_]) (by simp [h3, h3_]) ?_
  simp only [Option.some.injEq] at hF
  subst hF
  refine AW.ret (hQ _ _ _ ?_ (matchO_0 ?_)).1
  ·simp [Try.f34, h3, h3_]
  ·simp [h3, h3_]
theorem w_law14_SplitShape (k : Nat) (v0 : (List Int)) (v1 : Bool) (hF : law14_SplitShape k v0 = some v1) :
  FCall Try.prog 8 [AV.lst false false (List.map (AV.int .i64) v0)] [] (AV.bool v1) [] := by
 unfold law14_SplitShape at hF
 refine EN Try.func8 ?_
 intro c0 w0 Q h0 hQ
 refine WK [(0, Lz v0)] [] 0 (by simp) (by simp) ?_
 refine SQ [] [none] fun _ _ g r => ?_
 try simp
 and_intros <;> first | exact g _ (by kernel_rfl) | refine r _ _ _ ?_ | omega | (simp [maxLen] <;> omega)
 refine WK [(0, Lz v0)] [] 0 (by simp) (by simp) ?_
 refine AW.seq fun K901 hK901 => ?_
 refine SQ [] [none, none, none] fun _ _ g r => ?_
 try simp
 and_intros
 try any_goals first | omega | (simp [maxLen] <;> omega)
 obtain ⟨v2, h1, hF⟩ := bnd1_elim hF
 refine AC (w_made_Light k _ _ h1) (.cons (.same (by simp)) .nil) ?_
 try simp
 and_intros <;> first | exact g _ (by kernel_rfl) | refine r _ _ _ ?_ | omega | (simp [maxLen] <;> omega)
 refine WK [(0, Lz v0), (20, AV.bool (!v2))] [] 0 (by simp) (by simp) ?_
 by_cases h2 : (!v2) = true
 ·replace hF := ite_t h2 hF
  have h2_ := h2
  try simp at h2_
  refine CT (by simp [h2, h2_] <;> omega) ?_
  refine SQ [] [none, none] fun _ _ g r => ?_
  try simp [h2, h2_]
  and_intros
  try any_goals first | omega | (simp [h2, h2_, maxLen] <;> omega)
  obtain ⟨v3, h3, hF⟩ := bnd1_elim hF
  refine AC (w_law14_awake k _ h3) .nil ?_
  try simp [h2, h2_]
  and_intros <;> first | exact g _ (by kernel_rfl) | refine r _ _ _ ?_ | omega | (simp [h2, h2_, maxLen] <;> omega)
  refine WK [(2, AV.bool v3)] [] 0 (by simp [h2, h2_]) (by simp [h2, h2_]) ?_
  simp only [Option.some.injEq] at hF
  subst hF
  refine AW.ret (hQ _ _ _ ?_ (matchO_0 ?_)).1
  ·simp [Try.f8, h2, h2_]
  ·simp [h2, h2_]
 ·replace hF := ite_f h2 hF
  have h2_ := h2
  try simp at h2_
  refine CF (by simp [h2, h2_] <;> omega) ?_
  refine AW.skip ?_
  refine hK901 _ _ _ ?_
  refine SQ [] [none, none, none] fun _ _ g r => ?_
  try simp [h2, h2_]
  and_intros
  try any_goals first | omega | (simp [h2, h2_, maxLen] <;> omega)
  obtain ⟨v4, v5, h4, hF⟩ := bnd2_elim hF
  refine AC (w_made_Roll k _ _ _ h4) (.cons (.same (by simp [h2, h2_])) .nil) ?_
  try simp [h2, h2_]
  and_intros <;> first | exact g _ (by kernel_rfl) | refine r _ _ _ ?_ | omega | (simp [h2, h2_, maxLen] <;> omega)
  refine WK [(3, AV.ptr 0 0)] [(0, .cells [Lz v4, Iz v5])] 1 (by simp [h2, h2_]) (by simp [h2, h2_]) ?_
  refine SQ [] [none, none, none, none] fun _ _ g r => ?_
  try simp [h2, h2_]
  and_intros
  try any_goals first | omega | (simp [h2, h2_, maxLen] <;> omega)
  obtain ⟨v6, v7, v8, v9, h5, hF⟩ := bnd4_elim hF
  refine aCall_l (w_made_Dice_Graph_o k _ _ _ _ _ _ h5) (by simp) [0] [] [0] rfl (.cons (.same (by simp [h2, h2_])) .nil) (by simp [h2, h2_]) (by decide) (by simp) (by simp) (.inl rfl) (by simp) (by simp) ?_
  try simp [h2, h2_]
  and_intros <;> first | exact g _ (by kernel_rfl) | refine r _ _ _ ?_ | omega | (simp [h2, h2_, maxLen] <;> omega)
  refine WK [(3, AV.ptr 0 0), (4, AV.ptr 3 0)] [(0, .cells [Lz v4, Iz v9]), (1, .grow (flatA (List.map api_Edge.av v7))), (2, .grow (List.map (AV.int .i64) v8)), (3, .cells [Iz v6, AV.slc 1 0 3 v7.length false, AV.slc 2 0 1 v8.length false])] 4 (by simp [h2, h2_]) (by simp [h2, h2_]) ?_
  refine AW.frz 1 (o := .grow (flatA (List.map api_Edge.av v7))) (by simp [h2, h2_]) rfl [] [(3, .cells [Iz v6, AV.lst false false (List.map api_Edge.av v7), AV.slc 2 0 1 v8.length false])] trivial ⟨⟨by simp, AObj.cells [Iz v6, AV.slc 1 0 3 v7.length false, AV.slc 2 0 1 v8.length false], by simp [h2, h2_], (.mk (.cons (.same _) (.cons (.l (by simp) (by simp) (by simp) (by simp)) (.cons (.same _) .nil))))⟩, trivial⟩ ?_
  refine AW.frz 2 (o := .grow (List.map (AV.int .i64) v8)) (by simp [h2, h2_]) rfl [] [(3, .cells [Iz v6, AV.lst false false (List.map api_Edge.av v7), Lz v8])] trivial ⟨⟨by simp, AObj.cells [Iz v6, AV.lst false false (List.map api_Edge.av v7), AV.slc 2 0 1 v8.length false], by simp [h2, h2_], (.mk (.cons (.same _) (.cons (.same _) (.cons (.l (by simp) (by simp) (by simp) (by simp)) .nil))))⟩, trivial⟩ ?_
  refine WK [(3, AV.ptr 0 0), (4, AV.ptr 3 0)] [(0, .cells [Lz v4, Iz v9]), (3, .cells [Iz v6, AV.lst false false (List.map api_Edge.av v7), Lz v8])] 4 (by simp [h2, h2_]) (by simp [h2, h2_]) ?_
  refine SQ [] [none, none, none, none, none] fun _ _ g r => ?_
  try simp [h2, h2_]
  and_intros
  try any_goals first | omega | (simp [h2, h2_, maxLen] <;> omega)
  obtain ⟨v10, v11, v12, v13, h6, hF⟩ := bnd4_elim hF
  refine aCall_l (w_made_Dice_Policy k _ _ _ _ _ _ _ _ _ h6) (by simp) [0] [] [0] rfl (.cons (.same (by simp [h2, h2_])) (.cons (.same (by simp [h2, h2_])) .nil)) (by simp [h2, h2_]) (by decide) (by simp) (by simp) (.inl rfl) (by simp) (by simp) ?_
  try simp [h2, h2_]
  and_intros <;> first | exact g _ (by kernel_rfl) | refine r _ _ _ ?_ | omega | (simp [h2, h2_, maxLen] <;> omega)
  refine WK [(3, AV.ptr 0 0), (4, AV.ptr 3 0), (5, AV.ptr 5 0)] [(0, .cells [Lz v4, Iz v13]), (3, .cells [Iz v6, AV.lst false false (List.map api_Edge.av v7), Lz v8]), (4, .grow (List.map (AV.int .i64) v11)), (5, .cells [Lz v10, AV.slc 4 0 1 v11.length false, Iz v12])] 6 (by simp [h2, h2_]) (by simp [h2, h2_]) ?_
  refine AW.frz 4 (o := .grow (List.map (AV.int .i64) v11)) (by simp [h2, h2_]) rfl [] [(5, .cells [Lz v10, Lz v11, Iz v12])] trivial ⟨⟨by simp, AObj.cells [Lz v10, AV.slc 4 0 1 v11.length false, Iz v12], by simp [h2, h2_], (.mk (.cons (.same _) (.cons (.l (by simp) (by simp) (by simp) (by simp)) (.cons (.same _) .nil))))⟩, trivial⟩ ?_
  refine WK [(3, AV.ptr 0 0), (4, AV.ptr 3 0), (5, AV.ptr 5 0)] [(0, .cells [Lz v4, Iz v13]), (3, .cells [Iz v6, AV.lst false false (List.map api_Edge.av v7), Lz v8]), (5, .cells [Lz v10, Lz v11, Iz v12])] 6 (by simp [h2, h2_]) (by simp [h2, h2_]) ?_
  refine SQ [] [none, none, none, none, none] fun _ _ g r => ?_
  try simp [h2, h2_]
  and_intros
  try any_goals first | omega | (simp [h2, h2_, maxLen] <;> omega)
  obtain ⟨v14, v15, h7, hF⟩ := bnd2_elim hF
  refine aCall_l (w_made_Dice_Some k _ _ _ _ _ h7) (by simp) [0] [] [0] rfl (.cons (.same (by simp [h2, h2_])) (.cons (.same (by simp [h2, h2_])) .nil)) (by simp [h2, h2_]) (by decide) (by simp) (by simp) (.inl rfl) (by simp) (by simp) ?_
  try simp [h2, h2_]
  and_intros <;> first | exact g _ (by kernel_rfl) | refine r _ _ _ ?_ | omega | (simp [h2, h2_, maxLen] <;> omega)
  refine WK [(4, AV.ptr 3 0), (5, AV.ptr 5 0), (6, AV.slc 6 0 1 v14.length false)] [(3, .cells [Iz v6, AV.lst false false (List.map api_Edge.av v7), Lz v8]), (5, .cells [Lz v10, Lz v11, Iz v12]), (6, .grow (List.map (AV.int .i64) v14))] 7 (by simp [h2, h2_]) (by simp [h2, h2_]) ?_
  refine AW.frz 6 (o := .grow (List.map (AV.int .i64) v14)) (by simp [h2, h2_]) rfl [(6, Lz v14)] [] ⟨(.l (by simp) (by simp) (by simp) (by simp)), trivial⟩ trivial ?_
  refine WK [(4, AV.ptr 3 0), (5, AV.ptr 5 0), (6, Lz v14)] [(3, .cells [Iz v6, AV.lst false false (List.map api_Edge.av v7), Lz v8]), (5, .cells [Lz v10, Lz v11, Iz v12])] 7 (by simp [h2, h2_]) (by simp [h2, h2_]) ?_
  refine SQ [] [none, none, none, none, none, none, none, none, none, none] fun _ _ g r => ?_
  try simp [h2, h2_]
  and_intros
  try any_goals first | omega | (simp [h2, h2_, maxLen] <;> omega)
  obtain ⟨v16, v17, v18, h8, hF⟩ := bnd3_elim hF
  refine AC (w_split_Network k _ _ _ _ _ _ _ _ _ _ h8) (.cons (.same (by simp [h2, h2_])) (.cons (.same (by simp [h2, h2_])) (.cons (.same (by simp [h2, h2_])) .nil))) ?_
  try simp [h2, h2_]
  and_intros <;> first | exact g _ (by kernel_rfl) | refine r _ _ _ ?_ | omega | (simp [h2, h2_, maxLen] <;> omega)
  refine WK [(4, AV.ptr 3 0), (5, AV.ptr 5 0), (6, Lz v14), (7, AV.ptr 8 0), (8, Iz v18)] [(3, .cells [Iz v6, AV.lst false false (List.map api_Edge.av v7), Lz v8]), (5, .cells [Lz v10, Lz v11, Iz v12]), (7, .grow (flatA (List.map api_Arc.av v17))), (8, .cells [Iz v16, AV.slc 7 0 3 v17.length false])] 9 (by simp [h2, h2_]) (by simp [h2, h2_]) ?_
  refine AW.frz 7 (o := .grow (flatA (List.map api_Arc.av v17))) (by simp [h2, h2_]) rfl [] [(8, .cells [Iz v16, AV.lst false false (List.map api_Arc.av v17)])] trivial ⟨⟨by simp, AObj.cells [Iz v16, AV.slc 7 0 3 v17.length false], by simp [h2, h2_], (.mk (.cons (.same _) (.cons (.l (by simp) (by simp) (by simp) (by simp)) .nil)))⟩, trivial⟩ ?_
  refine WK [(4, AV.ptr 3 0), (5, AV.ptr 5 0), (6, Lz v14), (7, AV.ptr 8 0), (8, Iz v18)] [(3, .cells [Iz v6, AV.lst false false (List.map api_Edge.av v7), Lz v8]), (5, .cells [Lz v10, Lz v11, Iz v12]), (8, .cells [Iz v16, AV.lst false false (List.map api_Arc.av v17)])] 9 (by simp [h2, h2_]) (by simp [h2, h2_]) ?_
  refine SQ [] [none, none, none, none] fun _ _ g r => ?_
  try simp [h2, h2_]
  and_intros
  try any_goals first | omega | (simp [h2, h2_, maxLen] <;> omega)
  obtain ⟨v19, h9, hF⟩ := bnd1_elim hF
  refine AC (w_ref13_All k _ _ _ _ _ _ _ h9) (.cons (.same (by simp [h2, h2_])) (.cons (.same (by simp [h2, h2_])) .nil)) ?_
  try simp [h2, h2_]
  and_intros <;> first | exact g _ (by kernel_rfl) | refine r _ _ _ ?_ | omega | (simp [h2, h2_, maxLen] <;> omega)
  refine WK [(4, AV.ptr 3 0), (5, AV.ptr 5 0), (6, Lz v14), (7, AV.ptr 8 0), (8, Iz v18), (9, AV.slc 9 0 1 v19.length false)] [(3, .cells [Iz v6, AV.lst false false (List.map api_Edge.av v7), Lz v8]), (5, .cells [Lz v10, Lz v11, Iz v12]), (8, .cells [Iz v16, AV.lst false false (List.map api_Arc.av v17)]), (9, .grow (List.map (AV.int .i64) v19))] 10 (by simp [h2, h2_]) (by simp [h2, h2_]) ?_
  refine AW.frz 9 (o := .grow (List.map (AV.int .i64) v19)) (by simp [h2, h2_]) rfl [(9, Lz v19)] [] ⟨(.l (by simp) (by simp) (by simp) (by simp)), trivial⟩ trivial ?_
  refine WK [(4, AV.ptr 3 0), (5, AV.ptr 5 0), (6, Lz v14), (7, AV.ptr 8 0), (8, Iz v18), (9, Lz v19)] [(3, .cells [Iz v6, AV.lst false false (List.map api_Edge.av v7), Lz v8]), (5, .cells [Lz v10, Lz v11, Iz v12]), (8, .cells [Iz v16, AV.lst false false (List.map api_Arc.av v17)])] 10 (by simp [h2, h2_]) (by simp [h2, h2_]) ?_
  refine AW.seq fun K914 hK914 => ?_
  refine SQ [] [none, none, none, some (45, false), some (45, false), some (45, false), some (45, false), some (45, false), some (45, false), some (45, false), none, none, some (54, false), some (54, false), some (54, false), some (54, false), none] fun _ _ g r => ?_
  by_cases h10 : v18 ≠ 0
  ·replace hF := ite_t h10 hF
   have h10_ := eqb_f h10
   have h10__ := neb_t h10
   have F1 := And.intro h2 (And.intro h2_ (And.intro h10 (And.intro h10_ h10__)))
   try simp [F1]
   and_intros <;> first | exact g _ (by kernel_rfl) | refine r _ _ _ ?_ | omega | (simp [maxLen, F1] <;> omega)
   refine WK [(4, AV.ptr 3 0), (5, AV.ptr 5 0), (6, Lz v14), (7, AV.ptr 8 0), (9, Lz v19), (59, AV.bool true)] [(3, .cells [Iz v6, AV.lst false false (List.map api_Edge.av v7), Lz v8]), (5, .cells [Lz v10, Lz v11, Iz v12]), (8, .cells [Iz v16, AV.lst false false (List.map api_Arc.av v17)])] 10 (by simp [F1]) (by simp [F1]) ?_
   refine CT (by simp [F1]) ?_
   refine SQ [] [none] fun _ _ g r => ?_
   try simp [F1]
   and_intros <;> first | exact g _ (by kernel_rfl) | refine r _ _ _ ?_ | omega | (simp [maxLen, F1] <;> omega)
   refine WK [(2, AV.bool false)] [] 10 (by simp [F1]) (by simp [F1]) ?_
   simp only [Option.some.injEq] at hF
   subst hF
   refine AW.ret (hQ _ _ _ ?_ (matchO_0 ?_)).1
   ·simp [Try.f8, F1]
   ·simp [F1]
  ·replace hF := ite_f h10 hF
   have h10q : v18 = 0 := Classical.not_not.1 h10
   have h10_ := eqb_t h10q
   have h10__ := neb_f h10q
   by_cases h11 : v16 ≠ (IntKind.wrap .i64 (2 + IntKind.wrap .i64 (2 * v6)))
   ·replace hF := ite_t h11 hF
    have h11_ := eqb_f h11
    have h11__ := neb_t h11
    have F2 := And.intro h2 (And.intro h2_ (And.intro h10_ (And.intro h10__ (And.intro h10q (And.intro h11 (And.intro h11_ h11__))))))
    try simp [F2]
    and_intros <;> first | exact g _ (by kernel_rfl) | refine r _ _ _ ?_ | omega | (simp [maxLen, F2] <;> omega)
    refine WK [(4, AV.ptr 3 0), (5, AV.ptr 5 0), (6, Lz v14), (7, AV.ptr 8 0), (9, Lz v19), (59, AV.bool true)] [(3, .cells [Iz v6, AV.lst false false (List.map api_Edge.av v7), Lz v8]), (5, .cells [Lz v10, Lz v11, Iz v12]), (8, .cells [Iz v16, AV.lst false false (List.map api_Arc.av v17)])] 10 (by simp [F2]) (by simp [F2]) ?_
    refine CT (by simp [F2]) ?_
    refine SQ [] [none] fun _ _ g r => ?_
    try simp [F2]
    and_intros <;> first | exact g _ (by kernel_rfl) | refine r _ _ _ ?_ | omega | (simp [maxLen, F2] <;> omega)
    refine WK [(2, AV.bool false)] [] 10 (by simp [F2]) (by simp [F2]) ?_
    simp only [Option.some.injEq] at hF
    subst hF
    refine AW.ret (hQ _ _ _ ?_ (matchO_0 ?_)).1
    ·simp [Try.f8, F2]
    ·simp [F2]
   ·replace hF := ite_f h11 hF
    have h11q : v16 = (IntKind.wrap .i64 (2 + IntKind.wrap .i64 (2 * v6))) := Classical.not_not.1 h11
    have h11_ := eqb_t h11q
    have h11__ := neb_f h11q
    have F3 := And.intro h2 (And.intro h2_ (And.intro h10_ (And.intro h10__ (And.intro h10q (And.intro h11_ h11__)))))
    try simp [F3]
    and_intros <;> first | exact g _ (by kernel_rfl) | refine r _ _ _ ?_ | omega | (simp [maxLen, F3] <;> omega)
    refine WK [(4, AV.ptr 3 0), (5, AV.ptr 5 0), (6, Lz v14), (7, AV.ptr 8 0), (9, Lz v19), (59, AV.bool (decide (1200 < (v17.length : Int))))] [(3, .cells [Iz v6, AV.lst false false (List.map api_Edge.av v7), Lz v8]), (5, .cells [Lz v10, Lz v11, Iz v12]), (8, .cells [Iz v16, AV.lst false false (List.map api_Arc.av v17)])] 10 (by simp [F3]) (by simp [F3]) ?_
    by_cases h12 : 1200 < (v17.length : Int)
    ·replace hF := ite_t h12 hF
     have h12_ := h12
     try simp at h12_
     have F4 := And.intro F3 (And.intro h12 h12_)
     refine CT (by simp [F4] <;> omega) ?_
     refine SQ [] [none] fun _ _ g r => ?_
     try simp [F4]
     and_intros <;> first | exact g _ (by kernel_rfl) | refine r _ _ _ ?_ | omega | (simp [maxLen, F4] <;> omega)
     refine WK [(2, AV.bool false)] [] 10 (by simp [F4]) (by simp [F4]) ?_
     simp only [Option.some.injEq] at hF
     subst hF
     refine AW.ret (hQ _ _ _ ?_ (matchO_0 ?_)).1
     ·simp [Try.f8, F4]
     ·simp [F4]
    ·replace hF := ite_f h12 hF
     have h12_ := h12
     try simp at h12_
     have F5 := And.intro F3 (And.intro h12 h12_)
     refine CF (by simp [F5] <;> omega) ?_
     refine AW.skip ?_
     refine hK914 _ _ _ ?_
     refine SQ [] [none, none] fun _ _ g r => ?_
     try simp [F5]
     and_intros <;> first | exact g _ (by kernel_rfl) | refine r _ _ _ ?_ | omega | (simp [maxLen, F5] <;> omega)
     refine WK [(4, AV.ptr 3 0), (5, AV.ptr 5 0), (6, Lz v14), (7, AV.ptr 8 0), (9, Lz v19), (10, Iz 0), (11, Iz 0)] [(3, .cells [Iz v6, AV.lst false false (List.map api_Edge.av v7), Lz v8]), (5, .cells [Lz v10, Lz v11, Iz v12]), (8, .cells [Iz v16, AV.lst false false (List.map api_Arc.av v17)])] 10 (by simp [F5]) (by simp [F5]) ?_
     refine AW.seq fun K1278 hK1278 => ?_
     refine SQ [] [none] fun _ _ g r => ?_
     try simp [F5]
     and_intros <;> first | exact g _ (by kernel_rfl) | refine r _ _ _ ?_ | omega | (simp [maxLen, F5] <;> omega)
     refine WK [(4, AV.ptr 3 0), (5, AV.ptr 5 0), (6, Lz v14), (7, AV.ptr 8 0), (9, Lz v19), (10, Iz 0), (11, Iz 0), (12, Iz 0)] [(3, .cells [Iz v6, AV.lst false false (List.map api_Edge.av v7), Lz v8]), (5, .cells [Lz v10, Lz v11, Iz v12]), (8, .cells [Iz v16, AV.lst false false (List.map api_Arc.av v17)])] 10 (by simp [F5]) (by simp [F5]) ?_
     refine AW.block ?_
     refine RM h0 [(0, 3), (1, 5), (2, 8)] [(4, AV.ptr 0 0), (5, AV.ptr 1 0), (6, Lz v14), (7, AV.ptr 2 0), (9, Lz v19), (10, Iz 0), (11, Iz 0), (12, Iz 0)] [(0, .cells [Iz v6, AV.lst false false (List.map api_Edge.av v7), Lz v8]), (1, .cells [Lz v10, Lz v11, Iz v12]), (2, .cells [Iz v16, AV.lst false false (List.map api_Arc.av v17)])] 3 (by simp [F5]) (by simp [F5]) ?_
     refine AW.loopF (α := (Int × Int × Int)) (fun n (v20, v21, v22) => law14_SplitShape.L1 k v6 v10 v14 v16 v17 v19 n v20 v21 v22 = some v1) (fun (v20, v21, v22) => [(4, AV.ptr 0 0), (5, AV.ptr 1 0), (6, Lz v14), (7, AV.ptr 2 0), (9, Lz v19), (10, Iz v20), (11, Iz v21), (12, Iz v22)]) (fun (v20, v21, v22) => [(0, .cells [Iz v6, AV.lst false false (List.map api_Edge.av v7), Lz v8]), (1, .cells [Lz v10, Lz v11, Iz v12]), (2, .cells [Iz v16, AV.lst false false (List.map api_Arc.av v17)])]) 3 k ((0, 0, 0)) hF (by simp [F5]) (by simp [F5]) (by simp) ?_
     rintro (_|n1) ⟨v20, v21, v22⟩ hF K1547 hK1547
     ·try dsimp only at hF
      rw [law14_SplitShape.L1] at hF; cases hF
     try dsimp only at hF
     rw [law14_SplitShape.L1] at hF
     refine AW.seq fun K1549 hK1549 => ?_
     refine SQ [] [none, none, none, none, none] fun _ _ g r => ?_
     try simp [F5]
     and_intros <;> first | exact g _ (by kernel_rfl) | refine r _ _ _ ?_ | omega | (simp [maxLen, F5] <;> omega)
     refine WK [(4, AV.ptr 0 0), (5, AV.ptr 1 0), (6, Lz v14), (7, AV.ptr 2 0), (9, Lz v19), (10, Iz v20), (11, Iz v21), (12, Iz v22), (64, AV.bool (decide (v22 < (v17.length : Int))))] [(0, .cells [Iz v6, AV.lst false false (List.map api_Edge.av v7), Lz v8]), (1, .cells [Lz v10, Lz v11, Iz v12]), (2, .cells [Iz v16, AV.lst false false (List.map api_Arc.av v17)])] 3 (by simp [F5]) (by simp [F5]) ?_
     by_cases h13 : v22 < (v17.length : Int)
     ·replace hF := ite_t h13 hF
      have h13_ := h13
      try simp at h13_
      have F6 := And.intro F5 (And.intro h13 h13_)
      refine CT (by simp [F6] <;> omega) ?_
      refine AW.skip ?_
      refine hK1549 _ _ _ ?_
      refine AW.midF (α := (Int × Int)) (fun (v23, v24) => law14_SplitShape.J2 k v22 (fun v20_ v21_ v22_ => law14_SplitShape.L1 k v6 v10 v14 v16 v17 v19 n1 v20_ v21_ v22_) v23 v24 = some v1) (fun (v23, v24) => [(4, AV.ptr 0 0), (5, AV.ptr 1 0), (6, Lz v14), (7, AV.ptr 2 0), (9, Lz v19), (10, Iz v23), (11, Iz v24), (12, Iz v22)]) (fun (v23, v24) => [(0, .cells [Iz v6, AV.lst false false (List.map api_Edge.av v7), Lz v8]), (1, .cells [Lz v10, Lz v11, Iz v12]), (2, .cells [Iz v16, AV.lst false false (List.map api_Arc.av v17)])]) 3 (fun K1594 hK1594 => ?_) ?_
      ·refine AW.block ?_
       refine SQ [] [none, none, none, none, none, none, none] fun _ _ g r => ?_
       obtain ⟨v25, h14, h15, h16, hF⟩ := idx_elim hF
       have h16_ := get_of h16
       try simp at h16_
       have h15_ := h15
       try simp at h15_
       have F7 := And.intro F6 (And.intro h14 (And.intro h15 (And.intro h16 (And.intro h16_ h15_))))
       try simp [F7]
       and_intros <;> first | exact g _ (by kernel_rfl) | refine r _ _ _ ?_ | omega | (simp [maxLen, F7] <;> omega)
       refine WK [(4, AV.ptr 0 0), (5, AV.ptr 1 0), (6, Lz v14), (7, AV.ptr 2 0), (9, Lz v19), (10, Iz v20), (11, Iz v21), (12, Iz v22), (13, AV.ptr 3 0)] [(0, .cells [Iz v6, AV.lst false false (List.map api_Edge.av v7), Lz v8]), (1, .cells [Lz v10, Lz v11, Iz v12]), (2, .cells [Iz v16, AV.lst false false (List.map api_Arc.av v17)]), (3, .cells [Iz v25.From, Iz v25.To, Iz v25.Cap])] 4 (by simp [F7]) (by simp [F7]) ?_
       refine AW.seq fun K1603 hK1603 => ?_
       refine SQ [] [none, none, none, none, some (75, false), some (75, false), some (75, false), none, none, some (80, false), some (80, false), some (80, false), none, none, some (85, false), some (85, false), some (85, false), none, none, some (90, false), some (90, false), some (90, false), some (90, false), some (90, false), none, none, some (97, false), some (97, false), some (97, false), some (97, false), some (97, false), none] fun _ _ g r => ?_
       by_cases h17 : v25.From = 1
       ·replace hF := ite_t h17 hF
        have h17q : v25.From = 1 := h17
        have h17_ := eqb_t h17q
        have h17__ := neb_f h17q
        have F8 := And.intro F7 (And.intro h17_ (And.intro h17__ h17q))
        try simp [F8]
        and_intros <;> first | exact g _ (by kernel_rfl) | refine r _ _ _ ?_ | omega | (simp [maxLen, F8] <;> omega)
        refine WK [(4, AV.ptr 0 0), (5, AV.ptr 1 0), (6, Lz v14), (7, AV.ptr 2 0), (9, Lz v19), (10, Iz v20), (11, Iz v21), (12, Iz v22), (13, AV.ptr 3 0), (103, AV.bool true)] [(0, .cells [Iz v6, AV.lst false false (List.map api_Edge.av v7), Lz v8]), (1, .cells [Lz v10, Lz v11, Iz v12]), (2, .cells [Iz v16, AV.lst false false (List.map api_Arc.av v17)]), (3, .cells [Iz v25.From, Iz v25.To, Iz v25.Cap])] 4 (by simp [F8]) (by simp [F8]) ?_
        refine CT (by simp [F8]) ?_
        refine SQ [] [none] fun _ _ g r => ?_
        try simp [F8]
        and_intros <;> first | exact g _ (by kernel_rfl) | refine r _ _ _ ?_ | omega | (simp [maxLen, F8] <;> omega)
        refine WK [(2, AV.bool false)] [] 4 (by simp [F8]) (by simp [F8]) ?_
        simp only [Option.some.injEq] at hF
        subst hF
        refine AW.ret (hQ _ _ _ ?_ (matchO_0 ?_)).1
        ·simp [Try.f8, F8]
        ·simp [F8]
       ·replace hF := ite_f h17 hF
        have h17_ := eqb_f h17
        have h17__ := neb_t h17
        by_cases h18 : v25.To = 0
        ·replace hF := ite_t h18 hF
         have h18q : v25.To = 0 := h18
         have h18_ := eqb_t h18q
         have h18__ := neb_f h18q
         have F9 := And.intro F7 (And.intro h17 (And.intro h17_ (And.intro h17__ (And.intro h18_ (And.intro h18__ h18q)))))
         try simp [F9]
         and_intros <;> first | exact g _ (by kernel_rfl) | refine r _ _ _ ?_ | omega | (simp [maxLen, F9] <;> omega)
         refine WK [(4, AV.ptr 0 0), (5, AV.ptr 1 0), (6, Lz v14), (7, AV.ptr 2 0), (9, Lz v19), (10, Iz v20), (11, Iz v21), (12, Iz v22), (13, AV.ptr 3 0), (103, AV.bool true)] [(0, .cells [Iz v6, AV.lst false false (List.map api_Edge.av v7), Lz v8]), (1, .cells [Lz v10, Lz v11, Iz v12]), (2, .cells [Iz v16, AV.lst false false (List.map api_Arc.av v17)]), (3, .cells [Iz v25.From, Iz v25.To, Iz v25.Cap])] 4 (by simp [F9]) (by simp [F9]) ?_
         refine CT (by simp [F9]) ?_
         refine SQ [] [none] fun _ _ g r => ?_
         try simp [F9]
         and_intros <;> first | exact g _ (by kernel_rfl) | refine r _ _ _ ?_ | omega | (simp [maxLen, F9] <;> omega)
         refine WK [(2, AV.bool false)] [] 4 (by simp [F9]) (by simp [F9]) ?_
         simp only [Option.some.injEq] at hF
         subst hF
         refine AW.ret (hQ _ _ _ ?_ (matchO_0 ?_)).1
         ·simp [Try.f8, F9]
         ·simp [F9]
        ·replace hF := ite_f h18 hF
         have h18_ := eqb_f h18
         have h18__ := neb_t h18
         by_cases h19 : v25.From < 0
         ·replace hF := ite_t h19 hF
          have h19_ := h19
          try simp at h19_
          have F10 := And.intro F7 (And.intro h17 (And.intro h17_ (And.intro h17__ (And.intro h18 (And.intro h18_ (And.intro h18__ (And.intro h19 h19_)))))))
          try simp [F10]
          and_intros <;> first | exact g _ (by kernel_rfl) | refine r _ _ _ ?_ | omega | (simp [maxLen, F10] <;> omega)
          refine WK [(4, AV.ptr 0 0), (5, AV.ptr 1 0), (6, Lz v14), (7, AV.ptr 2 0), (9, Lz v19), (10, Iz v20), (11, Iz v21), (12, Iz v22), (13, AV.ptr 3 0), (103, AV.bool true)] [(0, .cells [Iz v6, AV.lst false false (List.map api_Edge.av v7), Lz v8]), (1, .cells [Lz v10, Lz v11, Iz v12]), (2, .cells [Iz v16, AV.lst false false (List.map api_Arc.av v17)]), (3, .cells [Iz v25.From, Iz v25.To, Iz v25.Cap])] 4 (by simp [F10]) (by simp [F10]) ?_
          refine CT (by simp [F10]) ?_
          refine SQ [] [none] fun _ _ g r => ?_
          try simp [F10]
          and_intros <;> first | exact g _ (by kernel_rfl) | refine r _ _ _ ?_ | omega | (simp [maxLen, F10] <;> omega)
          refine WK [(2, AV.bool false)] [] 4 (by simp [F10]) (by simp [F10]) ?_
          simp only [Option.some.injEq] at hF
          subst hF
          refine AW.ret (hQ _ _ _ ?_ (matchO_0 ?_)).1
          ·simp [Try.f8, F10]
          ·simp [F10]
         ·replace hF := ite_f h19 hF
          have h19_ := h19
          try simp at h19_
          by_cases h20 : v25.To < 1
          ·replace hF := ite_t h20 hF
           have h20_ := h20
           try simp at h20_
           have F11 := And.intro F7 (And.intro h17 (And.intro h17_ (And.intro h17__ (And.intro h18 (And.intro h18_ (And.intro h18__ (And.intro h19 (And.intro h19_ (And.intro h20 h20_)))))))))
           try simp [F11]
           and_intros <;> first | exact g _ (by kernel_rfl) | refine r _ _ _ ?_ | omega | (simp [maxLen, F11] <;> omega)
           refine WK [(4, AV.ptr 0 0), (5, AV.ptr 1 0), (6, Lz v14), (7, AV.ptr 2 0), (9, Lz v19), (10, Iz v20), (11, Iz v21), (12, Iz v22), (13, AV.ptr 3 0), (103, AV.bool true)] [(0, .cells [Iz v6, AV.lst false false (List.map api_Edge.av v7), Lz v8]), (1, .cells [Lz v10, Lz v11, Iz v12]), (2, .cells [Iz v16, AV.lst false false (List.map api_Arc.av v17)]), (3, .cells [Iz v25.From, Iz v25.To, Iz v25.Cap])] 4 (by simp [F11]) (by simp [F11]) ?_
           refine CT (by simp [F11]) ?_
           refine SQ [] [none] fun _ _ g r => ?_
           try simp [F11]
           and_intros <;> first | exact g _ (by kernel_rfl) | refine r _ _ _ ?_ | omega | (simp [maxLen, F11] <;> omega)
           refine WK [(2, AV.bool false)] [] 4 (by simp [F11]) (by simp [F11]) ?_
           simp only [Option.some.injEq] at hF
           subst hF
           refine AW.ret (hQ _ _ _ ?_ (matchO_0 ?_)).1
           ·simp [Try.f8, F11]
           ·simp [F11]
          ·replace hF := ite_f h20 hF
           have h20_ := h20
           try simp at h20_
           by_cases h21 : v16 ≤ v25.From
           ·replace hF := ite_t h21 hF
            have h21_ := h21
            try simp at h21_
            have F12 := And.intro F7 (And.intro h17 (And.intro h17_ (And.intro h17__ (And.intro h18 (And.intro h18_ (And.intro h18__ (And.intro h19 (And.intro h19_ (And.intro h20 (And.intro h20_ (And.intro h21 h21_)))))))))))
            try simp [F12]
            and_intros <;> first | exact g _ (by kernel_rfl) | refine r _ _ _ ?_ | omega | (simp [maxLen, F12] <;> omega)
            refine WK [(4, AV.ptr 0 0), (5, AV.ptr 1 0), (6, Lz v14), (7, AV.ptr 2 0), (9, Lz v19), (10, Iz v20), (11, Iz v21), (12, Iz v22), (13, AV.ptr 3 0), (103, AV.bool true)] [(0, .cells [Iz v6, AV.lst false false (List.map api_Edge.av v7), Lz v8]), (1, .cells [Lz v10, Lz v11, Iz v12]), (2, .cells [Iz v16, AV.lst false false (List.map api_Arc.av v17)]), (3, .cells [Iz v25.From, Iz v25.To, Iz v25.Cap])] 4 (by simp [F12]) (by simp [F12]) ?_
            refine CT (by simp [F12]) ?_
            refine SQ [] [none] fun _ _ g r => ?_
            try simp [F12]
            and_intros <;> first | exact g _ (by kernel_rfl) | refine r _ _ _ ?_ | omega | (simp [maxLen, F12] <;> omega)
            refine WK [(2, AV.bool false)] [] 4 (by simp [F12]) (by simp [F12]) ?_
            simp only [Option.some.injEq] at hF
            subst hF
            refine AW.ret (hQ _ _ _ ?_ (matchO_0 ?_)).1
            ·simp [Try.f8, F12]
            ·simp [F12]
           ·replace hF := ite_f h21 hF
            have h21_ := h21
            try simp at h21_
            have F13 := And.intro F7 (And.intro h17 (And.intro h17_ (And.intro h17__ (And.intro h18 (And.intro h18_ (And.intro h18__ (And.intro h19 (And.intro h19_ (And.intro h20 (And.intro h20_ (And.intro h21 h21_)))))))))))
            try simp [F13]
            and_intros <;> first | exact g _ (by kernel_rfl) | refine r _ _ _ ?_ | omega | (simp [maxLen, F13] <;> omega)
            refine WK [(4, AV.ptr 0 0), (5, AV.ptr 1 0), (6, Lz v14), (7, AV.ptr 2 0), (9, Lz v19), (10, Iz v20), (11, Iz v21), (12, Iz v22), (13, AV.ptr 3 0), (103, AV.bool (decide (v16 ≤ v25.To)))] [(0, .cells [Iz v6, AV.lst false false (List.map api_Edge.av v7), Lz v8]), (1, .cells [Lz v10, Lz v11, Iz v12]), (2, .cells [Iz v16, AV.lst false false (List.map api_Arc.av v17)]), (3, .cells [Iz v25.From, Iz v25.To, Iz v25.Cap])] 4 (by simp [F13]) (by simp [F13]) ?_
            by_cases h22 : v16 ≤ v25.To
            ·replace hF := ite_t h22 hF
             have h22_ := h22
             try simp at h22_
             have F14 := And.intro F13 (And.intro h22 h22_)
             refine CT (by simp [F14] <;> omega) ?_
             refine SQ [] [none] fun _ _ g r => ?_
             try simp [F14]
             and_intros <;> first | exact g _ (by kernel_rfl) | refine r _ _ _ ?_ | omega | (simp [maxLen, F14] <;> omega)
             refine WK [(2, AV.bool false)] [] 4 (by simp [F14]) (by simp [F14]) ?_
             simp only [Option.some.injEq] at hF
             subst hF
             refine AW.ret (hQ _ _ _ ?_ (matchO_0 ?_)).1
             ·simp [Try.f8, F14]
             ·simp [F14]
            ·replace hF := ite_f h22 hF
             have h22_ := h22
             try simp at h22_
             have F15 := And.intro F13 (And.intro h22 h22_)
             refine CF (by simp [F15] <;> omega) ?_
             refine AW.skip ?_
             refine hK1603 _ _ _ ?_
             refine AW.block ?_
             refine SQ [] [none, none, none, none] fun _ _ g r => ?_
             try simp [F15]
             and_intros <;> first | exact g _ (by kernel_rfl) | refine r _ _ _ ?_ | omega | (simp [maxLen, F15] <;> omega)
             refine WK [(4, AV.ptr 0 0), (5, AV.ptr 1 0), (6, Lz v14), (7, AV.ptr 2 0), (9, Lz v19), (10, Iz v20), (11, Iz v21), (12, Iz v22), (13, AV.ptr 3 0), (137, AV.bool (v25.From == 0))] [(0, .cells [Iz v6, AV.lst false false (List.map api_Edge.av v7), Lz v8]), (1, .cells [Lz v10, Lz v11, Iz v12]), (2, .cells [Iz v16, AV.lst false false (List.map api_Arc.av v17)]), (3, .cells [Iz v25.From, Iz v25.To, Iz v25.Cap])] 4 (by simp [F15]) (by simp [F15]) ?_
             by_cases h23 : v25.From = 0
             ·replace hF := ite_t h23 hF
              have h23q : v25.From = 0 := h23
              have h23_ := eqb_t h23q
              have h23__ := neb_f h23q
              have h23_h19 := h19
              rw [h23q] at h23_h19
              have h23_h21 := h21
              rw [h23q] at h23_h21
              have F16 := And.intro F15 (And.intro h23_ (And.intro h23__ (And.intro h23q (And.intro h23_h19 h23_h21))))
              refine CT (by simp [F16] <;> omega) ?_
              refine SQ [] [none, none, none] fun _ _ g r => ?_
              try simp [F16]
              and_intros <;> first | exact g _ (by kernel_rfl) | refine r _ _ _ ?_ | omega | (simp [maxLen, F16] <;> omega)
              refine WK [(4, AV.ptr 0 0), (5, AV.ptr 1 0), (6, Lz v14), (7, AV.ptr 2 0), (9, Lz v19), (10, Iz (IntKind.wrap .i64 (v20 + 1))), (11, Iz v21), (12, Iz v22), (13, AV.ptr 3 0)] [(0, .cells [Iz v6, AV.lst false false (List.map api_Edge.av v7), Lz v8]), (1, .cells [Lz v10, Lz v11, Iz v12]), (2, .cells [Iz v16, AV.lst false false (List.map api_Arc.av v17)]), (3, .cells [Iz v25.From, Iz v25.To, Iz v25.Cap])] 4 (by simp [F16]) (by simp [F16]) ?_
              refine SQ [] [none, none, none, none, none] fun _ _ g r => ?_
              try simp [F16]
              and_intros <;> first | exact g _ (by kernel_rfl) | refine r _ _ _ ?_ | omega | (simp [maxLen, F16] <;> omega)
              refine WK [(4, AV.ptr 0 0), (5, AV.ptr 1 0), (6, Lz v14), (7, AV.ptr 2 0), (9, Lz v19), (10, Iz (IntKind.wrap .i64 (v20 + 1))), (11, Iz v21), (12, Iz v22), (13, AV.ptr 3 0), (14, Iz (IntKind.wrap .i64 (Int.tdiv (IntKind.wrap .i64 (v25.To - 2)) 2)))] [(0, .cells [Iz v6, AV.lst false false (List.map api_Edge.av v7), Lz v8]), (1, .cells [Lz v10, Lz v11, Iz v12]), (2, .cells [Iz v16, AV.lst false false (List.map api_Arc.av v17)]), (3, .cells [Iz v25.From, Iz v25.To, Iz v25.Cap])] 4 (by simp [F16]) (by simp [F16]) ?_
              refine SQ [] [none, none, none, none, none, none, some (152, false), some (152, false), some (152, false), some (152, false), some (152, false), none, none, some (159, false), some (159, false), some (159, false), some (159, false), some (159, false), some (159, false), some (159, false), none, none, some (168, false), some (168, false), some (168, false), none] fun _ _ g r => ?_
              try simp [F16]
              and_intros
              try any_goals first | omega | (simp [maxLen, F16] <;> omega)
              obtain ⟨v26, h24, hF⟩ := bnd1_elim hF
              refine AC (w_split_Entry k _ _ h24) (.cons (.same (by simp [F16])) .nil) ?_
              by_cases h25 : v25.To ≠ v26
              ·replace hF := ite_t h25 hF
               have h25_ := eqb_f h25
               have h25__ := neb_t h25
               have F17 := And.intro F16 (And.intro h25 (And.intro h25_ h25__))
               try simp [F17]
               and_intros <;> first | exact g _ (by kernel_rfl) | refine r _ _ _ ?_ | omega | (simp [maxLen, F17] <;> omega)
               refine WK [(4, AV.ptr 0 0), (5, AV.ptr 1 0), (6, Lz v14), (7, AV.ptr 2 0), (9, Lz v19), (10, Iz (IntKind.wrap .i64 (v20 + 1))), (11, Iz v21), (12, Iz v22), (172, AV.bool true)] [(0, .cells [Iz v6, AV.lst false false (List.map api_Edge.av v7), Lz v8]), (1, .cells [Lz v10, Lz v11, Iz v12]), (2, .cells [Iz v16, AV.lst false false (List.map api_Arc.av v17)])] 4 (by simp [F17]) (by simp [F17]) ?_
               refine CT (by simp [F17]) ?_
               refine SQ [] [none] fun _ _ g r => ?_
               try simp [F17]
               and_intros <;> first | exact g _ (by kernel_rfl) | refine r _ _ _ ?_ | omega | (simp [maxLen, F17] <;> omega)
               refine WK [(2, AV.bool false)] [] 4 (by simp [F17]) (by simp [F17]) ?_
               simp only [Option.some.injEq] at hF
               subst hF
               refine AW.ret (hQ _ _ _ ?_ (matchO_0 ?_)).1
               ·simp [Try.f8, F17]
               ·simp [F17]
              ·replace hF := ite_f h25 hF
               have h25q : v25.To = v26 := Classical.not_not.1 h25
               have h25_ := eqb_t h25q
               have h25__ := neb_f h25q
               have F18 := And.intro F16 (And.intro h25_ h25__)
               try simp [F18]
               and_intros
               try any_goals first | omega | (simp [maxLen, F18] <;> omega)
               obtain ⟨v27, h26, hF⟩ := bnd1_elim hF
               refine AC (w_ref11_Has k _ _ _ h26) (.cons (.same (by simp [F18])) (.cons (.same (by simp [F18])) .nil)) ?_
               by_cases h27 : (!v27) = true
               ·replace hF := ite_t h27 hF
                have h27_ := h27
                try simp at h27_
                have F19 := And.intro F18 (And.intro h27 h27_)
                try simp [F19]
                and_intros <;> first | exact g _ (by kernel_rfl) | refine r _ _ _ ?_ | omega | (simp [maxLen, F19] <;> omega)
                refine WK [(4, AV.ptr 0 0), (5, AV.ptr 1 0), (6, Lz v14), (7, AV.ptr 2 0), (9, Lz v19), (10, Iz (IntKind.wrap .i64 (v20 + 1))), (11, Iz v21), (12, Iz v22), (172, AV.bool true)] [(0, .cells [Iz v6, AV.lst false false (List.map api_Edge.av v7), Lz v8]), (1, .cells [Lz v10, Lz v11, Iz v12]), (2, .cells [Iz v16, AV.lst false false (List.map api_Arc.av v17)])] 4 (by simp [F19]) (by simp [F19]) ?_
                refine CT (by simp [F19]) ?_
                refine SQ [] [none] fun _ _ g r => ?_
                try simp [F19]
                and_intros <;> first | exact g _ (by kernel_rfl) | refine r _ _ _ ?_ | omega | (simp [maxLen, F19] <;> omega)
                refine WK [(2, AV.bool false)] [] 4 (by simp [F19]) (by simp [F19]) ?_
                simp only [Option.some.injEq] at hF
                subst hF
                refine AW.ret (hQ _ _ _ ?_ (matchO_0 ?_)).1
                ·simp [Try.f8, F19]
                ·simp [F19]
               ·replace hF := ite_f h27 hF
                have h27_ := h27
                try simp at h27_
                obtain ⟨v28, h28, h29, h30, hF⟩ := idx_elim hF
                have h30_ := get_of h30
                try simp at h30_
                have h29_ := h29
                try simp at h29_
                by_cases h31 : v25.Cap ≠ v28
                ·replace hF := ite_t h31 hF
                 have h31_ := eqb_f h31
                 have h31__ := neb_t h31
                 have F20 := And.intro F18 (And.intro h27 (And.intro h27_ (And.intro h28 (And.intro h29 (And.intro h30 (And.intro h30_ (And.intro h29_ (And.intro h31 (And.intro h31_ h31__)))))))))
                 try simp [F20]
                 and_intros <;> first | exact g _ (by kernel_rfl) | refine r _ _ _ ?_ | omega | (simp [maxLen, F20] <;> omega)
                 refine WK [(4, AV.ptr 0 0), (5, AV.ptr 1 0), (6, Lz v14), (7, AV.ptr 2 0), (9, Lz v19), (10, Iz (IntKind.wrap .i64 (v20 + 1))), (11, Iz v21), (12, Iz v22), (172, AV.bool true)] [(0, .cells [Iz v6, AV.lst false false (List.map api_Edge.av v7), Lz v8]), (1, .cells [Lz v10, Lz v11, Iz v12]), (2, .cells [Iz v16, AV.lst false false (List.map api_Arc.av v17)])] 4 (by simp [F20]) (by simp [F20]) ?_
                 refine CT (by simp [F20]) ?_
                 refine SQ [] [none] fun _ _ g r => ?_
                 try simp [F20]
                 and_intros <;> first | exact g _ (by kernel_rfl) | refine r _ _ _ ?_ | omega | (simp [maxLen, F20] <;> omega)
                 refine WK [(2, AV.bool false)] [] 4 (by simp [F20]) (by simp [F20]) ?_
                 simp only [Option.some.injEq] at hF
                 subst hF
                 refine AW.ret (hQ _ _ _ ?_ (matchO_0 ?_)).1
                 ·simp [Try.f8, F20]
                 ·simp [F20]
                ·replace hF := ite_f h31 hF
                 have h31q : v25.Cap = v28 := Classical.not_not.1 h31
                 have h31_ := eqb_t h31q
                 have h31__ := neb_f h31q
                 have F21 := And.intro F18 (And.intro h27 (And.intro h27_ (And.intro h28 (And.intro h29 (And.intro h30 (And.intro h30_ (And.intro h29_ (And.intro h31_ h31__))))))))
                 try simp [F21]
                 and_intros <;> first | exact g _ (by kernel_rfl) | refine r _ _ _ ?_ | omega | (simp [maxLen, F21] <;> omega)
                 refine WK [(4, AV.ptr 0 0), (5, AV.ptr 1 0), (6, Lz v14), (7, AV.ptr 2 0), (9, Lz v19), (10, Iz (IntKind.wrap .i64 (v20 + 1))), (11, Iz v21), (12, Iz v22), (172, AV.bool (decide (v25.Cap < 1)))] [(0, .cells [Iz v6, AV.lst false false (List.map api_Edge.av v7), Lz v8]), (1, .cells [Lz v10, Lz v11, Iz v12]), (2, .cells [Iz v16, AV.lst false false (List.map api_Arc.av v17)])] 4 (by simp [F21]) (by simp [F21]) ?_
                 by_cases h32 : v25.Cap < 1
                 ·replace hF := ite_t h32 hF
                  have h32_ := h32
                  try simp at h32_
                  have F22 := And.intro F21 (And.intro h32 h32_)
                  refine CT (by simp [F22] <;> omega) ?_
                  refine SQ [] [none] fun _ _ g r => ?_
                  try simp [F22]
                  and_intros <;> first | exact g _ (by kernel_rfl) | refine r _ _ _ ?_ | omega | (simp [maxLen, F22] <;> omega)
                  refine WK [(2, AV.bool false)] [] 4 (by simp [F22]) (by simp [F22]) ?_
                  simp only [Option.some.injEq] at hF
                  subst hF
                  refine AW.ret (hQ _ _ _ ?_ (matchO_0 ?_)).1
                  ·simp [Try.f8, F22]
                  ·simp [F22]
                 ·replace hF := ite_f h32 hF
                  have h32_ := h32
                  try simp at h32_
                  have F23 := And.intro F21 (And.intro h32 h32_)
                  refine CF (by simp [F23] <;> omega) ?_
                  refine AW.skip ?_
                  refine hK1594 _ _ _ ?_
                  refine RN h0 [(0, 0), (1, 1), (2, 2)] [(4, AV.ptr 0 0), (5, AV.ptr 1 0), (6, Lz v14), (7, AV.ptr 2 0), (9, Lz v19), (10, Iz (IntKind.wrap .i64 (v20 + 1))), (11, Iz v21), (12, Iz v22)] [(0, .cells [Iz v6, AV.lst false false (List.map api_Edge.av v7), Lz v8]), (1, .cells [Lz v10, Lz v11, Iz v12]), (2, .cells [Iz v16, AV.lst false false (List.map api_Arc.av v17)])] 3 (by simp [F23]) (by simp [F23]) ?_
                  exact JN ((IntKind.wrap .i64 (v20 + 1), v21)) hF (by simp [F23]) (by simp [F23])
             ·replace hF := ite_f h23 hF
              have h23_ := eqb_f h23
              have h23__ := neb_t h23
              have F24 := And.intro F15 (And.intro h23 (And.intro h23_ h23__))
              refine CF (by simp [F24] <;> omega) ?_
              refine SQ [] [none, none, none, none] fun _ _ g r => ?_
              try simp [F24]
              and_intros <;> first | exact g _ (by kernel_rfl) | refine r _ _ _ ?_ | omega | (simp [maxLen, F24] <;> omega)
              refine WK [(4, AV.ptr 0 0), (5, AV.ptr 1 0), (6, Lz v14), (7, AV.ptr 2 0), (9, Lz v19), (10, Iz v20), (11, Iz v21), (12, Iz v22), (13, AV.ptr 3 0), (173, AV.bool (v25.To == 1))] [(0, .cells [Iz v6, AV.lst false false (List.map api_Edge.av v7), Lz v8]), (1, .cells [Lz v10, Lz v11, Iz v12]), (2, .cells [Iz v16, AV.lst false false (List.map api_Arc.av v17)]), (3, .cells [Iz v25.From, Iz v25.To, Iz v25.Cap])] 4 (by simp [F24]) (by simp [F24]) ?_
              by_cases h33 : v25.To = 1
              ·replace hF := ite_t h33 hF
               have h33q : v25.To = 1 := h33
               have h33_ := eqb_t h33q
               have h33__ := neb_f h33q
               have h33_h20 := h20
               rw [h33q] at h33_h20
               have h33_h22 := h22
               rw [h33q] at h33_h22
               have F25 := And.intro F24 (And.intro h33_ (And.intro h33__ (And.intro h33q (And.intro h33_h20 h33_h22))))
               refine CT (by simp [F25] <;> omega) ?_
               refine SQ [] [none, none, none] fun _ _ g r => ?_
               try simp [F25]
               and_intros <;> first | exact g _ (by kernel_rfl) | refine r _ _ _ ?_ | omega | (simp [maxLen, F25] <;> omega)
               refine WK [(4, AV.ptr 0 0), (5, AV.ptr 1 0), (6, Lz v14), (7, AV.ptr 2 0), (9, Lz v19), (10, Iz v20), (11, Iz (IntKind.wrap .i64 (v21 + 1))), (12, Iz v22), (13, AV.ptr 3 0)] [(0, .cells [Iz v6, AV.lst false false (List.map api_Edge.av v7), Lz v8]), (1, .cells [Lz v10, Lz v11, Iz v12]), (2, .cells [Iz v16, AV.lst false false (List.map api_Arc.av v17)]), (3, .cells [Iz v25.From, Iz v25.To, Iz v25.Cap])] 4 (by simp [F25]) (by simp [F25]) ?_
               refine SQ [] [none, none, none, none, none] fun _ _ g r => ?_
               try simp [F25]
               and_intros <;> first | exact g _ (by kernel_rfl) | refine r _ _ _ ?_ | omega | (simp [maxLen, F25] <;> omega)
               refine WK [(4, AV.ptr 0 0), (5, AV.ptr 1 0), (6, Lz v14), (7, AV.ptr 2 0), (9, Lz v19), (10, Iz v20), (11, Iz (IntKind.wrap .i64 (v21 + 1))), (12, Iz v22), (13, AV.ptr 3 0), (15, Iz (IntKind.wrap .i64 (Int.tdiv (IntKind.wrap .i64 (v25.From - 2)) 2)))] [(0, .cells [Iz v6, AV.lst false false (List.map api_Edge.av v7), Lz v8]), (1, .cells [Lz v10, Lz v11, Iz v12]), (2, .cells [Iz v16, AV.lst false false (List.map api_Arc.av v17)]), (3, .cells [Iz v25.From, Iz v25.To, Iz v25.Cap])] 4 (by simp [F25]) (by simp [F25]) ?_
               refine SQ [] [none, none, none, none, none, none, some (188, false), some (188, false), some (188, false), some (188, false), none, none, some (194, false), some (194, false), some (194, false), none, none, some (199, false), some (199, false), some (199, false), some (199, false), some (199, false), none] fun _ _ g r => ?_
               try simp [F25]
               and_intros
               try any_goals first | omega | (simp [maxLen, F25] <;> omega)
               obtain ⟨v29, h34, hF⟩ := bnd1_elim hF
               refine AC (w_split_Entry k _ _ h34) (.cons (.same (by simp [F25])) .nil) ?_
               by_cases h35 : v25.From ≠ v29
               ·replace hF := ite_t h35 hF
                have h35_ := eqb_f h35
                have h35__ := neb_t h35
                have F26 := And.intro F25 (And.intro h35 (And.intro h35_ h35__))
                try simp [F26]
                and_intros <;> first | exact g _ (by kernel_rfl) | refine r _ _ _ ?_ | omega | (simp [maxLen, F26] <;> omega)
                refine WK [(4, AV.ptr 0 0), (5, AV.ptr 1 0), (6, Lz v14), (7, AV.ptr 2 0), (9, Lz v19), (10, Iz v20), (11, Iz (IntKind.wrap .i64 (v21 + 1))), (12, Iz v22), (205, AV.bool true)] [(0, .cells [Iz v6, AV.lst false false (List.map api_Edge.av v7), Lz v8]), (1, .cells [Lz v10, Lz v11, Iz v12]), (2, .cells [Iz v16, AV.lst false false (List.map api_Arc.av v17)])] 4 (by simp [F26]) (by simp [F26]) ?_
                refine CT (by simp [F26]) ?_
                refine SQ [] [none] fun _ _ g r => ?_
                try simp [F26]
                and_intros <;> first | exact g _ (by kernel_rfl) | refine r _ _ _ ?_ | omega | (simp [maxLen, F26] <;> omega)
                refine WK [(2, AV.bool false)] [] 4 (by simp [F26]) (by simp [F26]) ?_
                simp only [Option.some.injEq] at hF
                subst hF
                refine AW.ret (hQ _ _ _ ?_ (matchO_0 ?_)).1
                ·simp [Try.f8, F26]
                ·simp [F26]
               ·replace hF := ite_f h35 hF
                have h35q : v25.From = v29 := Classical.not_not.1 h35
                have h35_ := eqb_t h35q
                have h35__ := neb_f h35q
                have F27 := And.intro F25 (And.intro h35_ h35__)
                try simp [F27]
                and_intros
                try any_goals first | omega | (simp [maxLen, F27] <;> omega)
                obtain ⟨v30, h36, hF⟩ := bnd1_elim hF
                refine AC (w_ref11_Has k _ _ _ h36) (.cons (.same (by simp [F27])) (.cons (.same (by simp [F27])) .nil)) ?_
                by_cases h37 : (!v30) = true
                ·replace hF := ite_t h37 hF
                 have h37_ := h37
                 try simp at h37_
                 have F28 := And.intro F27 (And.intro h37 h37_)
                 try simp [F28]
                 and_intros <;> first | exact g _ (by kernel_rfl) | refine r _ _ _ ?_ | omega | (simp [maxLen, F28] <;> omega)
                 refine WK [(4, AV.ptr 0 0), (5, AV.ptr 1 0), (6, Lz v14), (7, AV.ptr 2 0), (9, Lz v19), (10, Iz v20), (11, Iz (IntKind.wrap .i64 (v21 + 1))), (12, Iz v22), (205, AV.bool true)] [(0, .cells [Iz v6, AV.lst false false (List.map api_Edge.av v7), Lz v8]), (1, .cells [Lz v10, Lz v11, Iz v12]), (2, .cells [Iz v16, AV.lst false false (List.map api_Arc.av v17)])] 4 (by simp [F28]) (by simp [F28]) ?_
                 refine CT (by simp [F28]) ?_
                 refine SQ [] [none] fun _ _ g r => ?_
                 try simp [F28]
                 and_intros <;> first | exact g _ (by kernel_rfl) | refine r _ _ _ ?_ | omega | (simp [maxLen, F28] <;> omega)
                 refine WK [(2, AV.bool false)] [] 4 (by simp [F28]) (by simp [F28]) ?_
                 simp only [Option.some.injEq] at hF
                 subst hF
                 refine AW.ret (hQ _ _ _ ?_ (matchO_0 ?_)).1
                 ·simp [Try.f8, F28]
                 ·simp [F28]
                ·replace hF := ite_f h37 hF
                 have h37_ := h37
                 try simp at h37_
                 by_cases h38 : v25.Cap ≠ 1
                 ·replace hF := ite_t h38 hF
                  have h38_ := eqb_f h38
                  have h38__ := neb_t h38
                  have F29 := And.intro F27 (And.intro h37 (And.intro h37_ (And.intro h38 (And.intro h38_ h38__))))
                  try simp [F29]
                  and_intros <;> first | exact g _ (by kernel_rfl) | refine r _ _ _ ?_ | omega | (simp [maxLen, F29] <;> omega)
                  refine WK [(4, AV.ptr 0 0), (5, AV.ptr 1 0), (6, Lz v14), (7, AV.ptr 2 0), (9, Lz v19), (10, Iz v20), (11, Iz (IntKind.wrap .i64 (v21 + 1))), (12, Iz v22), (205, AV.bool true)] [(0, .cells [Iz v6, AV.lst false false (List.map api_Edge.av v7), Lz v8]), (1, .cells [Lz v10, Lz v11, Iz v12]), (2, .cells [Iz v16, AV.lst false false (List.map api_Arc.av v17)])] 4 (by simp [F29]) (by simp [F29]) ?_
                  refine CT (by simp [F29]) ?_
                  refine SQ [] [none] fun _ _ g r => ?_
                  try simp [F29]
                  and_intros <;> first | exact g _ (by kernel_rfl) | refine r _ _ _ ?_ | omega | (simp [maxLen, F29] <;> omega)
                  refine WK [(2, AV.bool false)] [] 4 (by simp [F29]) (by simp [F29]) ?_
                  simp only [Option.some.injEq] at hF
                  subst hF
                  refine AW.ret (hQ _ _ _ ?_ (matchO_0 ?_)).1
                  ·simp [Try.f8, F29]
                  ·simp [F29]
                 ·replace hF := ite_f h38 hF
                  have h38q : v25.Cap = 1 := Classical.not_not.1 h38
                  have h38_ := eqb_t h38q
                  have h38__ := neb_f h38q
                  obtain ⟨v31, h39, h40, h41, hF⟩ := idx_elim hF
                  have h41_ := get_of h41
                  try simp at h41_
                  have h40_ := h40
                  try simp at h40_
                  have F30 := And.intro F27 (And.intro h37 (And.intro h37_ (And.intro h38_ (And.intro h38__ (And.intro h38q (And.intro h39 (And.intro h40 (And.intro h41 (And.intro h41_ h40_)))))))))
                  try simp [F30]
                  and_intros <;> first | exact g _ (by kernel_rfl) | refine r _ _ _ ?_ | omega | (simp [maxLen, F30] <;> omega)
                  refine WK [(4, AV.ptr 0 0), (5, AV.ptr 1 0), (6, Lz v14), (7, AV.ptr 2 0), (9, Lz v19), (10, Iz v20), (11, Iz (IntKind.wrap .i64 (v21 + 1))), (12, Iz v22), (205, AV.bool (decide (v31 < 1)))] [(0, .cells [Iz v6, AV.lst false false (List.map api_Edge.av v7), Lz v8]), (1, .cells [Lz v10, Lz v11, Iz v12]), (2, .cells [Iz v16, AV.lst false false (List.map api_Arc.av v17)])] 4 (by simp [F30]) (by simp [F30]) ?_
                  by_cases h42 : v31 < 1
                  ·replace hF := ite_t h42 hF
                   have h42_ := h42
                   try simp at h42_
                   have F31 := And.intro F30 (And.intro h42 h42_)
                   refine CT (by simp [F31] <;> omega) ?_
                   refine SQ [] [none] fun _ _ g r => ?_
                   try simp [F31]
                   and_intros <;> first | exact g _ (by kernel_rfl) | refine r _ _ _ ?_ | omega | (simp [maxLen, F31] <;> omega)
                   refine WK [(2, AV.bool false)] [] 4 (by simp [F31]) (by simp [F31]) ?_
                   simp only [Option.some.injEq] at hF
                   subst hF
                   refine AW.ret (hQ _ _ _ ?_ (matchO_0 ?_)).1
                   ·simp [Try.f8, F31]
                   ·simp [F31]
                  ·replace hF := ite_f h42 hF
                   have h42_ := h42
                   try simp at h42_
                   have F32 := And.intro F30 (And.intro h42 h42_)
                   refine CF (by simp [F32] <;> omega) ?_
                   refine AW.skip ?_
                   refine hK1594 _ _ _ ?_
                   refine RN h0 [(0, 0), (1, 1), (2, 2)] [(4, AV.ptr 0 0), (5, AV.ptr 1 0), (6, Lz v14), (7, AV.ptr 2 0), (9, Lz v19), (10, Iz v20), (11, Iz (IntKind.wrap .i64 (v21 + 1))), (12, Iz v22)] [(0, .cells [Iz v6, AV.lst false false (List.map api_Edge.av v7), Lz v8]), (1, .cells [Lz v10, Lz v11, Iz v12]), (2, .cells [Iz v16, AV.lst false false (List.map api_Arc.av v17)])] 3 (by simp [F32]) (by simp [F32]) ?_
                   exact JN ((v20, IntKind.wrap .i64 (v21 + 1))) hF (by simp [F32]) (by simp [F32])
              ·replace hF := ite_f h33 hF
               have h33_ := eqb_f h33
               have h33__ := neb_t h33
               have F33 := And.intro F24 (And.intro h33 (And.intro h33_ h33__))
               refine CF (by simp [F33] <;> omega) ?_
               refine SQ [] [none, none, none, none, none] fun _ _ g r => ?_
               try simp [F33]
               and_intros <;> first | exact g _ (by kernel_rfl) | refine r _ _ _ ?_ | omega | (simp [maxLen, F33] <;> omega)
               refine WK [(4, AV.ptr 0 0), (5, AV.ptr 1 0), (6, Lz v14), (7, AV.ptr 2 0), (9, Lz v19), (10, Iz v20), (11, Iz v21), (12, Iz v22), (13, AV.ptr 3 0), (206, AV.bool ((Int.tmod v25.From 2) == 0))] [(0, .cells [Iz v6, AV.lst false false (List.map api_Edge.av v7), Lz v8]), (1, .cells [Lz v10, Lz v11, Iz v12]), (2, .cells [Iz v16, AV.lst false false (List.map api_Arc.av v17)]), (3, .cells [Iz v25.From, Iz v25.To, Iz v25.Cap])] 4 (by simp [F33]) (by simp [F33]) ?_
               by_cases h43 : (Int.tmod v25.From 2) = 0
               ·replace hF := ite_t h43 hF
                have h43q : (Int.tmod v25.From 2) = 0 := h43
                have h43_ := eqb_t h43q
                have h43__ := neb_f h43q
                have F34 := And.intro F33 (And.intro h43_ (And.intro h43__ h43q))
                refine CT (by simp [F34] <;> omega) ?_
                refine SQ [] [none, none, none, none, none] fun _ _ g r => ?_
                try simp [F34]
                and_intros <;> first | exact g _ (by kernel_rfl) | refine r _ _ _ ?_ | omega | (simp [maxLen, F34] <;> omega)
                refine WK [(4, AV.ptr 0 0), (5, AV.ptr 1 0), (6, Lz v14), (7, AV.ptr 2 0), (9, Lz v19), (10, Iz v20), (11, Iz v21), (12, Iz v22), (13, AV.ptr 3 0), (16, Iz (IntKind.wrap .i64 (Int.tdiv (IntKind.wrap .i64 (v25.From - 2)) 2)))] [(0, .cells [Iz v6, AV.lst false false (List.map api_Edge.av v7), Lz v8]), (1, .cells [Lz v10, Lz v11, Iz v12]), (2, .cells [Iz v16, AV.lst false false (List.map api_Arc.av v17)]), (3, .cells [Iz v25.From, Iz v25.To, Iz v25.Cap])] 4 (by simp [F34]) (by simp [F34]) ?_
                refine SQ [] [none, none, none, none, none, none, some (220, false), some (220, false), some (220, false), some (220, false), some (220, false), some (220, false), some (220, false), some (220, false), none] fun _ _ g r => ?_
                try simp [F34]
                and_intros
                try any_goals first | omega | (simp [maxLen, F34] <;> omega)
                obtain ⟨v32, h44, hF⟩ := bnd1_elim hF
                refine AC (w_split_Exit k _ _ h44) (.cons (.same (by simp [F34])) .nil) ?_
                by_cases h45 : v25.To ≠ v32
                ·replace hF := ite_t h45 hF
                 have h45_ := eqb_f h45
                 have h45__ := neb_t h45
                 have F35 := And.intro F34 (And.intro h45 (And.intro h45_ h45__))
                 try simp [F35]
                 and_intros <;> first | exact g _ (by kernel_rfl) | refine r _ _ _ ?_ | omega | (simp [maxLen, F35] <;> omega)
                 refine WK [(4, AV.ptr 0 0), (5, AV.ptr 1 0), (6, Lz v14), (7, AV.ptr 2 0), (9, Lz v19), (10, Iz v20), (11, Iz v21), (12, Iz v22), (229, AV.bool true)] [(0, .cells [Iz v6, AV.lst false false (List.map api_Edge.av v7), Lz v8]), (1, .cells [Lz v10, Lz v11, Iz v12]), (2, .cells [Iz v16, AV.lst false false (List.map api_Arc.av v17)])] 4 (by simp [F35]) (by simp [F35]) ?_
                 refine CT (by simp [F35]) ?_
                 refine SQ [] [none] fun _ _ g r => ?_
                 try simp [F35]
                 and_intros <;> first | exact g _ (by kernel_rfl) | refine r _ _ _ ?_ | omega | (simp [maxLen, F35] <;> omega)
                 refine WK [(2, AV.bool false)] [] 4 (by simp [F35]) (by simp [F35]) ?_
                 simp only [Option.some.injEq] at hF
                 subst hF
                 refine AW.ret (hQ _ _ _ ?_ (matchO_0 ?_)).1
                 ·simp [Try.f8, F35]
                 ·simp [F35]
                ·replace hF := ite_f h45 hF
                 have h45q : v25.To = v32 := Classical.not_not.1 h45
                 have h45_ := eqb_t h45q
                 have h45__ := neb_f h45q
                 obtain ⟨v33, h46, h47, h48, hF⟩ := idx_elim hF
                 have h48_ := get_of h48
                 try simp at h48_
                 have h47_ := h47
                 try simp at h47_
                 have F36 := And.intro F34 (And.intro h45_ (And.intro h45__ (And.intro h46 (And.intro h47 (And.intro h48 (And.intro h48_ h47_))))))
                 try simp [F36]
                 and_intros <;> first | exact g _ (by kernel_rfl) | refine r _ _ _ ?_ | omega | (simp [maxLen, F36] <;> omega)
                 refine WK [(4, AV.ptr 0 0), (5, AV.ptr 1 0), (6, Lz v14), (7, AV.ptr 2 0), (9, Lz v19), (10, Iz v20), (11, Iz v21), (12, Iz v22), (229, AV.bool (v25.Cap != (IntKind.wrap .i64 (v33 - 1))))] [(0, .cells [Iz v6, AV.lst false false (List.map api_Edge.av v7), Lz v8]), (1, .cells [Lz v10, Lz v11, Iz v12]), (2, .cells [Iz v16, AV.lst false false (List.map api_Arc.av v17)])] 4 (by simp [F36]) (by simp [F36]) ?_
                 by_cases h49 : v25.Cap ≠ (IntKind.wrap .i64 (v33 - 1))
                 ·replace hF := ite_t h49 hF
                  have h49_ := eqb_f h49
                  have h49__ := neb_t h49
                  have F37 := And.intro F36 (And.intro h49 (And.intro h49_ h49__))
                  refine CT (by simp [F37] <;> omega) ?_
                  refine SQ [] [none] fun _ _ g r => ?_
                  try simp [F37]
                  and_intros <;> first | exact g _ (by kernel_rfl) | refine r _ _ _ ?_ | omega | (simp [maxLen, F37] <;> omega)
                  refine WK [(2, AV.bool false)] [] 4 (by simp [F37]) (by simp [F37]) ?_
                  simp only [Option.some.injEq] at hF
                  subst hF
                  refine AW.ret (hQ _ _ _ ?_ (matchO_0 ?_)).1
                  ·simp [Try.f8, F37]
                  ·simp [F37]
                 ·replace hF := ite_f h49 hF
                  have h49q : v25.Cap = (IntKind.wrap .i64 (v33 - 1)) := Classical.not_not.1 h49
                  have h49_ := eqb_t h49q
                  have h49__ := neb_f h49q
                  have F38 := And.intro F36 (And.intro h49_ h49__)
                  refine CF (by simp [F38] <;> omega) ?_
                  refine AW.skip ?_
                  refine hK1594 _ _ _ ?_
                  refine RN h0 [(0, 0), (1, 1), (2, 2)] [(4, AV.ptr 0 0), (5, AV.ptr 1 0), (6, Lz v14), (7, AV.ptr 2 0), (9, Lz v19), (10, Iz v20), (11, Iz v21), (12, Iz v22)] [(0, .cells [Iz v6, AV.lst false false (List.map api_Edge.av v7), Lz v8]), (1, .cells [Lz v10, Lz v11, Iz v12]), (2, .cells [Iz v16, AV.lst false false (List.map api_Arc.av v17)])] 3 (by simp [F38]) (by simp [F38]) ?_
                  exact JN ((v20, v21)) hF (by simp [F38]) (by simp [F38])
               ·replace hF := ite_f h43 hF
                have h43_ := eqb_f h43
                have h43__ := neb_t h43
                refine CF (by simp [F33, h43, h43_, h43__] <;> omega) ?_
                refine SQ [] [none, none, none, none, some (107, false), some (107, false), some (107, false), some (107, false), some (107, false), some (107, false), some (107, false), some (107, false), none, none, some (117, false), some (117, false), some (117, false), some (117, false), some (117, false), some (117, false), some (117, false), some (117, false), none, none, some (127, false), some (127, false), some (127, false), some (127, false), some (127, false), some (127, false), some (127, false), some (127, false), none] fun _ _ g r => ?_
                by_cases h50 : v25.Cap ≠ 64
                ·replace hF := ite_t h50 hF
                 have h50_ := eqb_f h50
                 have h50__ := neb_t h50
                 have F39 := And.intro F33 (And.intro h43 (And.intro h43_ (And.intro h43__ (And.intro h50 (And.intro h50_ h50__)))))
                 try simp [F39]
                 and_intros <;> first | exact g _ (by kernel_rfl) | refine r _ _ _ ?_ | omega | (simp [maxLen, F39] <;> omega)
                 refine WK [(4, AV.ptr 0 0), (5, AV.ptr 1 0), (6, Lz v14), (7, AV.ptr 2 0), (9, Lz v19), (10, Iz v20), (11, Iz v21), (12, Iz v22), (136, AV.bool true)] [(0, .cells [Iz v6, AV.lst false false (List.map api_Edge.av v7), Lz v8]), (1, .cells [Lz v10, Lz v11, Iz v12]), (2, .cells [Iz v16, AV.lst false false (List.map api_Arc.av v17)])] 4 (by simp [F39]) (by simp [F39]) ?_
                 refine CT (by simp [F39]) ?_
                 refine SQ [] [none] fun _ _ g r => ?_
                 try simp [F39]
                 and_intros <;> first | exact g _ (by kernel_rfl) | refine r _ _ _ ?_ | omega | (simp [maxLen, F39] <;> omega)
                 refine WK [(2, AV.bool false)] [] 4 (by simp [F39]) (by simp [F39]) ?_
                 simp only [Option.some.injEq] at hF
                 subst hF
                 refine AW.ret (hQ _ _ _ ?_ (matchO_0 ?_)).1
                 ·simp [Try.f8, F39]
                 ·simp [F39]
                ·replace hF := ite_f h50 hF
                 have h50q : v25.Cap = 64 := Classical.not_not.1 h50
                 have h50_ := eqb_t h50q
                 have h50__ := neb_f h50q
                 obtain ⟨v34, h51, h52, h53, hF⟩ := idx_elim hF
                 have h53_ := get_of h53
                 try simp at h53_
                 have h52_ := h52
                 try simp at h52_
                 by_cases h54 : v34 < 1
                 ·replace hF := ite_t h54 hF
                  have h54_ := h54
                  try simp at h54_
                  have F40 := And.intro F33 (And.intro h43 (And.intro h43_ (And.intro h43__ (And.intro h50_ (And.intro h50__ (And.intro h50q (And.intro h51 (And.intro h52 (And.intro h53 (And.intro h53_ (And.intro h52_ (And.intro h54 h54_))))))))))))
                  try simp [F40]
                  and_intros <;> first | exact g _ (by kernel_rfl) | refine r _ _ _ ?_ | omega | (simp [maxLen, F40] <;> omega)
                  refine WK [(4, AV.ptr 0 0), (5, AV.ptr 1 0), (6, Lz v14), (7, AV.ptr 2 0), (9, Lz v19), (10, Iz v20), (11, Iz v21), (12, Iz v22), (136, AV.bool true)] [(0, .cells [Iz v6, AV.lst false false (List.map api_Edge.av v7), Lz v8]), (1, .cells [Lz v10, Lz v11, Iz v12]), (2, .cells [Iz v16, AV.lst false false (List.map api_Arc.av v17)])] 4 (by simp [F40]) (by simp [F40]) ?_
                  refine CT (by simp [F40]) ?_
                  refine SQ [] [none] fun _ _ g r => ?_
                  try simp [F40]
                  and_intros <;> first | exact g _ (by kernel_rfl) | refine r _ _ _ ?_ | omega | (simp [maxLen, F40] <;> omega)
                  refine WK [(2, AV.bool false)] [] 4 (by simp [F40]) (by simp [F40]) ?_
                  simp only [Option.some.injEq] at hF
                  subst hF
                  refine AW.ret (hQ _ _ _ ?_ (matchO_0 ?_)).1
                  ·simp [Try.f8, F40]
                  ·simp [F40]
                 ·replace hF := ite_f h54 hF
                  have h54_ := h54
                  try simp at h54_
                  obtain ⟨v35, h55, h56, h57, hF⟩ := idx_elim hF
                  have h57_ := get_of h57
                  try simp at h57_
                  have h56_ := h56
                  try simp at h56_
                  by_cases h58 : v35 < 1
                  ·replace hF := ite_t h58 hF
                   have h58_ := h58
                   try simp at h58_
                   have F41 := And.intro F33 (And.intro h43 (And.intro h43_ (And.intro h43__ (And.intro h50_ (And.intro h50__ (And.intro h50q (And.intro h51 (And.intro h52 (And.intro h53 (And.intro h53_ (And.intro h52_ (And.intro h54 (And.intro h54_ (And.intro h55 (And.intro h56 (And.intro h57 (And.intro h57_ (And.intro h56_ (And.intro h58 h58_)))))))))))))))))))
                   try simp [F41]
                   and_intros <;> first | exact g _ (by kernel_rfl) | refine r _ _ _ ?_ | omega | (simp [maxLen, F41] <;> omega)
                   refine WK [(4, AV.ptr 0 0), (5, AV.ptr 1 0), (6, Lz v14), (7, AV.ptr 2 0), (9, Lz v19), (10, Iz v20), (11, Iz v21), (12, Iz v22), (136, AV.bool true)] [(0, .cells [Iz v6, AV.lst false false (List.map api_Edge.av v7), Lz v8]), (1, .cells [Lz v10, Lz v11, Iz v12]), (2, .cells [Iz v16, AV.lst false false (List.map api_Arc.av v17)])] 4 (by simp [F41]) (by simp [F41]) ?_
                   refine CT (by simp [F41]) ?_
                   refine SQ [] [none] fun _ _ g r => ?_
                   try simp [F41]
                   and_intros <;> first | exact g _ (by kernel_rfl) | refine r _ _ _ ?_ | omega | (simp [maxLen, F41] <;> omega)
                   refine WK [(2, AV.bool false)] [] 4 (by simp [F41]) (by simp [F41]) ?_
                   simp only [Option.some.injEq] at hF
                   subst hF
                   refine AW.ret (hQ _ _ _ ?_ (matchO_0 ?_)).1
                   ·simp [Try.f8, F41]
                   ·simp [F41]
                  ·replace hF := ite_f h58 hF
                   have h58_ := h58
                   try simp at h58_
                   have F42 := And.intro F33 (And.intro h43 (And.intro h43_ (And.intro h43__ (And.intro h50_ (And.intro h50__ (And.intro h50q (And.intro h51 (And.intro h52 (And.intro h53 (And.intro h53_ (And.intro h52_ (And.intro h54 (And.intro h54_ (And.intro h55 (And.intro h56 (And.intro h57 (And.intro h57_ (And.intro h56_ (And.intro h58 h58_)))))))))))))))))))
                   try simp [F42]
                   and_intros
                   try any_goals first | omega | (simp [maxLen, F42] <;> omega)
                   obtain ⟨v36, h59, hF⟩ := bnd1_elim hF
                   refine AC (w_split_Entry k _ _ h59) (.cons (.same (by simp [F42])) .nil) ?_
                   try simp [F42]
                   and_intros <;> first | exact g _ (by kernel_rfl) | refine r _ _ _ ?_ | omega | (simp [maxLen, F42] <;> omega)
                   refine WK [(4, AV.ptr 0 0), (5, AV.ptr 1 0), (6, Lz v14), (7, AV.ptr 2 0), (9, Lz v19), (10, Iz v20), (11, Iz v21), (12, Iz v22), (136, AV.bool (v25.To != v36))] [(0, .cells [Iz v6, AV.lst false false (List.map api_Edge.av v7), Lz v8]), (1, .cells [Lz v10, Lz v11, Iz v12]), (2, .cells [Iz v16, AV.lst false false (List.map api_Arc.av v17)])] 4 (by simp [F42]) (by simp [F42]) ?_
                   by_cases h60 : v25.To ≠ v36
                   ·replace hF := ite_t h60 hF
                    have h60_ := eqb_f h60
                    have h60__ := neb_t h60
                    have F43 := And.intro F42 (And.intro h60 (And.intro h60_ h60__))
                    refine CT (by simp [F43] <;> omega) ?_
                    refine SQ [] [none] fun _ _ g r => ?_
                    try simp [F43]
                    and_intros <;> first | exact g _ (by kernel_rfl) | refine r _ _ _ ?_ | omega | (simp [maxLen, F43] <;> omega)
                    refine WK [(2, AV.bool false)] [] 4 (by simp [F43]) (by simp [F43]) ?_
                    simp only [Option.some.injEq] at hF
                    subst hF
                    refine AW.ret (hQ _ _ _ ?_ (matchO_0 ?_)).1
                    ·simp [Try.f8, F43]
                    ·simp [F43]
                   ·replace hF := ite_f h60 hF
                    have h60q : v25.To = v36 := Classical.not_not.1 h60
                    have h60_ := eqb_t h60q
                    have h60__ := neb_f h60q
                    have F44 := And.intro F42 (And.intro h60_ h60__)
                    refine CF (by simp [F44] <;> omega) ?_
                    refine AW.skip ?_
                    refine hK1594 _ _ _ ?_
                    refine RN h0 [(0, 0), (1, 1), (2, 2)] [(4, AV.ptr 0 0), (5, AV.ptr 1 0), (6, Lz v14), (7, AV.ptr 2 0), (9, Lz v19), (10, Iz v20), (11, Iz v21), (12, Iz v22)] [(0, .cells [Iz v6, AV.lst false false (List.map api_Edge.av v7), Lz v8]), (1, .cells [Lz v10, Lz v11, Iz v12]), (2, .cells [Iz v16, AV.lst false false (List.map api_Arc.av v17)])] 3 (by simp [F44]) (by simp [F44]) ?_
                    exact JN ((v20, v21)) hF (by simp [F44]) (by simp [F44])
      ·rintro ⟨v23, v24⟩ hF
       try dsimp only at hF
       unfold law14_SplitShape.J2 at hF
       refine RG [] [none, none, none] fun _ _ g r => ?_
       try simp [F6]
       and_intros <;> first | exact g _ (by kernel_rfl) | refine r _ _ _ ?_ | omega | (simp [maxLen, F6] <;> omega)
       refine hK1547 _ _ _ ?_
       exact NX (k' := n1) ((v23, v24, IntKind.wrap .i64 (v22 + 1))) hF (by simp [F6]) (by simp [F6])
     ·replace hF := ite_f h13 hF
      have h13_ := h13
      try simp at h13_
      have F45 := And.intro F5 (And.intro h13 h13_)
      refine CF (by simp [F45] <;> omega) ?_
      refine AW.exit ?_
      try simp
      refine hK1278 _ _ _ ?_
      refine AW.seq fun K1715 hK1715 => ?_
      refine SQ [] [none] fun _ _ g r => ?_
      try simp [F45]
      and_intros <;> first | exact g _ (by kernel_rfl) | refine r _ _ _ ?_ | omega | (simp [maxLen, F45] <;> omega)
      refine WK [(4, AV.ptr 0 0), (5, AV.ptr 1 0), (6, Lz v14), (9, Lz v19), (10, Iz v20), (11, Iz v21), (17, Iz 0)] [(0, .cells [Iz v6, AV.lst false false (List.map api_Edge.av v7), Lz v8]), (1, .cells [Lz v10, Lz v11, Iz v12])] 3 (by simp [F45]) (by simp [F45]) ?_
      refine AW.block ?_
      refine RM h0 [(0, 0), (1, 1)] [(4, AV.ptr 0 0), (5, AV.ptr 1 0), (6, Lz v14), (9, Lz v19), (10, Iz v20), (11, Iz v21), (17, Iz 0)] [(0, .cells [Iz v6, AV.lst false false (List.map api_Edge.av v7), Lz v8]), (1, .cells [Lz v10, Lz v11, Iz v12])] 2 (by simp [F45]) (by simp [F45]) ?_
      refine AW.loopF (α := (Int × Int × Int)) (fun n (v37, v38, v39) => law14_SplitShape.L3 k v6 v10 v14 v19 n v37 v38 v39 = some v1) (fun (v37, v38, v39) => [(4, AV.ptr 0 0), (5, AV.ptr 1 0), (6, Lz v14), (9, Lz v19), (10, Iz v37), (11, Iz v38), (17, Iz v39)]) (fun (v37, v38, v39) => [(0, .cells [Iz v6, AV.lst false false (List.map api_Edge.av v7), Lz v8]), (1, .cells [Lz v10, Lz v11, Iz v12])]) 2 k ((v20, v21, 0)) hF (by simp [F45]) (by simp [F45]) (by simp) ?_
      rintro (_|n3) ⟨v37, v38, v39⟩ hF K1774 hK1774
      ·try dsimp only at hF
       rw [law14_SplitShape.L3] at hF; cases hF
      try dsimp only at hF
      rw [law14_SplitShape.L3] at hF
      refine AW.seq fun K1776 hK1776 => ?_
      refine SQ [] [none, none, none, none] fun _ _ g r => ?_
      try simp [F45]
      and_intros <;> first | exact g _ (by kernel_rfl) | refine r _ _ _ ?_ | omega | (simp [maxLen, F45] <;> omega)
      refine WK [(4, AV.ptr 0 0), (5, AV.ptr 1 0), (6, Lz v14), (9, Lz v19), (10, Iz v37), (11, Iz v38), (17, Iz v39), (233, AV.bool (decide (v39 < v6)))] [(0, .cells [Iz v6, AV.lst false false (List.map api_Edge.av v7), Lz v8]), (1, .cells [Lz v10, Lz v11, Iz v12])] 2 (by simp [F45]) (by simp [F45]) ?_
      by_cases h61 : v39 < v6
      ·replace hF := ite_t h61 hF
       have h61_ := h61
       try simp at h61_
       have F46 := And.intro F45 (And.intro h61 h61_)
       refine CT (by simp [F46] <;> omega) ?_
       refine AW.skip ?_
       refine hK1776 _ _ _ ?_
       refine AW.midF (α := (Int × Int)) (fun (v40, v41) => law14_SplitShape.J4 k v39 (fun v37_ v38_ v39_ => law14_SplitShape.L3 k v6 v10 v14 v19 n3 v37_ v38_ v39_) v40 v41 = some v1) (fun (v40, v41) => [(4, AV.ptr 0 0), (5, AV.ptr 1 0), (6, Lz v14), (9, Lz v19), (10, Iz v40), (11, Iz v41), (17, Iz v39)]) (fun (v40, v41) => [(0, .cells [Iz v6, AV.lst false false (List.map api_Edge.av v7), Lz v8]), (1, .cells [Lz v10, Lz v11, Iz v12])]) 2 (fun K1786 hK1786 => ?_) ?_
       ·refine AW.block ?_
        refine AW.midF (α := Int) (fun v42 => law14_SplitShape.J5 k v14 v19 v38 v39 (fun v37_ v38_ v39_ => law14_SplitShape.L3 k v6 v10 v14 v19 n3 v37_ v38_ v39_) v42 = some v1) (fun v42 => [(4, AV.ptr 0 0), (5, AV.ptr 1 0), (6, Lz v14), (9, Lz v19), (10, Iz v42), (11, Iz v38), (17, Iz v39)]) (fun v42 => [(0, .cells [Iz v6, AV.lst false false (List.map api_Edge.av v7), Lz v8]), (1, .cells [Lz v10, Lz v11, Iz v12])]) 2 (fun K1791 hK1791 => ?_) ?_
        ·refine SQ [] [none, none, none, none, none, none, some (241, true), some (241, true), some (241, true), some (241, true), none] fun _ _ g r => ?_
         obtain ⟨v45, h68, h69, h70, hF⟩ := idx_elim hF
         have h70_ := get_of h70
         try simp at h70_
         have h69_ := h69
         try simp at h69_
         by_cases h71 : 0 < v45
         ·replace hF := ite_t h71 hF
          have h71_ := h71
          try simp at h71_
          have F47 := And.intro F46 (And.intro h68 (And.intro h69 (And.intro h70 (And.intro h70_ (And.intro h69_ (And.intro h71 h71_))))))
          try simp [F47]
          and_intros
          try any_goals first | omega | (simp [maxLen, F47] <;> omega)
          obtain ⟨v46, h72, hF⟩ := bnd1_elim hF
          refine AC (w_ref11_Has k _ _ _ h72) (.cons (.same (by simp [F47])) (.cons (.same (by simp [F47])) .nil)) ?_
          try simp [F47]
          and_intros <;> first | exact g _ (by kernel_rfl) | refine r _ _ _ ?_ | omega | (simp [maxLen, F47] <;> omega)
          refine WK [(4, AV.ptr 0 0), (5, AV.ptr 1 0), (6, Lz v14), (9, Lz v19), (10, Iz v37), (11, Iz v38), (17, Iz v39), (246, AV.bool v46)] [(0, .cells [Iz v6, AV.lst false false (List.map api_Edge.av v7), Lz v8]), (1, .cells [Lz v10, Lz v11, Iz v12])] 2 (by simp [F47]) (by simp [F47]) ?_
          by_cases h73 : v46 = true
          ·replace hF := ite_t h73 hF
           have h73_ := h73
           try simp at h73_
           have F48 := And.intro F47 (And.intro h73 h73_)
           refine CT (by simp [F48] <;> omega) ?_
           refine RG [] [none, none, none] fun _ _ g r => ?_
           try simp [F48]
           and_intros <;> first | exact g _ (by kernel_rfl) | refine r _ _ _ ?_ | omega | (simp [maxLen, F48] <;> omega)
           refine hK1791 _ _ _ ?_
           exact JN (IntKind.wrap .i64 (v37 - 1)) hF (by simp [F48]) (by simp [F48])
          ·replace hF := ite_f h73 hF
           have h73_ := h73
           try simp at h73_
           have F49 := And.intro F47 (And.intro h73 h73_)
           refine CF (by simp [F49] <;> omega) ?_
           refine AW.skip ?_
           refine hK1791 _ _ _ ?_
           exact JN (v37) hF (by simp [F49]) (by simp [F49])
         ·replace hF := ite_f h71 hF
          have h71_ := h71
          try simp at h71_
          have F50 := And.intro F46 (And.intro h68 (And.intro h69 (And.intro h70 (And.intro h70_ (And.intro h69_ (And.intro h71 h71_))))))
          try simp [F50]
          and_intros <;> first | exact g _ (by kernel_rfl) | refine r _ _ _ ?_ | omega | (simp [maxLen, F50] <;> omega)
          refine WK [(4, AV.ptr 0 0), (5, AV.ptr 1 0), (6, Lz v14), (9, Lz v19), (10, Iz v37), (11, Iz v38), (17, Iz v39), (246, AV.bool false)] [(0, .cells [Iz v6, AV.lst false false (List.map api_Edge.av v7), Lz v8]), (1, .cells [Lz v10, Lz v11, Iz v12])] 2 (by simp [F50]) (by simp [F50]) ?_
          refine CF (by simp [F50]) ?_
          refine AW.skip ?_
          refine hK1791 _ _ _ ?_
          exact JN (v37) hF (by simp [F50]) (by simp [F50])
        ·rintro v42 hF
         try dsimp only at hF
         unfold law14_SplitShape.J5 at hF
         refine SQ [] [none, none, none, none, none, none, some (254, true), some (254, true), some (254, true), none] fun _ _ g r => ?_
         obtain ⟨v43, h62, h63, h64, hF⟩ := idx_elim hF
         have h64_ := get_of h64
         try simp at h64_
         have h63_ := h63
         try simp at h63_
         by_cases h65 : 0 < v43
         ·replace hF := ite_t h65 hF
          have h65_ := h65
          try simp at h65_
          have F51 := And.intro F46 (And.intro h62 (And.intro h63 (And.intro h64 (And.intro h64_ (And.intro h63_ (And.intro h65 h65_))))))
          try simp [F51]
          and_intros
          try any_goals first | omega | (simp [maxLen, F51] <;> omega)
          obtain ⟨v44, h66, hF⟩ := bnd1_elim hF
          refine AC (w_ref11_Has k _ _ _ h66) (.cons (.same (by simp [F51])) (.cons (.same (by simp [F51])) .nil)) ?_
          try simp [F51]
          and_intros <;> first | exact g _ (by kernel_rfl) | refine r _ _ _ ?_ | omega | (simp [maxLen, F51] <;> omega)
          refine WK [(4, AV.ptr 0 0), (5, AV.ptr 1 0), (6, Lz v14), (9, Lz v19), (10, Iz v42), (11, Iz v38), (17, Iz v39), (258, AV.bool v44)] [(0, .cells [Iz v6, AV.lst false false (List.map api_Edge.av v7), Lz v8]), (1, .cells [Lz v10, Lz v11, Iz v12])] 2 (by simp [F51]) (by simp [F51]) ?_
          by_cases h67 : v44 = true
          ·replace hF := ite_t h67 hF
           have h67_ := h67
           try simp at h67_
           have F52 := And.intro F51 (And.intro h67 h67_)
           refine CT (by simp [F52] <;> omega) ?_
           refine RG [] [none, none, none] fun _ _ g r => ?_
           try simp [F52]
           and_intros <;> first | exact g _ (by kernel_rfl) | refine r _ _ _ ?_ | omega | (simp [maxLen, F52] <;> omega)
           refine hK1786 _ _ _ ?_
           exact JN ((v42, IntKind.wrap .i64 (v38 - 1))) hF (by simp [F52]) (by simp [F52])
          ·replace hF := ite_f h67 hF
           have h67_ := h67
           try simp at h67_
           have F53 := And.intro F51 (And.intro h67 h67_)
           refine CF (by simp [F53] <;> omega) ?_
           refine AW.skip ?_
           refine hK1786 _ _ _ ?_
           exact JN ((v42, v38)) hF (by simp [F53]) (by simp [F53])
         ·replace hF := ite_f h65 hF
          have h65_ := h65
          try simp at h65_
          have F54 := And.intro F46 (And.intro h62 (And.intro h63 (And.intro h64 (And.intro h64_ (And.intro h63_ (And.intro h65 h65_))))))
          try simp [F54]
          and_intros <;> first | exact g _ (by kernel_rfl) | refine r _ _ _ ?_ | omega | (simp [maxLen, F54] <;> omega)
          refine WK [(4, AV.ptr 0 0), (5, AV.ptr 1 0), (6, Lz v14), (9, Lz v19), (10, Iz v42), (11, Iz v38), (17, Iz v39), (258, AV.bool false)] [(0, .cells [Iz v6, AV.lst false false (List.map api_Edge.av v7), Lz v8]), (1, .cells [Lz v10, Lz v11, Iz v12])] 2 (by simp [F54]) (by simp [F54]) ?_
          refine CF (by simp [F54]) ?_
          refine AW.skip ?_
          refine hK1786 _ _ _ ?_
          exact JN ((v42, v38)) hF (by simp [F54]) (by simp [F54])
       ·rintro ⟨v40, v41⟩ hF
        try dsimp only at hF
        unfold law14_SplitShape.J4 at hF
        refine RG [] [none, none, none] fun _ _ g r => ?_
        try simp [F46]
        and_intros <;> first | exact g _ (by kernel_rfl) | refine r _ _ _ ?_ | omega | (simp [maxLen, F46] <;> omega)
        refine hK1774 _ _ _ ?_
        exact NX (k' := n3) ((v40, v41, IntKind.wrap .i64 (v39 + 1))) hF (by simp [F46]) (by simp [F46])
      ·replace hF := ite_f h61 hF
       have h61_ := h61
       try simp at h61_
       have F55 := And.intro F45 (And.intro h61 h61_)
       refine CF (by simp [F55] <;> omega) ?_
       refine AW.exit ?_
       try simp
       refine hK1715 _ _ _ ?_
       refine SQ [] [none, none, some (262, true), some (262, true), none, none, some (266, true), some (266, true), none, none] fun _ _ g r => ?_
       try simp [F55]
       and_intros
       try any_goals first | omega | (simp [maxLen, F55] <;> omega)
       obtain ⟨v47, h74, hF⟩ := bnd1_elim hF
       refine AC (w_law14_awake k _ h74) .nil ?_
       by_cases h75 : v47 = true
       ·replace hF := ite_t h75 hF
        have h75_ := h75
        try simp at h75_
        by_cases h76 : v37 = 0
        ·replace hF := ite_t h76 hF
         have h76q : v37 = 0 := h76
         have h76_ := eqb_t h76q
         have h76__ := neb_f h76q
         have F56 := And.intro F55 (And.intro h75 (And.intro h75_ (And.intro h76_ (And.intro h76__ h76q))))
         try simp [F56]
         and_intros <;> first | exact g _ (by kernel_rfl) | refine r _ _ _ ?_ | omega | (simp [maxLen, F56] <;> omega)
         refine WK [(2, AV.bool (v38 == 0))] [] 2 (by simp [F56]) (by simp [F56]) ?_
         simp only [Option.some.injEq] at hF
         subst hF
         refine AW.ret (hQ _ _ _ ?_ (matchO_0 ?_)).1
         ·simp [Try.f8, F56]
         ·simp [F56]
        ·replace hF := ite_f h76 hF
         have h76_ := eqb_f h76
         have h76__ := neb_t h76
         have F57 := And.intro F55 (And.intro h75 (And.intro h75_ (And.intro h76 (And.intro h76_ h76__))))
         try simp [F57]
         and_intros <;> first | exact g _ (by kernel_rfl) | refine r _ _ _ ?_ | omega | (simp [maxLen, F57] <;> omega)
         refine WK [(2, AV.bool false)] [] 2 (by simp [F57]) (by simp [F57]) ?_
         simp only [Option.some.injEq] at hF
         subst hF
         refine AW.ret (hQ _ _ _ ?_ (matchO_0 ?_)).1
         ·simp [Try.f8, F57]
         ·simp [F57]
       ·replace hF := ite_f h75 hF
        have h75_ := h75
        try simp at h75_
        have F58 := And.intro F55 (And.intro h75 h75_)
        try simp [F58]
        and_intros <;> first | exact g _ (by kernel_rfl) | refine r _ _ _ ?_ | omega | (simp [maxLen, F58] <;> omega)
        refine WK [(2, AV.bool false)] [] 2 (by simp [F58]) (by simp [F58]) ?_
        simp only [Option.some.injEq] at hF
        subst hF
        refine AW.ret (hQ _ _ _ ?_ (matchO_0 ?_)).1
        ·simp [Try.f8, F58]
        ·simp [F58]
end Go.TF
