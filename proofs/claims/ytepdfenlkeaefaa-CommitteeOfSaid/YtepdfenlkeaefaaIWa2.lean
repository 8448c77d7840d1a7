/- Walks: the Go text computes the Lean functions (printed by a program of our own). -/
import Derived.Test.YtepdfenlkeaefaaIPu
import Derived.Test.YtepdfenlkeaefaaIAbsT
import Derived.Test.YtepdfenlkeaefaaIWa0
import Derived.Test.YtepdfenlkeaefaaIWa1
set_option linter.unusedVariables false
set_option linter.unusedSimpArgs false
set_option maxRecDepth 100000
set_option maxHeartbeats 4000000
namespace Go.TF
open Go Go.Abs Go.Proofs Go.Proofs.YtepdfenlkeaefaaIT
theorem w_lists_In (k : Nat) (v0 : Int) (v1 : Int) (v2 : Int) (v3 : Bool) (hF : lists_In k v0 v1 v2 = some v3) :
  FCall Try.prog 101 [AV.int .i64 v0, AV.int .i64 v1, AV.int .i64 v2] [] (AV.bool v3) [] := by
 unfold lists_In at hF
 refine EN Try.func101 ?_
 intro c0 w0 Q h0 hQ
 refine WK [(0, Iz v0), (1, Iz v1), (2, Iz v2)] [] 0 (by simp) (by simp) ?_
 refine SQ [] [none] fun _ _ g r => ?_
 try simp
 and_intros <;> first | exact g _ (by kernel_rfl) | refine r _ _ _ ?_ | omega | (simp [maxLen] <;> omega)
 refine WK [(0, Iz v0), (1, Iz v1), (2, Iz v2)] [] 0 (by simp) (by simp) ?_
 refine SQ [] [none, none, none, none, some (10, true), some (10, true), some (10, true), none, none] fun _ _ g r => ?_
 by_cases h1 : v1 ≤ v0
 ·replace hF := ite_t h1 hF
  have h1_ := h1
  try simp at h1_
  try simp [h1, h1_]
  and_intros <;> first | exact g _ (by kernel_rfl) | refine r _ _ _ ?_ | omega | (simp [h1, h1_, maxLen] <;> omega)
  refine WK [(6, AV.bool (decide (v0 ≤ v2)))] [] 0 (by simp [h1, h1_]) (by simp [h1, h1_]) ?_
  simp only [Option.some.injEq] at hF
  subst hF
  refine AW.ret (hQ _ _ _ ?_ (matchO_0 ?_)).1
  ·simp [Try.f101, h1, h1_]
  ·simp [h1, h1_]
 ·replace hF := ite_f h1 hF
  have h1_ := h1
  try simp at h1_
  try simp [h1, h1_]
  and_intros <;> first | exact g _ (by kernel_rfl) | refine r _ _ _ ?_ | omega | (simp [h1, h1_, maxLen] <;> omega)
  refine WK [(6, AV.bool false)] [] 0 (by simp [h1, h1_]) (by simp [h1, h1_]) ?_
  simp only [Option.some.injEq] at hF
  subst hF
  refine AW.ret (hQ _ _ _ ?_ (matchO_0 ?_)).1
  ·simp [Try.f101, h1, h1_]
  ·simp [h1, h1_]
theorem w_lists_Rising (k : Nat) (v0 : (List Int)) (v1 : Int) (v2 : Int) (v3 : Bool) (hF : lists_Rising k v0 v1 v2 = some v3) :
  FCall Try.prog 100 [AV.lst false false (List.map (AV.int .i64) v0), AV.int .i64 v1, AV.int .i64 v2] [] (AV.bool v3) [] := by
 unfold lists_Rising at hF
 refine EN Try.func100 ?_
 intro c0 w0 Q h0 hQ
 refine WK [(0, Lz v0), (1, Iz v1), (2, Iz v2)] [] 0 (by simp) (by simp) ?_
 refine SQ [] [none] fun _ _ g r => ?_
 try simp
 and_intros <;> first | exact g _ (by kernel_rfl) | refine r _ _ _ ?_ | omega | (simp [maxLen] <;> omega)
 refine WK [(0, Lz v0), (1, Iz v1), (2, Iz v2)] [] 0 (by simp) (by simp) ?_
 refine AW.seq fun K167 hK167 => ?_
 refine SQ [] [none, none, none] fun _ _ g r => ?_
 try simp
 and_intros <;> first | exact g _ (by kernel_rfl) | refine r _ _ _ ?_ | omega | (simp [maxLen] <;> omega)
 refine WK [(0, Lz v0), (1, Iz v1), (2, Iz v2), (9, Lz v0), (10, Iz (v0.length : Int)), (11, Iz 0)] [] 0 (by simp) (by simp) ?_
 refine AW.block ?_
 refine AW.loopF (α := Int) (fun n v4 => lists_Rising.L1 k v0 v1 v2 n v4 = some v3) (fun v4 => [(0, Lz v0), (1, Iz v1), (2, Iz v2), (9, Lz v0), (10, Iz (v0.length : Int)), (11, Iz v4)]) (fun v4 => []) 0 k (0) hF (by simp) (by simp) (by simp) ?_
 rintro (_|n1) v4 hF K207 hK207
 ·try dsimp only at hF
  rw [lists_Rising.L1] at hF; cases hF
 try dsimp only at hF
 rw [lists_Rising.L1] at hF
 refine SQ [] [none] fun _ _ g r => ?_
 try simp
 and_intros <;> first | exact g _ (by kernel_rfl) | refine r _ _ _ ?_ | omega | (simp [maxLen] <;> omega)
 refine WK [(0, Lz v0), (1, Iz v1), (2, Iz v2), (9, Lz v0), (10, Iz (v0.length : Int)), (11, Iz v4), (12, AV.bool (decide (v4 < (v0.length : Int))))] [] 0 (by simp) (by simp) ?_
 refine AW.seq fun K209 hK209 => ?_
 by_cases h1 : v4 < (v0.length : Int)
 ·replace hF := ite_t h1 hF
  have h1_ := h1
  try simp at h1_
  refine CT (by simp [h1, h1_] <;> omega) ?_
  refine AW.skip ?_
  refine hK209 _ _ _ ?_
  refine AW.midF (α := Unit) (fun _ => lists_Rising.J2 k v4 (fun v4_ => lists_Rising.L1 k v0 v1 v2 n1 v4_) = some v3) (fun _ => [(0, Lz v0), (1, Iz v1), (2, Iz v2), (9, Lz v0), (10, Iz (v0.length : Int)), (11, Iz v4)]) (fun _ => []) 0 (fun K216 hK216 => ?_) ?_
  ·refine AW.block ?_
   refine SQ [] [none, none, none, none, none] fun _ _ g r => ?_
   obtain ⟨v5, h2, h3, h4, hF⟩ := idx_elim hF
   have h4_ := get_of h4
   try simp at h4_
   have h3_ := h3
   try simp at h3_
   have F1 := And.intro h1 (And.intro h1_ (And.intro h2 (And.intro h3 (And.intro h4 (And.intro h4_ h3_)))))
   try simp [F1]
   and_intros <;> first | exact g _ (by kernel_rfl) | refine r _ _ _ ?_ | omega | (simp [maxLen, F1] <;> omega)
   refine WK [(0, Lz v0), (1, Iz v1), (2, Iz v2), (7, Iz v4), (8, Iz v5), (9, Lz v0), (10, Iz (v0.length : Int)), (11, Iz v4)] [] 0 (by simp [F1]) (by simp [F1]) ?_
   refine SQ [] [none, none, none, none, some (19, false), some (19, false), some (19, false), none, none, some (24, false), some (24, false), some (24, false), some (27, true), some (27, true), some (27, true), some (27, true), some (27, true), some (27, true), some (27, true), some (24, false), none] fun _ _ g r => ?_
   by_cases h5 : v5 < v1
   ·replace hF := ite_t h5 hF
    have h5_ := h5
    try simp at h5_
    have F2 := And.intro F1 (And.intro h5 h5_)
    try simp [F2]
    and_intros <;> first | exact g _ (by kernel_rfl) | refine r _ _ _ ?_ | omega | (simp [maxLen, F2] <;> omega)
    refine WK [(0, Lz v0), (1, Iz v1), (2, Iz v2), (9, Lz v0), (10, Iz (v0.length : Int)), (11, Iz v4), (36, AV.bool true)] [] 0 (by simp [F2]) (by simp [F2]) ?_
    refine CT (by simp [F2]) ?_
    refine SQ [] [none] fun _ _ g r => ?_
    try simp [F2]
    and_intros <;> first | exact g _ (by kernel_rfl) | refine r _ _ _ ?_ | omega | (simp [maxLen, F2] <;> omega)
    refine WK [(6, AV.bool false)] [] 0 (by simp [F2]) (by simp [F2]) ?_
    simp only [Option.some.injEq] at hF
    subst hF
    refine AW.ret (hQ _ _ _ ?_ (matchO_0 ?_)).1
    ·simp [Try.f100, F2]
    ·simp [F2]
   ·replace hF := ite_f h5 hF
    have h5_ := h5
    try simp at h5_
    by_cases h6 : v2 < v5
    ·replace hF := ite_t h6 hF
     have h6_ := h6
     try simp at h6_
     have F3 := And.intro F1 (And.intro h5 (And.intro h5_ (And.intro h6 h6_)))
     try simp [F3]
     and_intros <;> first | exact g _ (by kernel_rfl) | refine r _ _ _ ?_ | omega | (simp [maxLen, F3] <;> omega)
     refine WK [(0, Lz v0), (1, Iz v1), (2, Iz v2), (9, Lz v0), (10, Iz (v0.length : Int)), (11, Iz v4), (36, AV.bool true)] [] 0 (by simp [F3]) (by simp [F3]) ?_
     refine CT (by simp [F3]) ?_
     refine SQ [] [none] fun _ _ g r => ?_
     try simp [F3]
     and_intros <;> first | exact g _ (by kernel_rfl) | refine r _ _ _ ?_ | omega | (simp [maxLen, F3] <;> omega)
     refine WK [(6, AV.bool false)] [] 0 (by simp [F3]) (by simp [F3]) ?_
     simp only [Option.some.injEq] at hF
     subst hF
     refine AW.ret (hQ _ _ _ ?_ (matchO_0 ?_)).1
     ·simp [Try.f100, F3]
     ·simp [F3]
    ·replace hF := ite_f h6 hF
     have h6_ := h6
     try simp at h6_
     by_cases h7 : 0 < v4
     ·replace hF := ite_t h7 hF
      have h7_ := h7
      try simp at h7_
      obtain ⟨v6, h8, h9, h10, hF⟩ := idx_elim hF
      have h10_ := get_of h10
      try simp at h10_
      have h9_ := h9
      try simp at h9_
      have F4 := And.intro F1 (And.intro h5 (And.intro h5_ (And.intro h6 (And.intro h6_ (And.intro h7 (And.intro h7_ (And.intro h8 (And.intro h9 (And.intro h10 (And.intro h10_ h9_))))))))))
      try simp [F4]
      and_intros <;> first | exact g _ (by kernel_rfl) | refine r _ _ _ ?_ | omega | (simp [maxLen, F4] <;> omega)
      refine WK [(0, Lz v0), (1, Iz v1), (2, Iz v2), (9, Lz v0), (10, Iz (v0.length : Int)), (11, Iz v4), (36, AV.bool (decide (v5 ≤ v6)))] [] 0 (by simp [F4]) (by simp [F4]) ?_
      by_cases h11 : v5 ≤ v6
      ·replace hF := ite_t h11 hF
       have h11_ := h11
       try simp at h11_
       have F5 := And.intro F4 (And.intro h11 h11_)
       refine CT (by simp [F5] <;> omega) ?_
       refine SQ [] [none] fun _ _ g r => ?_
       try simp [F5]
       and_intros <;> first | exact g _ (by kernel_rfl) | refine r _ _ _ ?_ | omega | (simp [maxLen, F5] <;> omega)
       refine WK [(6, AV.bool false)] [] 0 (by simp [F5]) (by simp [F5]) ?_
       simp only [Option.some.injEq] at hF
       subst hF
       refine AW.ret (hQ _ _ _ ?_ (matchO_0 ?_)).1
       ·simp [Try.f100, F5]
       ·simp [F5]
      ·replace hF := ite_f h11 hF
       have h11_ := h11
       try simp at h11_
       have F6 := And.intro F4 (And.intro h11 h11_)
       refine CF (by simp [F6] <;> omega) ?_
       refine AW.skip ?_
       refine hK216 _ _ _ ?_
       exact JN (()) hF (by simp [F6]) (by simp [F6])
     ·replace hF := ite_f h7 hF
      have h7_ := h7
      try simp at h7_
      have F7 := And.intro F1 (And.intro h5 (And.intro h5_ (And.intro h6 (And.intro h6_ (And.intro h7 h7_)))))
      try simp [F7]
      and_intros <;> first | exact g _ (by kernel_rfl) | refine r _ _ _ ?_ | omega | (simp [maxLen, F7] <;> omega)
      refine WK [(0, Lz v0), (1, Iz v1), (2, Iz v2), (9, Lz v0), (10, Iz (v0.length : Int)), (11, Iz v4), (36, AV.bool false)] [] 0 (by simp [F7]) (by simp [F7]) ?_
      refine CF (by simp [F7]) ?_
      refine AW.skip ?_
      refine hK216 _ _ _ ?_
      exact JN (()) hF (by simp [F7]) (by simp [F7])
  ·rintro ⟨⟩ hF
   try dsimp only at hF
   unfold lists_Rising.J2 at hF
   refine RG [] [none, none] fun _ _ g r => ?_
   try simp [h1, h1_]
   and_intros <;> first | exact g _ (by kernel_rfl) | refine r _ _ _ ?_ | omega | (simp [h1, h1_, maxLen] <;> omega)
   refine hK207 _ _ _ ?_
   exact NX (k' := n1) (IntKind.wrap .i64 (v4 + 1)) hF (by simp [h1, h1_]) (by simp [h1, h1_])
 ·replace hF := ite_f h1 hF
  have h1_ := h1
  try simp at h1_
  refine CF (by simp [h1, h1_] <;> omega) ?_
  refine AW.exit ?_
  try simp
  refine hK167 _ _ _ ?_
  refine SQ [] [none] fun _ _ g r => ?_
  try simp [h1, h1_]
  and_intros <;> first | exact g _ (by kernel_rfl) | refine r _ _ _ ?_ | omega | (simp [h1, h1_, maxLen] <;> omega)
  refine WK [(6, AV.bool true)] [] 0 (by simp [h1, h1_]) (by simp [h1, h1_]) ?_
  simp only [Option.some.injEq] at hF
  subst hF
  refine AW.ret (hQ _ _ _ ?_ (matchO_0 ?_)).1
  ·simp [Try.f100, h1, h1_]
  ·simp [h1, h1_]
theorem w_slices_Index_int_int (k : Nat) (v0 : (List Int)) (v1 : Int) (v2 : Int) (hF : slices_Index_int_int k v0 v1 = some v2) :
  FCall Try.prog 135 [AV.lst false false (List.map (AV.int .i64) v0), AV.int .i64 v1] [] (AV.int .i64 v2) [] := by
 unfold slices_Index_int_int at hF
 refine EN Try.func135 ?_
 intro c0 w0 Q h0 hQ
 refine WK [(0, Lz v0), (1, Iz v1)] [] 0 (by simp) (by simp) ?_
 refine SQ [] [none] fun _ _ g r => ?_
 try simp
 and_intros <;> first | exact g _ (by kernel_rfl) | refine r _ _ _ ?_ | omega | (simp [maxLen] <;> omega)
 refine WK [(0, Lz v0), (1, Iz v1)] [] 0 (by simp) (by simp) ?_
 refine AW.seq fun K131 hK131 => ?_
 refine SQ [] [none, none, none] fun _ _ g r => ?_
 try simp
 and_intros <;> first | exact g _ (by kernel_rfl) | refine r _ _ _ ?_ | omega | (simp [maxLen] <;> omega)
 refine WK [(0, Lz v0), (1, Iz v1), (7, Iz (v0.length : Int)), (8, Iz 0)] [] 0 (by simp) (by simp) ?_
 refine AW.block ?_
 refine AW.loopF (α := Int) (fun n v3 => slices_Index_int_int.L1 k v0 v1 n v3 = some v2) (fun v3 => [(0, Lz v0), (1, Iz v1), (7, Iz (v0.length : Int)), (8, Iz v3)]) (fun v3 => []) 0 k (0) hF (by simp) (by simp) (by simp) ?_
 rintro (_|n1) v3 hF K163 hK163
 ·try dsimp only at hF
  rw [slices_Index_int_int.L1] at hF; cases hF
 try dsimp only at hF
 rw [slices_Index_int_int.L1] at hF
 refine SQ [] [none] fun _ _ g r => ?_
 try simp
 and_intros <;> first | exact g _ (by kernel_rfl) | refine r _ _ _ ?_ | omega | (simp [maxLen] <;> omega)
 refine WK [(0, Lz v0), (1, Iz v1), (7, Iz (v0.length : Int)), (8, Iz v3), (9, AV.bool (decide (v3 < (v0.length : Int))))] [] 0 (by simp) (by simp) ?_
 refine AW.seq fun K165 hK165 => ?_
 by_cases h1 : v3 < (v0.length : Int)
 ·replace hF := ite_t h1 hF
  have h1_ := h1
  try simp at h1_
  refine CT (by simp [h1, h1_] <;> omega) ?_
  refine AW.skip ?_
  refine hK165 _ _ _ ?_
  refine AW.seq fun K169 hK169 => ?_
  refine AW.block ?_
  refine SQ [] [none, none] fun _ _ g r => ?_
  try simp [h1, h1_]
  and_intros <;> first | exact g _ (by kernel_rfl) | refine r _ _ _ ?_ | omega | (simp [h1, h1_, maxLen] <;> omega)
  refine WK [(0, Lz v0), (1, Iz v1), (5, Iz v3), (7, Iz (v0.length : Int)), (8, Iz v3)] [] 0 (by simp [h1, h1_]) (by simp [h1, h1_]) ?_
  refine SQ [] [none, none, none, none, none, none] fun _ _ g r => ?_
  obtain ⟨v4, h2, h3, h4, hF⟩ := idx_elim hF
  have h4_ := get_of h4
  try simp at h4_
  have h3_ := h3
  try simp at h3_
  have F1 := And.intro h1 (And.intro h1_ (And.intro h2 (And.intro h3 (And.intro h4 (And.intro h4_ h3_)))))
  try simp [F1]
  and_intros <;> first | exact g _ (by kernel_rfl) | refine r _ _ _ ?_ | omega | (simp [maxLen, F1] <;> omega)
  refine WK [(0, Lz v0), (1, Iz v1), (5, Iz v3), (7, Iz (v0.length : Int)), (8, Iz v3), (16, AV.bool (v1 == v4))] [] 0 (by simp [F1]) (by simp [F1]) ?_
  by_cases h5 : v1 = v4
  ·replace hF := ite_t h5 hF
   have h5q : v1 = v4 := h5
   have h5_ := eqb_t h5q
   have h5__ := neb_f h5q
   have F2 := And.intro F1 (And.intro h5_ h5__)
   refine CT (by simp [F2] <;> omega) ?_
   refine SQ [] [none, none] fun _ _ g r => ?_
   try simp [F2]
   and_intros <;> first | exact g _ (by kernel_rfl) | refine r _ _ _ ?_ | omega | (simp [maxLen, F2] <;> omega)
   refine WK [(4, Iz v3)] [] 0 (by simp [F2]) (by simp [F2]) ?_
   simp only [Option.some.injEq] at hF
   subst hF
   refine AW.ret (hQ _ _ _ ?_ (matchO_0 ?_)).1
   ·simp [Try.f135, F2]
   ·simp [F2]
  ·replace hF := ite_f h5 hF
   have h5_ := eqb_f h5
   have h5__ := neb_t h5
   have F3 := And.intro F1 (And.intro h5 (And.intro h5_ h5__))
   refine CF (by simp [F3] <;> omega) ?_
   refine AW.skip ?_
   refine hK169 _ _ _ ?_
   refine RG [] [none, none] fun _ _ g r => ?_
   try simp [F3]
   and_intros <;> first | exact g _ (by kernel_rfl) | refine r _ _ _ ?_ | omega | (simp [maxLen, F3] <;> omega)
   refine hK163 _ _ _ ?_
   exact NX (k' := n1) (IntKind.wrap .i64 (v3 + 1)) hF (by simp [F3]) (by simp [F3])
 ·replace hF := ite_f h1 hF
  have h1_ := h1
  try simp at h1_
  refine CF (by simp [h1, h1_] <;> omega) ?_
  refine AW.exit ?_
  try simp
  refine hK131 _ _ _ ?_
  refine SQ [] [none] fun _ _ g r => ?_
  try simp [h1, h1_]
  and_intros <;> first | exact g _ (by kernel_rfl) | refine r _ _ _ ?_ | omega | (simp [h1, h1_, maxLen] <;> omega)
  refine WK [(4, Iz (-1))] [] 0 (by simp [h1, h1_]) (by simp [h1, h1_]) ?_
  simp only [Option.some.injEq] at hF
  subst hF
  refine AW.ret (hQ _ _ _ ?_ (matchO_0 ?_)).1
  ·simp [Try.f135, h1, h1_]
  ·simp [h1, h1_]
theorem w_slices_Contains_int_int (k : Nat) (v0 : (List Int)) (v1 : Int) (v2 : Bool) (hF : slices_Contains_int_int k v0 v1 = some v2) :
  FCall Try.prog 123 [AV.lst false false (List.map (AV.int .i64) v0), AV.int .i64 v1] [] (AV.bool v2) [] := by
 unfold slices_Contains_int_int at hF
 refine EN Try.func123 ?_
 intro c0 w0 Q h0 hQ
 refine WK [(0, Lz v0), (1, Iz v1)] [] 0 (by simp) (by simp) ?_
 refine SQ [] [none] fun _ _ g r => ?_
 try simp
 and_intros <;> first | exact g _ (by kernel_rfl) | refine r _ _ _ ?_ | omega | (simp [maxLen] <;> omega)
 refine WK [(0, Lz v0), (1, Iz v1)] [] 0 (by simp) (by simp) ?_
 refine SQ [] [none, none, none, none, none] fun _ _ g r => ?_
 try simp
 and_intros
 try any_goals first | omega | (simp [maxLen] <;> omega)
 obtain ⟨v3, h1, hF⟩ := bnd1_elim hF
 refine AC (w_slices_Index_int_int k _ _ _ h1) (.cons (.same (by simp)) (.cons (.same (by simp)) .nil)) ?_
 try simp
 and_intros <;> first | exact g _ (by kernel_rfl) | refine r _ _ _ ?_ | omega | (simp [maxLen] <;> omega)
 refine WK [(4, AV.bool (decide (0 ≤ v3)))] [] 0 (by simp) (by simp) ?_
 simp only [Option.some.injEq] at hF
 subst hF
 refine AW.ret (hQ _ _ _ ?_ (matchO_0 ?_)).1
 ·simp [Try.f123]
 ·simp
theorem w_graph_fits (k : Nat) (v0 : Int) (v1 : (List api_Edge)) (v2 : (List Int)) (v3 : Int) (v4 : Int) (v5 : Int) (v6 : Bool) (hF : graph_fits k v0 v1 v2 v3 v4 v5 = some v6) :
  FCall Try.prog 117 [AV.agg [AV.int .i64 v0, AV.lst false false (List.map api_Edge.av v1), AV.lst false false (List.map (AV.int .i64) v2)], AV.agg [AV.int .i64 v3, AV.int .i64 v4, AV.int .i64 v5]] [] (AV.bool v6) [] := by
 unfold graph_fits at hF
 refine EN Try.func117 ?_
 intro c0 w0 Q h0 hQ
 refine WK [(0, AV.agg [Iz v0, AV.lst false false (List.map api_Edge.av v1), Lz v2]), (1, AV.agg [Iz v3, Iz v4, Iz v5])] [] 0 (by simp) (by simp) ?_
 refine SQ [] [none, none, none] fun _ _ g r => ?_
 try simp
 and_intros <;> first | exact g _ (by kernel_rfl) | refine r _ _ _ ?_ | omega | (simp [maxLen] <;> omega)
 refine WK [(2, AV.ptr 0 0), (3, AV.ptr 1 0)] [(0, .cells [Iz v0, AV.lst false false (List.map api_Edge.av v1), Lz v2]), (1, .cells [Iz v3, Iz v4, Iz v5])] 2 (by simp) (by simp) ?_
 refine SQ [] [none, none, none, none, none, none, none, some (11, true), some (11, true), some (11, true), some (11, true), some (11, true), some (11, true), none, none, some (19, true), some (19, true), some (19, true), some (19, true), some (19, true), none, none, some (26, true), some (26, true), some (26, true), some (26, true), some (26, true), some (26, true), none, none, some (34, true), some (34, true), some (34, true), some (34, true), some (34, true), some (34, true), none, none] fun _ _ g r => ?_
 try simp
 and_intros
 try any_goals first | omega | (simp [maxLen] <;> omega)
 obtain ⟨v7, h1, hF⟩ := bnd1_elim hF
 refine AC (w_lists_In k _ _ _ _ h1) (.cons (.same (by simp)) (.cons (.same (by simp)) (.cons (.same (by simp)) .nil))) ?_
 by_cases h2 : v7 = true
 ·replace hF := ite_t h2 hF
  have h2_ := h2
  try simp at h2_
  try simp [h2, h2_]
  and_intros
  try any_goals first | omega | (simp [h2, h2_, maxLen] <;> omega)
  obtain ⟨v8, h3, hF⟩ := bnd1_elim hF
  refine AC (w_lists_In k _ _ _ _ h3) (.cons (.same (by simp [h2, h2_])) (.cons (.same (by simp [h2, h2_])) (.cons (.same (by simp [h2, h2_])) .nil))) ?_
  by_cases h4 : v8 = true
  ·replace hF := ite_t h4 hF
   have h4_ := h4
   try simp at h4_
   by_cases h5 : v3 ≠ v4
   ·replace hF := ite_t h5 hF
    have h5_ := eqb_f h5
    have h5__ := neb_t h5
    have F1 := And.intro h2 (And.intro h2_ (And.intro h4 (And.intro h4_ (And.intro h5 (And.intro h5_ h5__)))))
    try simp [F1]
    and_intros
    try any_goals first | omega | (simp [maxLen, F1] <;> omega)
    obtain ⟨v9, h6, hF⟩ := bnd1_elim hF
    refine AC (w_slices_Contains_int_int k _ _ _ h6) (.cons (.same (by simp [F1])) (.cons (.same (by simp [F1])) .nil)) ?_
    by_cases h7 : (!v9) = true
    ·replace hF := ite_t h7 hF
     have h7_ := h7
     try simp at h7_
     have F2 := And.intro F1 (And.intro h7 h7_)
     try simp [F2]
     and_intros
     try any_goals first | omega | (simp [maxLen, F2] <;> omega)
     obtain ⟨v10, h8, hF⟩ := bnd1_elim hF
     refine AC (w_slices_Contains_int_int k _ _ _ h8) (.cons (.same (by simp [F2])) (.cons (.same (by simp [F2])) .nil)) ?_
     try simp [F2]
     and_intros <;> first | exact g _ (by kernel_rfl) | refine r _ _ _ ?_ | omega | (simp [maxLen, F2] <;> omega)
     refine WK [(4, AV.bool (!v10))] [] 2 (by simp [F2]) (by simp [F2]) ?_
     simp only [Option.some.injEq] at hF
     subst hF
     refine AW.ret (hQ _ _ _ ?_ (matchO_0 ?_)).1
     ·simp [Try.f117, F2]
     ·simp [F2]
    ·replace hF := ite_f h7 hF
     have h7_ := h7
     try simp at h7_
     have F3 := And.intro F1 (And.intro h7 h7_)
     try simp [F3]
     and_intros <;> first | exact g _ (by kernel_rfl) | refine r _ _ _ ?_ | omega | (simp [maxLen, F3] <;> omega)
     refine WK [(4, AV.bool false)] [] 2 (by simp [F3]) (by simp [F3]) ?_
     simp only [Option.some.injEq] at hF
     subst hF
     refine AW.ret (hQ _ _ _ ?_ (matchO_0 ?_)).1
     ·simp [Try.f117, F3]
     ·simp [F3]
   ·replace hF := ite_f h5 hF
    have h5q : v3 = v4 := Classical.not_not.1 h5
    have h5_ := eqb_t h5q
    have h5__ := neb_f h5q
    have F4 := And.intro h2 (And.intro h2_ (And.intro h4 (And.intro h4_ (And.intro h5_ h5__))))
    try simp [F4]
    and_intros <;> first | exact g _ (by kernel_rfl) | refine r _ _ _ ?_ | omega | (simp [maxLen, F4] <;> omega)
    refine WK [(4, AV.bool false)] [] 2 (by simp [F4]) (by simp [F4]) ?_
    simp only [Option.some.injEq] at hF
    subst hF
    refine AW.ret (hQ _ _ _ ?_ (matchO_0 ?_)).1
    ·simp [Try.f117, F4]
    ·simp [F4]
  ·replace hF := ite_f h4 hF
   have h4_ := h4
   try simp at h4_
   have F5 := And.intro h2 (And.intro h2_ (And.intro h4 h4_))
   try simp [F5]
   and_intros <;> first | exact g _ (by kernel_rfl) | refine r _ _ _ ?_ | omega | (simp [maxLen, F5] <;> omega)
   refine WK [(4, AV.bool false)] [] 2 (by simp [F5]) (by simp [F5]) ?_
   simp only [Option.some.injEq] at hF
   subst hF
   refine AW.ret (hQ _ _ _ ?_ (matchO_0 ?_)).1
   ·simp [Try.f117, F5]
   ·simp [F5]
 ·replace hF := ite_f h2 hF
  have h2_ := h2
  try simp at h2_
  try simp [h2, h2_]
  and_intros <;> first | exact g _ (by kernel_rfl) | refine r _ _ _ ?_ | omega | (simp [h2, h2_, maxLen] <;> omega)
  refine WK [(4, AV.bool false)] [] 2 (by simp [h2, h2_]) (by simp [h2, h2_]) ?_
  simp only [Option.some.injEq] at hF
  subst hF
  refine AW.ret (hQ _ _ _ ?_ (matchO_0 ?_)).1
  ·simp [Try.f117, h2, h2_]
  ·simp [h2, h2_]
theorem w_cmp_isNaN_int (k : Nat) (v0 : Int) (v1 : Bool) (hF : cmp_isNaN_int k v0 = some v1) :
  FCall Try.prog 136 [AV.int .i64 v0] [] (AV.bool v1) [] := by
 unfold cmp_isNaN_int at hF
 refine EN Try.func136 ?_
 intro c0 w0 Q h0 hQ
 refine WK [(0, Iz v0)] [] 0 (by simp) (by simp) ?_
 refine SQ [] [none] fun _ _ g r => ?_
 try simp
 and_intros <;> first | exact g _ (by kernel_rfl) | refine r _ _ _ ?_ | omega | (simp [maxLen] <;> omega)
 refine WK [(0, Iz v0)] [] 0 (by simp) (by simp) ?_
 refine SQ [] [none, none, none, none] fun _ _ g r => ?_
 try simp
 and_intros <;> first | exact g _ (by kernel_rfl) | refine r _ _ _ ?_ | omega | (simp [maxLen] <;> omega)
 refine WK [(2, AV.bool (v0 != v0))] [] 0 (by simp) (by simp) ?_
 simp only [Option.some.injEq] at hF
 subst hF
 refine AW.ret (hQ _ _ _ ?_ (matchO_0 ?_)).1
 ·simp [Try.f136]
 ·simp
theorem w_cmp_Compare_int (k : Nat) (v0 : Int) (v1 : Int) (v2 : Int) (hF : cmp_Compare_int k v0 v1 = some v2) :
  FCall Try.prog 125 [AV.int .i64 v0, AV.int .i64 v1] [] (AV.int .i64 v2) [] := by
 unfold cmp_Compare_int at hF
 refine EN Try.func125 ?_
 intro c0 w0 Q h0 hQ
 refine WK [(0, Iz v0), (1, Iz v1)] [] 0 (by simp) (by simp) ?_
 refine SQ [] [none] fun _ _ g r => ?_
 try simp
 and_intros <;> first | exact g _ (by kernel_rfl) | refine r _ _ _ ?_ | omega | (simp [maxLen] <;> omega)
 refine WK [(0, Iz v0), (1, Iz v1)] [] 0 (by simp) (by simp) ?_
 refine SQ [] [none, none, none] fun _ _ g r => ?_
 try simp
 and_intros
 try any_goals first | omega | (simp [maxLen] <;> omega)
 obtain ⟨v3, h1, hF⟩ := bnd1_elim hF
 refine AC (w_cmp_isNaN_int k _ _ h1) (.cons (.same (by simp)) .nil) ?_
 try simp
 and_intros <;> first | exact g _ (by kernel_rfl) | refine r _ _ _ ?_ | omega | (simp [maxLen] <;> omega)
 refine WK [(0, Iz v0), (1, Iz v1), (5, AV.bool v3)] [] 0 (by simp) (by simp) ?_
 refine SQ [] [none, none, none] fun _ _ g r => ?_
 try simp
 and_intros
 try any_goals first | omega | (simp [maxLen] <;> omega)
 obtain ⟨v4, h2, hF⟩ := bnd1_elim hF
 refine AC (w_cmp_isNaN_int k _ _ h2) (.cons (.same (by simp)) .nil) ?_
 try simp
 and_intros <;> first | exact g _ (by kernel_rfl) | refine r _ _ _ ?_ | omega | (simp [maxLen] <;> omega)
 refine WK [(0, Iz v0), (1, Iz v1), (5, AV.bool v3), (6, AV.bool v4)] [] 0 (by simp) (by simp) ?_
 refine AW.seq fun K45 hK45 => ?_
 refine SQ [] [none] fun _ _ g r => ?_
 try simp
 and_intros <;> first | exact g _ (by kernel_rfl) | refine r _ _ _ ?_ | omega | (simp [maxLen] <;> omega)
 refine WK [(0, Iz v0), (1, Iz v1), (6, AV.bool v4), (11, AV.bool v3)] [] 0 (by simp) (by simp) ?_
 by_cases h3 : v3 = true
 ·replace hF := ite_t h3 hF
  have h3_ := h3
  try simp at h3_
  refine CT (by simp [h3, h3_] <;> omega) ?_
  refine AW.seq fun K49 hK49 => ?_
  refine SQ [] [none] fun _ _ g r => ?_
  try simp [h3, h3_]
  and_intros <;> first | exact g _ (by kernel_rfl) | refine r _ _ _ ?_ | omega | (simp [h3, h3_, maxLen] <;> omega)
  refine WK [(12, AV.bool v4)] [] 0 (by simp [h3, h3_]) (by simp [h3, h3_]) ?_
  by_cases h4 : v4 = true
  ·replace hF := ite_t h4 hF
   have h4_ := h4
   try simp at h4_
   have F1 := And.intro h3 (And.intro h3_ (And.intro h4 h4_))
   refine CT (by simp [F1] <;> omega) ?_
   refine SQ [] [none] fun _ _ g r => ?_
   try simp [F1]
   and_intros <;> first | exact g _ (by kernel_rfl) | refine r _ _ _ ?_ | omega | (simp [maxLen, F1] <;> omega)
   refine WK [(4, Iz 0)] [] 0 (by simp [F1]) (by simp [F1]) ?_
   simp only [Option.some.injEq] at hF
   subst hF
   refine AW.ret (hQ _ _ _ ?_ (matchO_0 ?_)).1
   ·simp [Try.f125, F1]
   ·simp [F1]
  ·replace hF := ite_f h4 hF
   have h4_ := h4
   try simp at h4_
   have F2 := And.intro h3 (And.intro h3_ (And.intro h4 h4_))
   refine CF (by simp [F2] <;> omega) ?_
   refine AW.skip ?_
   refine hK49 _ _ _ ?_
   refine SQ [] [none] fun _ _ g r => ?_
   try simp [F2]
   and_intros <;> first | exact g _ (by kernel_rfl) | refine r _ _ _ ?_ | omega | (simp [maxLen, F2] <;> omega)
   refine WK [(4, Iz (-1))] [] 0 (by simp [F2]) (by simp [F2]) ?_
   simp only [Option.some.injEq] at hF
   subst hF
   refine AW.ret (hQ _ _ _ ?_ (matchO_0 ?_)).1
   ·simp [Try.f125, F2]
   ·simp [F2]
 ·replace hF := ite_f h3 hF
  have h3_ := h3
  try simp at h3_
  refine CF (by simp [h3, h3_] <;> omega) ?_
  refine AW.skip ?_
  refine hK45 _ _ _ ?_
  refine AW.seq fun K55 hK55 => ?_
  refine SQ [] [none] fun _ _ g r => ?_
  try simp [h3, h3_]
  and_intros <;> first | exact g _ (by kernel_rfl) | refine r _ _ _ ?_ | omega | (simp [h3, h3_, maxLen] <;> omega)
  refine WK [(0, Iz v0), (1, Iz v1), (13, AV.bool v4)] [] 0 (by simp [h3, h3_]) (by simp [h3, h3_]) ?_
  by_cases h5 : v4 = true
  ·replace hF := ite_t h5 hF
   have h5_ := h5
   try simp at h5_
   have F3 := And.intro h3 (And.intro h3_ (And.intro h5 h5_))
   refine CT (by simp [F3] <;> omega) ?_
   refine SQ [] [none] fun _ _ g r => ?_
   try simp [F3]
   and_intros <;> first | exact g _ (by kernel_rfl) | refine r _ _ _ ?_ | omega | (simp [maxLen, F3] <;> omega)
   refine WK [(4, Iz 1)] [] 0 (by simp [F3]) (by simp [F3]) ?_
   simp only [Option.some.injEq] at hF
   subst hF
   refine AW.ret (hQ _ _ _ ?_ (matchO_0 ?_)).1
   ·simp [Try.f125, F3]
   ·simp [F3]
  ·replace hF := ite_f h5 hF
   have h5_ := h5
   try simp at h5_
   have F4 := And.intro h3 (And.intro h3_ (And.intro h5 h5_))
   refine CF (by simp [F4] <;> omega) ?_
   refine AW.skip ?_
   refine hK55 _ _ _ ?_
   refine AW.seq fun K60 hK60 => ?_
   refine SQ [] [none, none, none] fun _ _ g r => ?_
   try simp [F4]
   and_intros <;> first | exact g _ (by kernel_rfl) | refine r _ _ _ ?_ | omega | (simp [maxLen, F4] <;> omega)
   refine WK [(0, Iz v0), (1, Iz v1), (16, AV.bool (decide (v0 < v1)))] [] 0 (by simp [F4]) (by simp [F4]) ?_
   by_cases h6 : v0 < v1
   ·replace hF := ite_t h6 hF
    have h6_ := h6
    try simp at h6_
    have F5 := And.intro F4 (And.intro h6 h6_)
    refine CT (by simp [F5] <;> omega) ?_
    refine SQ [] [none] fun _ _ g r => ?_
    try simp [F5]
    and_intros <;> first | exact g _ (by kernel_rfl) | refine r _ _ _ ?_ | omega | (simp [maxLen, F5] <;> omega)
    refine WK [(4, Iz (-1))] [] 0 (by simp [F5]) (by simp [F5]) ?_
    simp only [Option.some.injEq] at hF
    subst hF
    refine AW.ret (hQ _ _ _ ?_ (matchO_0 ?_)).1
    ·simp [Try.f125, F5]
    ·simp [F5]
   ·replace hF := ite_f h6 hF
    have h6_ := h6
    try simp at h6_
    have F6 := And.intro F4 (And.intro h6 h6_)
    refine CF (by simp [F6] <;> omega) ?_
    refine AW.skip ?_
    refine hK60 _ _ _ ?_
    refine AW.seq fun K65 hK65 => ?_
    refine SQ [] [none, none, none] fun _ _ g r => ?_
    try simp [F6]
    and_intros <;> first | exact g _ (by kernel_rfl) | refine r _ _ _ ?_ | omega | (simp [maxLen, F6] <;> omega)
    refine WK [(19, AV.bool (decide (v1 < v0)))] [] 0 (by simp [F6]) (by simp [F6]) ?_
    by_cases h7 : v1 < v0
    ·replace hF := ite_t h7 hF
     have h7_ := h7
     try simp at h7_
     have F7 := And.intro F6 (And.intro h7 h7_)
     refine CT (by simp [F7] <;> omega) ?_
     refine SQ [] [none] fun _ _ g r => ?_
     try simp [F7]
     and_intros <;> first | exact g _ (by kernel_rfl) | refine r _ _ _ ?_ | omega | (simp [maxLen, F7] <;> omega)
     refine WK [(4, Iz 1)] [] 0 (by simp [F7]) (by simp [F7]) ?_
     simp only [Option.some.injEq] at hF
     subst hF
     refine AW.ret (hQ _ _ _ ?_ (matchO_0 ?_)).1
     ·simp [Try.f125, F7]
     ·simp [F7]
    ·replace hF := ite_f h7 hF
     have h7_ := h7
     try simp at h7_
     have F8 := And.intro F6 (And.intro h7 h7_)
     refine CF (by simp [F8] <;> omega) ?_
     refine AW.skip ?_
     refine hK65 _ _ _ ?_
     refine SQ [] [none] fun _ _ g r => ?_
     try simp [F8]
     and_intros <;> first | exact g _ (by kernel_rfl) | refine r _ _ _ ?_ | omega | (simp [maxLen, F8] <;> omega)
     refine WK [(4, Iz 0)] [] 0 (by simp [F8]) (by simp [F8]) ?_
     simp only [Option.some.injEq] at hF
     subst hF
     refine AW.ret (hQ _ _ _ ?_ (matchO_0 ?_)).1
     ·simp [Try.f125, F8]
     ·simp [F8]
theorem w_cmp_Or_int (k : Nat) (v0 : (List Int)) (v1 : Int) (hF : cmp_Or_int k v0 = some v1) :
  FCall Try.prog 124 [AV.lst false false (List.map (AV.int .i64) v0)] [] (AV.int .i64 v1) [] := by
 unfold cmp_Or_int at hF
 refine EN Try.func124 ?_
 intro c0 w0 Q h0 hQ
 refine WK [(0, Lz v0)] [] 0 (by simp) (by simp) ?_
 refine SQ [] [none] fun _ _ g r => ?_
 try simp
 and_intros <;> first | exact g _ (by kernel_rfl) | refine r _ _ _ ?_ | omega | (simp [maxLen] <;> omega)
 refine WK [(0, Lz v0)] [] 0 (by simp) (by simp) ?_
 refine SQ [] [none] fun _ _ g r => ?_
 try simp
 and_intros <;> first | exact g _ (by kernel_rfl) | refine r _ _ _ ?_ | omega | (simp [maxLen] <;> omega)
 refine WK [(0, Lz v0), (3, Iz 0)] [] 0 (by simp) (by simp) ?_
 refine AW.seq fun K133 hK133 => ?_
 refine SQ [] [none, none, none] fun _ _ g r => ?_
 try simp
 and_intros <;> first | exact g _ (by kernel_rfl) | refine r _ _ _ ?_ | omega | (simp [maxLen] <;> omega)
 refine WK [(3, Iz 0), (6, Lz v0), (7, Iz (v0.length : Int)), (8, Iz 0)] [] 0 (by simp) (by simp) ?_
 refine AW.block ?_
 refine AW.loopF (α := Int) (fun n v2 => cmp_Or_int.L1 k v0 n v2 = some v1) (fun v2 => [(3, Iz 0), (6, Lz v0), (7, Iz (v0.length : Int)), (8, Iz v2)]) (fun v2 => []) 0 k (0) hF (by simp) (by simp) (by simp) ?_
 rintro (_|n1) v2 hF K165 hK165
 ·try dsimp only at hF
  rw [cmp_Or_int.L1] at hF; cases hF
 try dsimp only at hF
 rw [cmp_Or_int.L1] at hF
 refine SQ [] [none] fun _ _ g r => ?_
 try simp
 and_intros <;> first | exact g _ (by kernel_rfl) | refine r _ _ _ ?_ | omega | (simp [maxLen] <;> omega)
 refine WK [(3, Iz 0), (6, Lz v0), (7, Iz (v0.length : Int)), (8, Iz v2), (9, AV.bool (decide (v2 < (v0.length : Int))))] [] 0 (by simp) (by simp) ?_
 refine AW.seq fun K167 hK167 => ?_
 by_cases h1 : v2 < (v0.length : Int)
 ·replace hF := ite_t h1 hF
  have h1_ := h1
  try simp at h1_
  refine CT (by simp [h1, h1_] <;> omega) ?_
  refine AW.skip ?_
  refine hK167 _ _ _ ?_
  refine AW.seq fun K171 hK171 => ?_
  refine AW.block ?_
  refine SQ [] [none, none, none] fun _ _ g r => ?_
  obtain ⟨v3, h2, h3, h4, hF⟩ := idx_elim hF
  have h4_ := get_of h4
  try simp at h4_
  have h3_ := h3
  try simp at h3_
  have F1 := And.intro h1 (And.intro h1_ (And.intro h2 (And.intro h3 (And.intro h4 (And.intro h4_ h3_)))))
  try simp [F1]
  and_intros <;> first | exact g _ (by kernel_rfl) | refine r _ _ _ ?_ | omega | (simp [maxLen, F1] <;> omega)
  refine WK [(3, Iz 0), (5, Iz v3), (6, Lz v0), (7, Iz (v0.length : Int)), (8, Iz v2)] [] 0 (by simp [F1]) (by simp [F1]) ?_
  refine SQ [] [none, none, none] fun _ _ g r => ?_
  try simp [F1]
  and_intros <;> first | exact g _ (by kernel_rfl) | refine r _ _ _ ?_ | omega | (simp [maxLen, F1] <;> omega)
  refine WK [(3, Iz 0), (5, Iz v3), (6, Lz v0), (7, Iz (v0.length : Int)), (8, Iz v2), (14, AV.bool (v3 != 0))] [] 0 (by simp [F1]) (by simp [F1]) ?_
  by_cases h5 : v3 ≠ 0
  ·replace hF := ite_t h5 hF
   have h5_ := eqb_f h5
   have h5__ := neb_t h5
   have F2 := And.intro F1 (And.intro h5 (And.intro h5_ h5__))
   refine CT (by simp [F2] <;> omega) ?_
   refine SQ [] [none, none] fun _ _ g r => ?_
   try simp [F2]
   and_intros <;> first | exact g _ (by kernel_rfl) | refine r _ _ _ ?_ | omega | (simp [maxLen, F2] <;> omega)
   refine WK [(2, Iz v3)] [] 0 (by simp [F2]) (by simp [F2]) ?_
   simp only [Option.some.injEq] at hF
   subst hF
   refine AW.ret (hQ _ _ _ ?_ (matchO_0 ?_)).1
   ·simp [Try.f124, F2]
   ·simp [F2]
  ·replace hF := ite_f h5 hF
   have h5q : v3 = 0 := Classical.not_not.1 h5
   have h5_ := eqb_t h5q
   have h5__ := neb_f h5q
   have F3 := And.intro F1 (And.intro h5_ (And.intro h5__ h5q))
   refine CF (by simp [F3] <;> omega) ?_
   refine AW.skip ?_
   refine hK171 _ _ _ ?_
   refine RG [] [none, none] fun _ _ g r => ?_
   try simp [F3]
   and_intros <;> first | exact g _ (by kernel_rfl) | refine r _ _ _ ?_ | omega | (simp [maxLen, F3] <;> omega)
   refine hK165 _ _ _ ?_
   exact NX (k' := n1) (IntKind.wrap .i64 (v2 + 1)) hF (by simp [F3]) (by simp [F3])
 ·replace hF := ite_f h1 hF
  have h1_ := h1
  try simp at h1_
  refine CF (by simp [h1, h1_] <;> omega) ?_
  refine AW.exit ?_
  try simp
  refine hK133 _ _ _ ?_
  refine SQ [] [none, none] fun _ _ g r => ?_
  try simp [h1, h1_]
  and_intros <;> first | exact g _ (by kernel_rfl) | refine r _ _ _ ?_ | omega | (simp [h1, h1_, maxLen] <;> omega)
  refine WK [(2, Iz 0)] [] 0 (by simp [h1, h1_]) (by simp [h1, h1_]) ?_
  simp only [Option.some.injEq] at hF
  subst hF
  refine AW.ret (hQ _ _ _ ?_ (matchO_0 ?_)).1
  ·simp [Try.f124, h1, h1_]
  ·simp [h1, h1_]
theorem w_graph_compare (k : Nat) (v0 : Int) (v1 : Int) (v2 : Int) (v3 : Int) (v4 : Int) (v5 : Int) (v6 : Int) (hF : graph_compare k v0 v1 v2 v3 v4 v5 = some v6) :
  FCall Try.prog 118 [AV.agg [AV.int .i64 v0, AV.int .i64 v1, AV.int .i64 v2], AV.agg [AV.int .i64 v3, AV.int .i64 v4, AV.int .i64 v5]] [] (AV.int .i64 v6) [] := by
 unfold graph_compare at hF
 refine EN Try.func118 ?_
 intro c0 w0 Q h0 hQ
 refine WK [(0, AV.agg [Iz v0, Iz v1, Iz v2]), (1, AV.agg [Iz v3, Iz v4, Iz v5])] [] 0 (by simp) (by simp) ?_
 refine SQ [] [none, none, none] fun _ _ g r => ?_
 try simp
 and_intros <;> first | exact g _ (by kernel_rfl) | refine r _ _ _ ?_ | omega | (simp [maxLen] <;> omega)
 refine WK [(2, AV.ptr 0 0), (3, AV.ptr 1 0)] [(0, .cells [Iz v0, Iz v1, Iz v2]), (1, .cells [Iz v3, Iz v4, Iz v5])] 2 (by simp) (by simp) ?_
 refine SQ [] [none, none, none, none, none, none, none, none, none, none, none, none, none] fun _ _ g r => ?_
 try simp
 and_intros
 try any_goals first | omega | (simp [maxLen] <;> omega)
 obtain ⟨v7, h1, hF⟩ := bnd1_elim hF
 refine AC (w_cmp_Compare_int k _ _ _ h1) (.cons (.same (by simp)) (.cons (.same (by simp)) .nil)) ?_
 try simp
 and_intros
 try any_goals first | omega | (simp [maxLen] <;> omega)
 obtain ⟨v8, h2, hF⟩ := bnd1_elim hF
 refine AC (w_cmp_Compare_int k _ _ _ h2) (.cons (.same (by simp)) (.cons (.same (by simp)) .nil)) ?_
 try simp
 and_intros
 try any_goals first | omega | (simp [maxLen] <;> omega)
 obtain ⟨v9, h3, hF⟩ := bnd1_elim hF
 refine AC (w_cmp_Or_int k _ _ h3) (.cons (Coe.fl (by simp)) .nil) ?_
 try simp
 and_intros <;> first | exact g _ (by kernel_rfl) | refine r _ _ _ ?_ | omega | (simp [maxLen] <;> omega)
 refine WK [(4, Iz v9)] [] 2 (by simp) (by simp) ?_
 simp only [Option.some.injEq] at hF
 subst hF
 refine AW.ret (hQ _ _ _ ?_ (matchO_0 ?_)).1
 ·simp [Try.f118]
 ·simp
theorem w_graph_Check (k : Nat) (v0 : Int) (v1 : (List api_Edge)) (v2 : (List Int)) (v3 : Int) (hF : graph_Check k v0 v1 v2 = some v3) :
  FCall Try.prog 99 [AV.agg [AV.int .i64 v0, AV.lst false false (List.map api_Edge.av v1), AV.lst false false (List.map (AV.int .i64) v2)]] [] (AV.int .i64 v3) [] := by
 unfold graph_Check at hF
 refine EN Try.func99 ?_
 intro c0 w0 Q h0 hQ
 refine WK [(0, AV.agg [Iz v0, AV.lst false false (List.map api_Edge.av v1), Lz v2])] [] 0 (by simp) (by simp) ?_
 refine SQ [] [none, none] fun _ _ g r => ?_
 try simp
 and_intros <;> first | exact g _ (by kernel_rfl) | refine r _ _ _ ?_ | omega | (simp [maxLen] <;> omega)
 refine WK [(1, AV.ptr 0 0)] [(0, .cells [Iz v0, AV.lst false false (List.map api_Edge.av v1), Lz v2])] 1 (by simp) (by simp) ?_
 refine AW.seq fun K126 hK126 => ?_
 refine SQ [] [none, none, none, none, none, some (9, false), some (9, false), some (9, false), some (9, false), none, none, some (15, false), some (15, false), some (15, false), some (15, false), some (15, false), some (15, false), some (15, false), none] fun _ _ g r => ?_
 try simp
 and_intros
 try any_goals first | omega | (simp [maxLen] <;> omega)
 obtain ⟨v4, h1, hF⟩ := bnd1_elim hF
 refine AC (w_lists_In k _ _ _ _ h1) (.cons (.same (by simp)) (.cons (.same (by simp)) (.cons (.same (by simp)) .nil))) ?_
 by_cases h2 : (!v4) = true
 ·replace hF := ite_t h2 hF
  have h2_ := h2
  try simp at h2_
  try simp [h2, h2_]
  and_intros <;> first | exact g _ (by kernel_rfl) | refine r _ _ _ ?_ | omega | (simp [h2, h2_, maxLen] <;> omega)
  refine WK [(1, AV.ptr 0 0), (23, AV.bool true)] [(0, .cells [Iz v0, AV.lst false false (List.map api_Edge.av v1), Lz v2])] 1 (by simp [h2, h2_]) (by simp [h2, h2_]) ?_
  refine CT (by simp [h2, h2_]) ?_
  refine SQ [] [none] fun _ _ g r => ?_
  try simp [h2, h2_]
  and_intros <;> first | exact g _ (by kernel_rfl) | refine r _ _ _ ?_ | omega | (simp [h2, h2_, maxLen] <;> omega)
  refine WK [(2, Iz 14)] [] 1 (by simp [h2, h2_]) (by simp [h2, h2_]) ?_
  simp only [Option.some.injEq] at hF
  subst hF
  refine AW.ret (hQ _ _ _ ?_ (matchO_0 ?_)).1
  ·simp [Try.f99, h2, h2_]
  ·simp [h2, h2_]
 ·replace hF := ite_f h2 hF
  have h2_ := h2
  try simp at h2_
  by_cases h3 : 500 < (v1.length : Int)
  ·replace hF := ite_t h3 hF
   have h3_ := h3
   try simp at h3_
   have F1 := And.intro h2 (And.intro h2_ (And.intro h3 h3_))
   try simp [F1]
   and_intros <;> first | exact g _ (by kernel_rfl) | refine r _ _ _ ?_ | omega | (simp [maxLen, F1] <;> omega)
   refine WK [(1, AV.ptr 0 0), (23, AV.bool true)] [(0, .cells [Iz v0, AV.lst false false (List.map api_Edge.av v1), Lz v2])] 1 (by simp [F1]) (by simp [F1]) ?_
   refine CT (by simp [F1]) ?_
   refine SQ [] [none] fun _ _ g r => ?_
   try simp [F1]
   and_intros <;> first | exact g _ (by kernel_rfl) | refine r _ _ _ ?_ | omega | (simp [maxLen, F1] <;> omega)
   refine WK [(2, Iz 14)] [] 1 (by simp [F1]) (by simp [F1]) ?_
   simp only [Option.some.injEq] at hF
   subst hF
   refine AW.ret (hQ _ _ _ ?_ (matchO_0 ?_)).1
   ·simp [Try.f99, F1]
   ·simp [F1]
  ·replace hF := ite_f h3 hF
   have h3_ := h3
   try simp at h3_
   have F2 := And.intro h2 (And.intro h2_ (And.intro h3 h3_))
   try simp [F2]
   and_intros
   try any_goals first | omega | (simp [maxLen, F2] <;> omega)
   obtain ⟨v5, h4, hF⟩ := bnd1_elim hF
   refine AC (w_lists_Rising k _ _ _ _ h4) (.cons (.same (by simp [F2])) (.cons (.same (by simp [F2])) (.cons (.same (by simp [F2])) .nil))) ?_
   try simp [F2]
   and_intros <;> first | exact g _ (by kernel_rfl) | refine r _ _ _ ?_ | omega | (simp [maxLen, F2] <;> omega)
   refine WK [(1, AV.ptr 0 0), (23, AV.bool (!v5))] [(0, .cells [Iz v0, AV.lst false false (List.map api_Edge.av v1), Lz v2])] 1 (by simp [F2]) (by simp [F2]) ?_
   by_cases h5 : (!v5) = true
   ·replace hF := ite_t h5 hF
    have h5_ := h5
    try simp at h5_
    have F3 := And.intro F2 (And.intro h5 h5_)
    refine CT (by simp [F3] <;> omega) ?_
    refine SQ [] [none] fun _ _ g r => ?_
    try simp [F3]
    and_intros <;> first | exact g _ (by kernel_rfl) | refine r _ _ _ ?_ | omega | (simp [maxLen, F3] <;> omega)
    refine WK [(2, Iz 14)] [] 1 (by simp [F3]) (by simp [F3]) ?_
    simp only [Option.some.injEq] at hF
    subst hF
    refine AW.ret (hQ _ _ _ ?_ (matchO_0 ?_)).1
    ·simp [Try.f99, F3]
    ·simp [F3]
   ·replace hF := ite_f h5 hF
    have h5_ := h5
    try simp at h5_
    have F4 := And.intro F2 (And.intro h5 h5_)
    refine CF (by simp [F4] <;> omega) ?_
    refine AW.skip ?_
    refine hK126 _ _ _ ?_
    refine AW.seq fun K185 hK185 => ?_
    refine SQ [] [none, none, none, none] fun _ _ g r => ?_
    try simp [F4]
    and_intros <;> first | exact g _ (by kernel_rfl) | refine r _ _ _ ?_ | omega | (simp [maxLen, F4] <;> omega)
    refine WK [(1, AV.ptr 0 0), (25, AV.lst false false (List.map api_Edge.av v1)), (26, Iz (v1.length : Int)), (27, Iz 0)] [(0, .cells [Iz v0, AV.lst false false (List.map api_Edge.av v1), Lz v2])] 1 (by simp [F4]) (by simp [F4]) ?_
    refine AW.block ?_
    refine AW.loopF (α := Int) (fun n v6 => graph_Check.L1 k v0 v1 v2 n v6 = some v3) (fun v6 => [(1, AV.ptr 0 0), (25, AV.lst false false (List.map api_Edge.av v1)), (26, Iz (v1.length : Int)), (27, Iz v6)]) (fun v6 => [(0, .cells [Iz v0, AV.lst false false (List.map api_Edge.av v1), Lz v2])]) 1 k (0) hF (by simp [F4]) (by simp [F4]) (by simp) ?_
    rintro (_|n1) v6 hF K225 hK225
    ·try dsimp only at hF
     rw [graph_Check.L1] at hF; cases hF
    try dsimp only at hF
    rw [graph_Check.L1] at hF
    refine SQ [] [none] fun _ _ g r => ?_
    try simp [F4]
    and_intros <;> first | exact g _ (by kernel_rfl) | refine r _ _ _ ?_ | omega | (simp [maxLen, F4] <;> omega)
    refine WK [(1, AV.ptr 0 0), (25, AV.lst false false (List.map api_Edge.av v1)), (26, Iz (v1.length : Int)), (27, Iz v6), (28, AV.bool (decide (v6 < (v1.length : Int))))] [(0, .cells [Iz v0, AV.lst false false (List.map api_Edge.av v1), Lz v2])] 1 (by simp [F4]) (by simp [F4]) ?_
    refine AW.seq fun K227 hK227 => ?_
    by_cases h6 : v6 < (v1.length : Int)
    ·replace hF := ite_t h6 hF
     have h6_ := h6
     try simp at h6_
     have F5 := And.intro F4 (And.intro h6 h6_)
     refine CT (by simp [F5] <;> omega) ?_
     refine AW.skip ?_
     refine hK227 _ _ _ ?_
     refine AW.midF (α := Unit) (fun _ => graph_Check.J2 k v6 (fun v6_ => graph_Check.L1 k v0 v1 v2 n1 v6_) = some v3) (fun _ => [(1, AV.ptr 0 0), (25, AV.lst false false (List.map api_Edge.av v1)), (26, Iz (v1.length : Int)), (27, Iz v6)]) (fun _ => [(0, .cells [Iz v0, AV.lst false false (List.map api_Edge.av v1), Lz v2])]) 1 (fun K234 hK234 => ?_) ?_
     ·refine AW.block ?_
      refine SQ [] [none, none, none, none, none, none] fun _ _ g r => ?_
      obtain ⟨v7, h7, h8, h9, hF⟩ := idx_elim hF
      have h9_ := get_of h9
      try simp at h9_
      have h8_ := h8
      try simp at h8_
      have F6 := And.intro F5 (And.intro h7 (And.intro h8 (And.intro h9 (And.intro h9_ h8_))))
      try simp [F6]
      and_intros <;> first | exact g _ (by kernel_rfl) | refine r _ _ _ ?_ | omega | (simp [maxLen, F6] <;> omega)
      refine WK [(1, AV.ptr 0 0), (3, Iz v6), (4, AV.ptr 1 0), (25, AV.lst false false (List.map api_Edge.av v1)), (26, Iz (v1.length : Int)), (27, Iz v6)] [(0, .cells [Iz v0, AV.lst false false (List.map api_Edge.av v1), Lz v2]), (1, .cells [Iz v7.From, Iz v7.To, Iz v7.Level])] 2 (by simp [F6]) (by simp [F6]) ?_
      refine SQ [] [none, none, none, none, none, some (36, false), some (36, false), some (36, false), some (36, false), none, none, some (42, false), some (42, false), some (42, false), some (45, true), some (45, true), some (45, true), some (45, true), some (45, true), some (45, true), some (45, true), some (45, true), some (45, true), some (42, false), none] fun _ _ g r => ?_
      try simp [F6]
      and_intros
      try any_goals first | omega | (simp [maxLen, F6] <;> omega)
      obtain ⟨v8, h10, hF⟩ := bnd1_elim hF
      refine AC (w_graph_fits k _ _ _ _ _ _ _ h10) (.cons (.same (by simp [F6])) (.cons (.same (by simp [F6])) .nil)) ?_
      by_cases h11 : (!v8) = true
      ·replace hF := ite_t h11 hF
       have h11_ := h11
       try simp at h11_
       have F7 := And.intro F6 (And.intro h11 h11_)
       try simp [F7]
       and_intros <;> first | exact g _ (by kernel_rfl) | refine r _ _ _ ?_ | omega | (simp [maxLen, F7] <;> omega)
       refine WK [(1, AV.ptr 0 0), (25, AV.lst false false (List.map api_Edge.av v1)), (26, Iz (v1.length : Int)), (27, Iz v6), (56, AV.bool true)] [(0, .cells [Iz v0, AV.lst false false (List.map api_Edge.av v1), Lz v2])] 2 (by simp [F7]) (by simp [F7]) ?_
       refine CT (by simp [F7]) ?_
       refine SQ [] [none] fun _ _ g r => ?_
       try simp [F7]
       and_intros <;> first | exact g _ (by kernel_rfl) | refine r _ _ _ ?_ | omega | (simp [maxLen, F7] <;> omega)
       refine WK [(2, Iz 14)] [] 2 (by simp [F7]) (by simp [F7]) ?_
       simp only [Option.some.injEq] at hF
       subst hF
       refine AW.ret (hQ _ _ _ ?_ (matchO_0 ?_)).1
       ·simp [Try.f99, F7]
       ·simp [F7]
      ·replace hF := ite_f h11 hF
       have h11_ := h11
       try simp at h11_
       have F8 := And.intro F6 (And.intro h11 h11_)
       try simp [F8]
       and_intros
       try any_goals first | omega | (simp [maxLen, F8] <;> omega)
       obtain ⟨v9, h12, hF⟩ := bnd1_elim hF
       refine AC (w_lists_In k _ _ _ _ h12) (.cons (.same (by simp [F8])) (.cons (.same (by simp [F8])) (.cons (.same (by simp [F8])) .nil))) ?_
       by_cases h13 : (!v9) = true
       ·replace hF := ite_t h13 hF
        have h13_ := h13
        try simp at h13_
        have F9 := And.intro F8 (And.intro h13 h13_)
        try simp [F9]
        and_intros <;> first | exact g _ (by kernel_rfl) | refine r _ _ _ ?_ | omega | (simp [maxLen, F9] <;> omega)
        refine WK [(1, AV.ptr 0 0), (25, AV.lst false false (List.map api_Edge.av v1)), (26, Iz (v1.length : Int)), (27, Iz v6), (56, AV.bool true)] [(0, .cells [Iz v0, AV.lst false false (List.map api_Edge.av v1), Lz v2])] 2 (by simp [F9]) (by simp [F9]) ?_
        refine CT (by simp [F9]) ?_
        refine SQ [] [none] fun _ _ g r => ?_
        try simp [F9]
        and_intros <;> first | exact g _ (by kernel_rfl) | refine r _ _ _ ?_ | omega | (simp [maxLen, F9] <;> omega)
        refine WK [(2, Iz 14)] [] 2 (by simp [F9]) (by simp [F9]) ?_
        simp only [Option.some.injEq] at hF
        subst hF
        refine AW.ret (hQ _ _ _ ?_ (matchO_0 ?_)).1
        ·simp [Try.f99, F9]
        ·simp [F9]
       ·replace hF := ite_f h13 hF
        have h13_ := h13
        try simp at h13_
        by_cases h14 : 0 < v6
        ·replace hF := ite_t h14 hF
         have h14_ := h14
         try simp at h14_
         obtain ⟨v10, h15, h16, h17, hF⟩ := idx_elim hF
         have h17_ := get_of h17
         try simp at h17_
         have h16_ := h16
         try simp at h16_
         have F10 := And.intro F8 (And.intro h13 (And.intro h13_ (And.intro h14 (And.intro h14_ (And.intro h15 (And.intro h16 (And.intro h17 (And.intro h17_ h16_))))))))
         try simp [F10]
         and_intros
         try any_goals first | omega | (simp [maxLen, F10] <;> omega)
         obtain ⟨v11, h18, hF⟩ := bnd1_elim hF
         refine AC (w_graph_compare k _ _ _ _ _ _ _ h18) (.cons (.same (by simp [F10])) (.cons (.same (by simp [F10])) .nil)) ?_
         try simp [F10]
         and_intros <;> first | exact g _ (by kernel_rfl) | refine r _ _ _ ?_ | omega | (simp [maxLen, F10] <;> omega)
         refine WK [(1, AV.ptr 0 0), (25, AV.lst false false (List.map api_Edge.av v1)), (26, Iz (v1.length : Int)), (27, Iz v6), (56, AV.bool (decide (0 ≤ v11)))] [(0, .cells [Iz v0, AV.lst false false (List.map api_Edge.av v1), Lz v2])] 2 (by simp [F10]) (by simp [F10]) ?_
         by_cases h19 : 0 ≤ v11
         ·replace hF := ite_t h19 hF
          have h19_ := h19
          try simp at h19_
          have F11 := And.intro F10 (And.intro h19 h19_)
          refine CT (by simp [F11] <;> omega) ?_
          refine SQ [] [none] fun _ _ g r => ?_
          try simp [F11]
          and_intros <;> first | exact g _ (by kernel_rfl) | refine r _ _ _ ?_ | omega | (simp [maxLen, F11] <;> omega)
          refine WK [(2, Iz 14)] [] 2 (by simp [F11]) (by simp [F11]) ?_
          simp only [Option.some.injEq] at hF
          subst hF
          refine AW.ret (hQ _ _ _ ?_ (matchO_0 ?_)).1
          ·simp [Try.f99, F11]
          ·simp [F11]
         ·replace hF := ite_f h19 hF
          have h19_ := h19
          try simp at h19_
          have F12 := And.intro F10 (And.intro h19 h19_)
          refine CF (by simp [F12] <;> omega) ?_
          refine AW.skip ?_
          refine hK234 _ _ _ ?_
          refine RN h0 [(0, 0)] [(1, AV.ptr 0 0), (25, AV.lst false false (List.map api_Edge.av v1)), (26, Iz (v1.length : Int)), (27, Iz v6)] [(0, .cells [Iz v0, AV.lst false false (List.map api_Edge.av v1), Lz v2])] 1 (by simp [F12]) (by simp [F12]) ?_
          exact JN (()) hF (by simp [F12]) (by simp [F12])
        ·replace hF := ite_f h14 hF
         have h14_ := h14
         try simp at h14_
         have F13 := And.intro F8 (And.intro h13 (And.intro h13_ (And.intro h14 h14_)))
         try simp [F13]
         and_intros <;> first | exact g _ (by kernel_rfl) | refine r _ _ _ ?_ | omega | (simp [maxLen, F13] <;> omega)
         refine WK [(1, AV.ptr 0 0), (25, AV.lst false false (List.map api_Edge.av v1)), (26, Iz (v1.length : Int)), (27, Iz v6), (56, AV.bool false)] [(0, .cells [Iz v0, AV.lst false false (List.map api_Edge.av v1), Lz v2])] 2 (by simp [F13]) (by simp [F13]) ?_
         refine CF (by simp [F13]) ?_
         refine AW.skip ?_
         refine hK234 _ _ _ ?_
         refine RN h0 [(0, 0)] [(1, AV.ptr 0 0), (25, AV.lst false false (List.map api_Edge.av v1)), (26, Iz (v1.length : Int)), (27, Iz v6)] [(0, .cells [Iz v0, AV.lst false false (List.map api_Edge.av v1), Lz v2])] 1 (by simp [F13]) (by simp [F13]) ?_
         exact JN (()) hF (by simp [F13]) (by simp [F13])
     ·rintro ⟨⟩ hF
      try dsimp only at hF
      unfold graph_Check.J2 at hF
      refine RG [] [none, none] fun _ _ g r => ?_
      try simp [F5]
      and_intros <;> first | exact g _ (by kernel_rfl) | refine r _ _ _ ?_ | omega | (simp [maxLen, F5] <;> omega)
      refine hK225 _ _ _ ?_
      exact NX (k' := n1) (IntKind.wrap .i64 (v6 + 1)) hF (by simp [F5]) (by simp [F5])
    ·replace hF := ite_f h6 hF
     have h6_ := h6
     try simp at h6_
     have F14 := And.intro F4 (And.intro h6 h6_)
     refine CF (by simp [F14] <;> omega) ?_
     refine AW.exit ?_
     try simp
     refine hK185 _ _ _ ?_
     refine SQ [] [none] fun _ _ g r => ?_
     try simp [F14]
     and_intros <;> first | exact g _ (by kernel_rfl) | refine r _ _ _ ?_ | omega | (simp [maxLen, F14] <;> omega)
     refine WK [(2, Iz 0)] [] 1 (by simp [F14]) (by simp [F14]) ?_
     simp only [Option.some.injEq] at hF
     subst hF
     refine AW.ret (hQ _ _ _ ?_ (matchO_0 ?_)).1
     ·simp [Try.f99, F14]
     ·simp [F14]
theorem w_capacity_Check (k : Nat) (v0 : Int) (v1 : (List api_Edge)) (v2 : (List Int)) (v3 : (List Int)) (v4 : (List Int)) (v5 : Int) (v6 : Int) (hF : capacity_Check k v0 v1 v2 v3 v4 v5 = some v6) :
  FCall Try.prog 68 [AV.agg [AV.int .i64 v0, AV.lst false false (List.map api_Edge.av v1), AV.lst false false (List.map (AV.int .i64) v2)], AV.agg [AV.lst false false (List.map (AV.int .i64) v3), AV.lst false false (List.map (AV.int .i64) v4), AV.int .i64 v5]] [] (AV.int .i64 v6) [] := by
 unfold capacity_Check at hF
 refine EN Try.func68 ?_
 intro c0 w0 Q h0 hQ
 refine WK [(0, AV.agg [Iz v0, AV.lst false false (List.map api_Edge.av v1), Lz v2]), (1, AV.agg [Lz v3, Lz v4, Iz v5])] [] 0 (by simp) (by simp) ?_
 refine SQ [] [none, none, none] fun _ _ g r => ?_
 try simp
 and_intros <;> first | exact g _ (by kernel_rfl) | refine r _ _ _ ?_ | omega | (simp [maxLen] <;> omega)
 refine WK [(2, AV.ptr 0 0), (3, AV.ptr 1 0)] [(0, .cells [Iz v0, AV.lst false false (List.map api_Edge.av v1), Lz v2]), (1, .cells [Lz v3, Lz v4, Iz v5])] 2 (by simp) (by simp) ?_
 refine AW.seq fun K118 hK118 => ?_
 refine SQ [] [none, none, none] fun _ _ g r => ?_
 try simp
 and_intros
 try any_goals first | omega | (simp [maxLen] <;> omega)
 obtain ⟨v7, h1, hF⟩ := bnd1_elim hF
 refine AC (w_graph_Check k _ _ _ _ h1) (.cons (.same (by simp)) .nil) ?_
 try simp
 and_intros <;> first | exact g _ (by kernel_rfl) | refine r _ _ _ ?_ | omega | (simp [maxLen] <;> omega)
 refine WK [(2, AV.ptr 0 0), (3, AV.ptr 1 0), (5, Iz v7)] [(0, .cells [Iz v0, AV.lst false false (List.map api_Edge.av v1), Lz v2]), (1, .cells [Lz v3, Lz v4, Iz v5])] 2 (by simp) (by simp) ?_
 refine SQ [] [none, none] fun _ _ g r => ?_
 try simp
 and_intros <;> first | exact g _ (by kernel_rfl) | refine r _ _ _ ?_ | omega | (simp [maxLen] <;> omega)
 refine WK [(2, AV.ptr 0 0), (3, AV.ptr 1 0), (5, Iz v7), (11, AV.bool (v7 != 0))] [(0, .cells [Iz v0, AV.lst false false (List.map api_Edge.av v1), Lz v2]), (1, .cells [Lz v3, Lz v4, Iz v5])] 2 (by simp) (by simp) ?_
 by_cases h2 : v7 ≠ 0
 ·replace hF := ite_t h2 hF
  have h2_ := eqb_f h2
  have h2__ := neb_t h2
  have F1 := And.intro h2 (And.intro h2_ h2__)
  refine CT (by simp [F1] <;> omega) ?_
  refine SQ [] [none, none] fun _ _ g r => ?_
  try simp [F1]
  and_intros <;> first | exact g _ (by kernel_rfl) | refine r _ _ _ ?_ | omega | (simp [maxLen, F1] <;> omega)
  refine WK [(4, Iz v7)] [] 2 (by simp [F1]) (by simp [F1]) ?_
  simp only [Option.some.injEq] at hF
  subst hF
  refine AW.ret (hQ _ _ _ ?_ (matchO_0 ?_)).1
  ·simp [Try.f68, F1]
  ·simp [F1]
 ·replace hF := ite_f h2 hF
  have h2q : v7 = 0 := Classical.not_not.1 h2
  have h2_ := eqb_t h2q
  have h2__ := neb_f h2q
  refine CF (by simp [h2_, h2__, h2q] <;> omega) ?_
  refine AW.skip ?_
  refine hK118 _ _ _ ?_
  refine AW.seq fun K127 hK127 => ?_
  refine SQ [] [none, none, none, none, none, some (17, false), some (17, false), some (17, false), some (17, false), some (17, false), some (17, false), some (17, false), none, none, some (26, false), some (26, false), some (26, false), some (26, false), some (26, false), none, none, some (33, false), some (33, false), some (33, false), some (33, false), none] fun _ _ g r => ?_
  by_cases h3 : (v3.length : Int) = 0
  ·replace hF := ite_t h3 hF
   have h3q : (v3.length : Int) = 0 := h3
   have h3_ := eqb_t h3q
   have h3__ := neb_f h3q
   have F2 := And.intro h2_ (And.intro h2__ (And.intro h2q (And.intro h3_ (And.intro h3__ h3q))))
   try simp [F2]
   and_intros <;> first | exact g _ (by kernel_rfl) | refine r _ _ _ ?_ | omega | (simp [maxLen, F2] <;> omega)
   refine WK [(3, AV.ptr 1 0), (38, AV.bool true)] [(1, .cells [Lz v3, Lz v4, Iz v5])] 2 (by simp [F2]) (by simp [F2]) ?_
   refine CT (by simp [F2]) ?_
   refine SQ [] [none] fun _ _ g r => ?_
   try simp [F2]
   and_intros <;> first | exact g _ (by kernel_rfl) | refine r _ _ _ ?_ | omega | (simp [maxLen, F2] <;> omega)
   refine WK [(4, Iz 15)] [] 2 (by simp [F2]) (by simp [F2]) ?_
   simp only [Option.some.injEq] at hF
   subst hF
   refine AW.ret (hQ _ _ _ ?_ (matchO_0 ?_)).1
   ·simp [Try.f68, F2]
   ·simp [F2]
  ·replace hF := ite_f h3 hF
   have h3_ := eqb_f h3
   have h3__ := neb_t h3
   have F3 := And.intro h2_ (And.intro h2__ (And.intro h2q (And.intro h3 (And.intro h3_ h3__))))
   try simp [F3]
   and_intros
   try any_goals first | omega | (simp [maxLen, F3] <;> omega)
   obtain ⟨v8, h4, hF⟩ := bnd1_elim hF
   refine AC (w_lists_Rising k _ _ _ _ h4) (.cons (.same (by simp [F3])) (.cons (.same (by simp [F3])) (.cons (.same (by simp [F3])) .nil))) ?_
   by_cases h5 : (!v8) = true
   ·replace hF := ite_t h5 hF
    have h5_ := h5
    try simp at h5_
    have F4 := And.intro F3 (And.intro h5 h5_)
    try simp [F4]
    and_intros <;> first | exact g _ (by kernel_rfl) | refine r _ _ _ ?_ | omega | (simp [maxLen, F4] <;> omega)
    refine WK [(3, AV.ptr 1 0), (38, AV.bool true)] [(1, .cells [Lz v3, Lz v4, Iz v5])] 2 (by simp [F4]) (by simp [F4]) ?_
    refine CT (by simp [F4]) ?_
    refine SQ [] [none] fun _ _ g r => ?_
    try simp [F4]
    and_intros <;> first | exact g _ (by kernel_rfl) | refine r _ _ _ ?_ | omega | (simp [maxLen, F4] <;> omega)
    refine WK [(4, Iz 15)] [] 2 (by simp [F4]) (by simp [F4]) ?_
    simp only [Option.some.injEq] at hF
    subst hF
    refine AW.ret (hQ _ _ _ ?_ (matchO_0 ?_)).1
    ·simp [Try.f68, F4]
    ·simp [F4]
   ·replace hF := ite_f h5 hF
    have h5_ := h5
    try simp at h5_
    have F5 := And.intro F3 (And.intro h5 h5_)
    try simp [F5]
    and_intros
    try any_goals first | omega | (simp [maxLen, F5] <;> omega)
    obtain ⟨v9, h6, hF⟩ := bnd1_elim hF
    refine AC (w_lists_In k _ _ _ _ h6) (.cons (.same (by simp [F5])) (.cons (.same (by simp [F5])) (.cons (.same (by simp [F5])) .nil))) ?_
    by_cases h7 : (!v9) = true
    ·replace hF := ite_t h7 hF
     have h7_ := h7
     try simp at h7_
     have F6 := And.intro F5 (And.intro h7 h7_)
     try simp [F6]
     and_intros <;> first | exact g _ (by kernel_rfl) | refine r _ _ _ ?_ | omega | (simp [maxLen, F6] <;> omega)
     refine WK [(3, AV.ptr 1 0), (38, AV.bool true)] [(1, .cells [Lz v3, Lz v4, Iz v5])] 2 (by simp [F6]) (by simp [F6]) ?_
     refine CT (by simp [F6]) ?_
     refine SQ [] [none] fun _ _ g r => ?_
     try simp [F6]
     and_intros <;> first | exact g _ (by kernel_rfl) | refine r _ _ _ ?_ | omega | (simp [maxLen, F6] <;> omega)
     refine WK [(4, Iz 15)] [] 2 (by simp [F6]) (by simp [F6]) ?_
     simp only [Option.some.injEq] at hF
     subst hF
     refine AW.ret (hQ _ _ _ ?_ (matchO_0 ?_)).1
     ·simp [Try.f68, F6]
     ·simp [F6]
    ·replace hF := ite_f h7 hF
     have h7_ := h7
     try simp at h7_
     have F7 := And.intro F5 (And.intro h7 h7_)
     try simp [F7]
     and_intros
     try any_goals first | omega | (simp [maxLen, F7] <;> omega)
     obtain ⟨v10, h8, hF⟩ := bnd1_elim hF
     refine AC (w_lists_In k _ _ _ _ h8) (.cons (.same (by simp [F7])) (.cons (.same (by simp [F7])) (.cons (.same (by simp [F7])) .nil))) ?_
     try simp [F7]
     and_intros <;> first | exact g _ (by kernel_rfl) | refine r _ _ _ ?_ | omega | (simp [maxLen, F7] <;> omega)
     refine WK [(3, AV.ptr 1 0), (38, AV.bool (!v10))] [(1, .cells [Lz v3, Lz v4, Iz v5])] 2 (by simp [F7]) (by simp [F7]) ?_
     by_cases h9 : (!v10) = true
     ·replace hF := ite_t h9 hF
      have h9_ := h9
      try simp at h9_
      have F8 := And.intro F7 (And.intro h9 h9_)
      refine CT (by simp [F8] <;> omega) ?_
      refine SQ [] [none] fun _ _ g r => ?_
      try simp [F8]
      and_intros <;> first | exact g _ (by kernel_rfl) | refine r _ _ _ ?_ | omega | (simp [maxLen, F8] <;> omega)
      refine WK [(4, Iz 15)] [] 2 (by simp [F8]) (by simp [F8]) ?_
      simp only [Option.some.injEq] at hF
      subst hF
      refine AW.ret (hQ _ _ _ ?_ (matchO_0 ?_)).1
      ·simp [Try.f68, F8]
      ·simp [F8]
     ·replace hF := ite_f h9 hF
      have h9_ := h9
      try simp at h9_
      have F9 := And.intro F7 (And.intro h9 h9_)
      refine CF (by simp [F9] <;> omega) ?_
      refine AW.skip ?_
      refine hK127 _ _ _ ?_
      refine AW.seq fun K179 hK179 => ?_
      refine SQ [] [none, none, none, none] fun _ _ g r => ?_
      try simp [F9]
      and_intros <;> first | exact g _ (by kernel_rfl) | refine r _ _ _ ?_ | omega | (simp [maxLen, F9] <;> omega)
      refine WK [(3, AV.ptr 1 0), (40, Lz v4), (41, Iz (v4.length : Int)), (42, Iz 0)] [(1, .cells [Lz v3, Lz v4, Iz v5])] 2 (by simp [F9]) (by simp [F9]) ?_
      refine AW.block ?_
      refine RM h0 [(0, 1)] [(3, AV.ptr 0 0), (40, Lz v4), (41, Iz (v4.length : Int)), (42, Iz 0)] [(0, .cells [Lz v3, Lz v4, Iz v5])] 1 (by simp [F9]) (by simp [F9]) ?_
      refine AW.loopF (α := Int) (fun n v11 => capacity_Check.L1 k v4 n v11 = some v6) (fun v11 => [(3, AV.ptr 0 0), (40, Lz v4), (41, Iz (v4.length : Int)), (42, Iz v11)]) (fun v11 => [(0, .cells [Lz v3, Lz v4, Iz v5])]) 1 k (0) hF (by simp [F9]) (by simp [F9]) (by simp) ?_
      rintro (_|n1) v11 hF K213 hK213
      ·try dsimp only at hF
       rw [capacity_Check.L1] at hF; cases hF
      try dsimp only at hF
      rw [capacity_Check.L1] at hF
      refine SQ [] [none] fun _ _ g r => ?_
      try simp [F9]
      and_intros <;> first | exact g _ (by kernel_rfl) | refine r _ _ _ ?_ | omega | (simp [maxLen, F9] <;> omega)
      refine WK [(3, AV.ptr 0 0), (40, Lz v4), (41, Iz (v4.length : Int)), (42, Iz v11), (43, AV.bool (decide (v11 < (v4.length : Int))))] [(0, .cells [Lz v3, Lz v4, Iz v5])] 1 (by simp [F9]) (by simp [F9]) ?_
      refine AW.seq fun K215 hK215 => ?_
      by_cases h10 : v11 < (v4.length : Int)
      ·replace hF := ite_t h10 hF
       have h10_ := h10
       try simp at h10_
       have F10 := And.intro F9 (And.intro h10 h10_)
       refine CT (by simp [F10] <;> omega) ?_
       refine AW.skip ?_
       refine hK215 _ _ _ ?_
       refine AW.midF (α := Unit) (fun _ => capacity_Check.J2 k v11 (fun v11_ => capacity_Check.L1 k v4 n1 v11_) = some v6) (fun _ => [(3, AV.ptr 0 0), (40, Lz v4), (41, Iz (v4.length : Int)), (42, Iz v11)]) (fun _ => [(0, .cells [Lz v3, Lz v4, Iz v5])]) 1 (fun K221 hK221 => ?_) ?_
       ·refine AW.block ?_
        refine SQ [] [none, none, none, none, none] fun _ _ g r => ?_
        obtain ⟨v12, h11, h12, h13, hF⟩ := idx_elim hF
        have h13_ := get_of h13
        try simp at h13_
        have h12_ := h12
        try simp at h12_
        have F11 := And.intro F10 (And.intro h11 (And.intro h12 (And.intro h13 (And.intro h13_ h12_))))
        try simp [F11]
        and_intros <;> first | exact g _ (by kernel_rfl) | refine r _ _ _ ?_ | omega | (simp [maxLen, F11] <;> omega)
        refine WK [(3, AV.ptr 0 0), (6, Iz v11), (7, Iz v12), (40, Lz v4), (41, Iz (v4.length : Int)), (42, Iz v11)] [(0, .cells [Lz v3, Lz v4, Iz v5])] 1 (by simp [F11]) (by simp [F11]) ?_
        refine SQ [] [none, none, none, none, some (50, false), some (50, false), some (50, false), some (53, true), some (53, true), some (53, true), some (53, true), some (53, true), some (53, true), some (53, true), some (53, true), some (50, false), none] fun _ _ g r => ?_
        try simp [F11]
        and_intros
        try any_goals first | omega | (simp [maxLen, F11] <;> omega)
        obtain ⟨v13, h14, hF⟩ := bnd1_elim hF
        refine AC (w_lists_In k _ _ _ _ h14) (.cons (.same (by simp [F11])) (.cons (.same (by simp [F11])) (.cons (.same (by simp [F11])) .nil))) ?_
        by_cases h15 : (!v13) = true
        ·replace hF := ite_t h15 hF
         have h15_ := h15
         try simp at h15_
         have F12 := And.intro F11 (And.intro h15 h15_)
         try simp [F12]
         and_intros <;> first | exact g _ (by kernel_rfl) | refine r _ _ _ ?_ | omega | (simp [maxLen, F12] <;> omega)
         refine WK [(3, AV.ptr 0 0), (40, Lz v4), (41, Iz (v4.length : Int)), (42, Iz v11), (63, AV.bool true)] [(0, .cells [Lz v3, Lz v4, Iz v5])] 1 (by simp [F12]) (by simp [F12]) ?_
         refine CT (by simp [F12]) ?_
         refine SQ [] [none] fun _ _ g r => ?_
         try simp [F12]
         and_intros <;> first | exact g _ (by kernel_rfl) | refine r _ _ _ ?_ | omega | (simp [maxLen, F12] <;> omega)
         refine WK [(4, Iz 15)] [] 1 (by simp [F12]) (by simp [F12]) ?_
         simp only [Option.some.injEq] at hF
         subst hF
         refine AW.ret (hQ _ _ _ ?_ (matchO_0 ?_)).1
         ·simp [Try.f68, F12]
         ·simp [F12]
        ·replace hF := ite_f h15 hF
         have h15_ := h15
         try simp at h15_
         by_cases h16 : 0 < v11
         ·replace hF := ite_t h16 hF
          have h16_ := h16
          try simp at h16_
          obtain ⟨v14, h17, h18, h19, hF⟩ := idx_elim hF
          have h19_ := get_of h19
          try simp at h19_
          have h18_ := h18
          try simp at h18_
          have F13 := And.intro F11 (And.intro h15 (And.intro h15_ (And.intro h16 (And.intro h16_ (And.intro h17 (And.intro h18 (And.intro h19 (And.intro h19_ h18_))))))))
          try simp [F13]
          and_intros <;> first | exact g _ (by kernel_rfl) | refine r _ _ _ ?_ | omega | (simp [maxLen, F13] <;> omega)
          refine WK [(3, AV.ptr 0 0), (40, Lz v4), (41, Iz (v4.length : Int)), (42, Iz v11), (63, AV.bool (decide (v14 < v12)))] [(0, .cells [Lz v3, Lz v4, Iz v5])] 1 (by simp [F13]) (by simp [F13]) ?_
          by_cases h20 : v14 < v12
          ·replace hF := ite_t h20 hF
           have h20_ := h20
           try simp at h20_
           have F14 := And.intro F13 (And.intro h20 h20_)
           refine CT (by simp [F14] <;> omega) ?_
           refine SQ [] [none] fun _ _ g r => ?_
           try simp [F14]
           and_intros <;> first | exact g _ (by kernel_rfl) | refine r _ _ _ ?_ | omega | (simp [maxLen, F14] <;> omega)
           refine WK [(4, Iz 15)] [] 1 (by simp [F14]) (by simp [F14]) ?_
           simp only [Option.some.injEq] at hF
           subst hF
           refine AW.ret (hQ _ _ _ ?_ (matchO_0 ?_)).1
           ·simp [Try.f68, F14]
           ·simp [F14]
          ·replace hF := ite_f h20 hF
           have h20_ := h20
           try simp at h20_
           have F15 := And.intro F13 (And.intro h20 h20_)
           refine CF (by simp [F15] <;> omega) ?_
           refine AW.skip ?_
           refine hK221 _ _ _ ?_
           exact JN (()) hF (by simp [F15]) (by simp [F15])
         ·replace hF := ite_f h16 hF
          have h16_ := h16
          try simp at h16_
          have F16 := And.intro F11 (And.intro h15 (And.intro h15_ (And.intro h16 h16_)))
          try simp [F16]
          and_intros <;> first | exact g _ (by kernel_rfl) | refine r _ _ _ ?_ | omega | (simp [maxLen, F16] <;> omega)
          refine WK [(3, AV.ptr 0 0), (40, Lz v4), (41, Iz (v4.length : Int)), (42, Iz v11), (63, AV.bool false)] [(0, .cells [Lz v3, Lz v4, Iz v5])] 1 (by simp [F16]) (by simp [F16]) ?_
          refine CF (by simp [F16]) ?_
          refine AW.skip ?_
          refine hK221 _ _ _ ?_
          exact JN (()) hF (by simp [F16]) (by simp [F16])
       ·rintro ⟨⟩ hF
        try dsimp only at hF
        unfold capacity_Check.J2 at hF
        refine RG [] [none, none] fun _ _ g r => ?_
        try simp [F10]
        and_intros <;> first | exact g _ (by kernel_rfl) | refine r _ _ _ ?_ | omega | (simp [maxLen, F10] <;> omega)
        refine hK213 _ _ _ ?_
        exact NX (k' := n1) (IntKind.wrap .i64 (v11 + 1)) hF (by simp [F10]) (by simp [F10])
      ·replace hF := ite_f h10 hF
       have h10_ := h10
       try simp at h10_
       have F17 := And.intro F9 (And.intro h10 h10_)
       refine CF (by simp [F17] <;> omega) ?_
       refine AW.exit ?_
       try simp
       refine hK179 _ _ _ ?_
       refine SQ [] [none] fun _ _ g r => ?_
       try simp [F17]
       and_intros <;> first | exact g _ (by kernel_rfl) | refine r _ _ _ ?_ | omega | (simp [maxLen, F17] <;> omega)
       refine WK [(4, Iz 0)] [] 1 (by simp [F17]) (by simp [F17]) ?_
       simp only [Option.some.injEq] at hF
       subst hF
       refine AW.ret (hQ _ _ _ ?_ (matchO_0 ?_)).1
       ·simp [Try.f68, F17]
       ·simp [F17]
theorem w_roster_Check (k : Nat) (v0 : (List Int)) (v1 : (List Int)) (v2 : (List Int)) (v3 : Int) (v4 : Int) (v5 : Int) (v6 : Int) (v7 : Int) (hF : roster_Check k v0 v1 v2 v3 v4 v5 v6 = some v7) :
  FCall Try.prog 20 [AV.agg [AV.lst false false (List.map (AV.int .i64) v0), AV.lst false false (List.map (AV.int .i64) v1), AV.lst false false (List.map (AV.int .i64) v2), AV.int .i64 v3, AV.int .i64 v4, AV.int .i64 v5, AV.int .i64 v6]] [] (AV.int .i64 v7) [] := by
 unfold roster_Check at hF
 refine EN Try.func20 ?_
 intro c0 w0 Q h0 hQ
 refine WK [(0, AV.agg [Lz v0, Lz v1, Lz v2, Iz v3, Iz v4, Iz v5, Iz v6])] [] 0 (by simp) (by simp) ?_
 refine SQ [] [none, none] fun _ _ g r => ?_
 try simp
 and_intros <;> first | exact g _ (by kernel_rfl) | refine r _ _ _ ?_ | omega | (simp [maxLen] <;> omega)
 refine WK [(1, AV.ptr 0 0)] [(0, .cells [Lz v0, Lz v1, Lz v2, Iz v3, Iz v4, Iz v5, Iz v6])] 1 (by simp) (by simp) ?_
 refine AW.seq fun K33 hK33 => ?_
 refine SQ [] [none, none, none, none] fun _ _ g r => ?_
 try simp
 and_intros
 try any_goals first | omega | (simp [maxLen] <;> omega)
 obtain ⟨v8, h1, hF⟩ := bnd1_elim hF
 refine AC (w_roster_Valid k _ _ h1) (.cons (.same (by simp)) .nil) ?_
 try simp
 and_intros <;> first | exact g _ (by kernel_rfl) | refine r _ _ _ ?_ | omega | (simp [maxLen] <;> omega)
 refine WK [(1, AV.ptr 0 0), (7, AV.bool (!v8))] [(0, .cells [Lz v0, Lz v1, Lz v2, Iz v3, Iz v4, Iz v5, Iz v6])] 1 (by simp) (by simp) ?_
 by_cases h2 : (!v8) = true
 ·replace hF := ite_t h2 hF
  have h2_ := h2
  try simp at h2_
  refine CT (by simp [h2, h2_] <;> omega) ?_
  refine SQ [] [none] fun _ _ g r => ?_
  try simp [h2, h2_]
  and_intros <;> first | exact g _ (by kernel_rfl) | refine r _ _ _ ?_ | omega | (simp [h2, h2_, maxLen] <;> omega)
  refine WK [(2, Iz 43)] [] 1 (by simp [h2, h2_]) (by simp [h2, h2_]) ?_
  simp only [Option.some.injEq] at hF
  subst hF
  refine AW.ret (hQ _ _ _ ?_ (matchO_0 ?_)).1
  ·simp [Try.f20, h2, h2_]
  ·simp [h2, h2_]
 ·replace hF := ite_f h2 hF
  have h2_ := h2
  try simp at h2_
  refine CF (by simp [h2, h2_] <;> omega) ?_
  refine AW.skip ?_
  refine hK33 _ _ _ ?_
  refine AW.seq fun K39 hK39 => ?_
  refine SQ [] [none, none, none, none, none] fun _ _ g r => ?_
  try simp [h2, h2_]
  and_intros
  try any_goals first | omega | (simp [h2, h2_, maxLen] <;> omega)
  obtain ⟨v9, h3, hF⟩ := bnd1_elim hF
  refine AC (w_capacity_Check k _ _ _ _ _ _ _ h3) (.cons (.agg (.cons (.same (by simp [h2, h2_])) (.cons (Coe.fl (by simp [h2, h2_])) (.cons (Coe.fl (by simp [h2, h2_])) .nil)))) (.cons (.same (by simp [h2, h2_])) .nil)) ?_
  try simp [h2, h2_]
  and_intros <;> first | exact g _ (by kernel_rfl) | refine r _ _ _ ?_ | omega | (simp [h2, h2_, maxLen] <;> omega)
  refine WK [(1, AV.ptr 0 0), (3, Iz v9)] [(0, .cells [Lz v0, Lz v1, Lz v2, Iz v3, Iz v4, Iz v5, Iz v6])] 1 (by simp [h2, h2_]) (by simp [h2, h2_]) ?_
  refine SQ [] [none, none] fun _ _ g r => ?_
  try simp [h2, h2_]
  and_intros <;> first | exact g _ (by kernel_rfl) | refine r _ _ _ ?_ | omega | (simp [h2, h2_, maxLen] <;> omega)
  refine WK [(1, AV.ptr 0 0), (3, Iz v9), (13, AV.bool (v9 != 0))] [(0, .cells [Lz v0, Lz v1, Lz v2, Iz v3, Iz v4, Iz v5, Iz v6])] 1 (by simp [h2, h2_]) (by simp [h2, h2_]) ?_
  by_cases h4 : v9 ≠ 0
  ·replace hF := ite_t h4 hF
   have h4_ := eqb_f h4
   have h4__ := neb_t h4
   have F1 := And.intro h2 (And.intro h2_ (And.intro h4 (And.intro h4_ h4__)))
   refine CT (by simp [F1] <;> omega) ?_
   refine SQ [] [none, none] fun _ _ g r => ?_
   try simp [F1]
   and_intros <;> first | exact g _ (by kernel_rfl) | refine r _ _ _ ?_ | omega | (simp [maxLen, F1] <;> omega)
   refine WK [(2, Iz v9)] [] 1 (by simp [F1]) (by simp [F1]) ?_
   simp only [Option.some.injEq] at hF
   subst hF
   refine AW.ret (hQ _ _ _ ?_ (matchO_0 ?_)).1
   ·simp [Try.f20, F1]
   ·simp [F1]
  ·replace hF := ite_f h4 hF
   have h4q : v9 = 0 := Classical.not_not.1 h4
   have h4_ := eqb_t h4q
   have h4__ := neb_f h4q
   refine CF (by simp [h2, h2_, h4_, h4__, h4q] <;> omega) ?_
   refine AW.skip ?_
   refine hK39 _ _ _ ?_
   refine AW.seq fun K50 hK50 => ?_
   refine SQ [] [none, none, none, none, some (18, false), some (18, false), some (18, false), none, none, some (23, false), some (23, false), some (23, false), none, none, some (28, false), some (28, false), some (28, false), none, none, some (33, false), some (33, false), some (33, false), none, none, some (38, false), some (38, false), some (38, false), none] fun _ _ g r => ?_
   by_cases h5 : v4 < 1
   ·replace hF := ite_t h5 hF
    have h5_ := h5
    try simp at h5_
    have F2 := And.intro h2 (And.intro h2_ (And.intro h4_ (And.intro h4__ (And.intro h4q (And.intro h5 h5_)))))
    try simp [F2]
    and_intros <;> first | exact g _ (by kernel_rfl) | refine r _ _ _ ?_ | omega | (simp [maxLen, F2] <;> omega)
    refine WK [(42, AV.bool true)] [] 1 (by simp [F2]) (by simp [F2]) ?_
    refine CT (by simp [F2]) ?_
    refine SQ [] [none] fun _ _ g r => ?_
    try simp [F2]
    and_intros <;> first | exact g _ (by kernel_rfl) | refine r _ _ _ ?_ | omega | (simp [maxLen, F2] <;> omega)
    refine WK [(2, Iz 40)] [] 1 (by simp [F2]) (by simp [F2]) ?_
    simp only [Option.some.injEq] at hF
    subst hF
    refine AW.ret (hQ _ _ _ ?_ (matchO_0 ?_)).1
    ·simp [Try.f20, F2]
    ·simp [F2]
   ·replace hF := ite_f h5 hF
    have h5_ := h5
    try simp at h5_
    by_cases h6 : 9 < v4
    ·replace hF := ite_t h6 hF
     have h6_ := h6
     try simp at h6_
     have F3 := And.intro h2 (And.intro h2_ (And.intro h4_ (And.intro h4__ (And.intro h4q (And.intro h5 (And.intro h5_ (And.intro h6 h6_)))))))
     try simp [F3]
     and_intros <;> first | exact g _ (by kernel_rfl) | refine r _ _ _ ?_ | omega | (simp [maxLen, F3] <;> omega)
     refine WK [(42, AV.bool true)] [] 1 (by simp [F3]) (by simp [F3]) ?_
     refine CT (by simp [F3]) ?_
     refine SQ [] [none] fun _ _ g r => ?_
     try simp [F3]
     and_intros <;> first | exact g _ (by kernel_rfl) | refine r _ _ _ ?_ | omega | (simp [maxLen, F3] <;> omega)
     refine WK [(2, Iz 40)] [] 1 (by simp [F3]) (by simp [F3]) ?_
     simp only [Option.some.injEq] at hF
     subst hF
     refine AW.ret (hQ _ _ _ ?_ (matchO_0 ?_)).1
     ·simp [Try.f20, F3]
     ·simp [F3]
    ·replace hF := ite_f h6 hF
     have h6_ := h6
     try simp at h6_
     by_cases h7 : v5 < 1
     ·replace hF := ite_t h7 hF
      have h7_ := h7
      try simp at h7_
      have F4 := And.intro h2 (And.intro h2_ (And.intro h4_ (And.intro h4__ (And.intro h4q (And.intro h5 (And.intro h5_ (And.intro h6 (And.intro h6_ (And.intro h7 h7_)))))))))
      try simp [F4]
      and_intros <;> first | exact g _ (by kernel_rfl) | refine r _ _ _ ?_ | omega | (simp [maxLen, F4] <;> omega)
      refine WK [(42, AV.bool true)] [] 1 (by simp [F4]) (by simp [F4]) ?_
      refine CT (by simp [F4]) ?_
      refine SQ [] [none] fun _ _ g r => ?_
      try simp [F4]
      and_intros <;> first | exact g _ (by kernel_rfl) | refine r _ _ _ ?_ | omega | (simp [maxLen, F4] <;> omega)
      refine WK [(2, Iz 40)] [] 1 (by simp [F4]) (by simp [F4]) ?_
      simp only [Option.some.injEq] at hF
      subst hF
      refine AW.ret (hQ _ _ _ ?_ (matchO_0 ?_)).1
      ·simp [Try.f20, F4]
      ·simp [F4]
     ·replace hF := ite_f h7 hF
      have h7_ := h7
      try simp at h7_
      by_cases h8 : 1000000 < v5
      ·replace hF := ite_t h8 hF
       have h8_ := h8
       try simp at h8_
       have F5 := And.intro h2 (And.intro h2_ (And.intro h4_ (And.intro h4__ (And.intro h4q (And.intro h5 (And.intro h5_ (And.intro h6 (And.intro h6_ (And.intro h7 (And.intro h7_ (And.intro h8 h8_)))))))))))
       try simp [F5]
       and_intros <;> first | exact g _ (by kernel_rfl) | refine r _ _ _ ?_ | omega | (simp [maxLen, F5] <;> omega)
       refine WK [(42, AV.bool true)] [] 1 (by simp [F5]) (by simp [F5]) ?_
       refine CT (by simp [F5]) ?_
       refine SQ [] [none] fun _ _ g r => ?_
       try simp [F5]
       and_intros <;> first | exact g _ (by kernel_rfl) | refine r _ _ _ ?_ | omega | (simp [maxLen, F5] <;> omega)
       refine WK [(2, Iz 40)] [] 1 (by simp [F5]) (by simp [F5]) ?_
       simp only [Option.some.injEq] at hF
       subst hF
       refine AW.ret (hQ _ _ _ ?_ (matchO_0 ?_)).1
       ·simp [Try.f20, F5]
       ·simp [F5]
      ·replace hF := ite_f h8 hF
       have h8_ := h8
       try simp at h8_
       by_cases h9 : v6 < 0
       ·replace hF := ite_t h9 hF
        have h9_ := h9
        try simp at h9_
        have F6 := And.intro h2 (And.intro h2_ (And.intro h4_ (And.intro h4__ (And.intro h4q (And.intro h5 (And.intro h5_ (And.intro h6 (And.intro h6_ (And.intro h7 (And.intro h7_ (And.intro h8 (And.intro h8_ (And.intro h9 h9_)))))))))))))
        try simp [F6]
        and_intros <;> first | exact g _ (by kernel_rfl) | refine r _ _ _ ?_ | omega | (simp [maxLen, F6] <;> omega)
        refine WK [(42, AV.bool true)] [] 1 (by simp [F6]) (by simp [F6]) ?_
        refine CT (by simp [F6]) ?_
        refine SQ [] [none] fun _ _ g r => ?_
        try simp [F6]
        and_intros <;> first | exact g _ (by kernel_rfl) | refine r _ _ _ ?_ | omega | (simp [maxLen, F6] <;> omega)
        refine WK [(2, Iz 40)] [] 1 (by simp [F6]) (by simp [F6]) ?_
        simp only [Option.some.injEq] at hF
        subst hF
        refine AW.ret (hQ _ _ _ ?_ (matchO_0 ?_)).1
        ·simp [Try.f20, F6]
        ·simp [F6]
       ·replace hF := ite_f h9 hF
        have h9_ := h9
        try simp at h9_
        have F7 := And.intro h2 (And.intro h2_ (And.intro h4_ (And.intro h4__ (And.intro h4q (And.intro h5 (And.intro h5_ (And.intro h6 (And.intro h6_ (And.intro h7 (And.intro h7_ (And.intro h8 (And.intro h8_ (And.intro h9 h9_)))))))))))))
        try simp [F7]
        and_intros <;> first | exact g _ (by kernel_rfl) | refine r _ _ _ ?_ | omega | (simp [maxLen, F7] <;> omega)
        refine WK [(42, AV.bool (decide (64 < v6)))] [] 1 (by simp [F7]) (by simp [F7]) ?_
        by_cases h10 : 64 < v6
        ·replace hF := ite_t h10 hF
         have h10_ := h10
         try simp at h10_
         have F8 := And.intro F7 (And.intro h10 h10_)
         refine CT (by simp [F8] <;> omega) ?_
         refine SQ [] [none] fun _ _ g r => ?_
         try simp [F8]
         and_intros <;> first | exact g _ (by kernel_rfl) | refine r _ _ _ ?_ | omega | (simp [maxLen, F8] <;> omega)
         refine WK [(2, Iz 40)] [] 1 (by simp [F8]) (by simp [F8]) ?_
         simp only [Option.some.injEq] at hF
         subst hF
         refine AW.ret (hQ _ _ _ ?_ (matchO_0 ?_)).1
         ·simp [Try.f20, F8]
         ·simp [F8]
        ·replace hF := ite_f h10 hF
         have h10_ := h10
         try simp at h10_
         have F9 := And.intro F7 (And.intro h10 h10_)
         refine CF (by simp [F9] <;> omega) ?_
         refine AW.skip ?_
         refine hK50 _ _ _ ?_
         refine SQ [] [none] fun _ _ g r => ?_
         try simp [F9]
         and_intros <;> first | exact g _ (by kernel_rfl) | refine r _ _ _ ?_ | omega | (simp [maxLen, F9] <;> omega)
         refine WK [(2, Iz 0)] [] 1 (by simp [F9]) (by simp [F9]) ?_
         simp only [Option.some.injEq] at hF
         subst hF
         refine AW.ret (hQ _ _ _ ?_ (matchO_0 ?_)).1
         ·simp [Try.f20, F9]
         ·simp [F9]
theorem w_cases_Valid (k : Nat) (v0 : Int) (v1 : Int) (v2 : Int) (v3 : Int) (v4 : Bool) (hF : cases_Valid k v0 v1 v2 v3 = some v4) :
  FCall Try.prog 86 [AV.agg [AV.int .i64 v0, AV.int .i64 v1, AV.int .i64 v2, AV.int .i64 v3]] [] (AV.bool v4) [] := by
 unfold cases_Valid at hF
 refine EN Try.func86 ?_
 intro c0 w0 Q h0 hQ
 refine WK [(0, AV.agg [Iz v0, Iz v1, Iz v2, Iz v3])] [] 0 (by simp) (by simp) ?_
 refine SQ [] [none, none] fun _ _ g r => ?_
 try simp
 and_intros <;> first | exact g _ (by kernel_rfl) | refine r _ _ _ ?_ | omega | (simp [maxLen] <;> omega)
 refine WK [(1, AV.ptr 0 0)] [(0, .cells [Iz v0, Iz v1, Iz v2, Iz v3])] 1 (by simp) (by simp) ?_
 refine AW.seq fun K45 hK45 => ?_
 refine SQ [] [none, none, none, none, some (6, false), some (6, false), some (6, false), none, none, some (11, false), some (11, false), some (11, false), none, none, some (16, false), some (16, false), some (16, false), none, none, some (21, false), some (21, false), some (21, false), none, none, some (26, false), some (26, false), some (26, false), none] fun _ _ g r => ?_
 by_cases h1 : v0 < 0
 ·replace hF := ite_t h1 hF
  have h1_ := h1
  try simp at h1_
  try simp [h1, h1_]
  and_intros <;> first | exact g _ (by kernel_rfl) | refine r _ _ _ ?_ | omega | (simp [h1, h1_, maxLen] <;> omega)
  refine WK [(1, AV.ptr 0 0), (30, AV.bool true)] [(0, .cells [Iz v0, Iz v1, Iz v2, Iz v3])] 1 (by simp [h1, h1_]) (by simp [h1, h1_]) ?_
  refine CT (by simp [h1, h1_]) ?_
  refine SQ [] [none] fun _ _ g r => ?_
  try simp [h1, h1_]
  and_intros <;> first | exact g _ (by kernel_rfl) | refine r _ _ _ ?_ | omega | (simp [h1, h1_, maxLen] <;> omega)
  refine WK [(2, AV.bool false)] [] 1 (by simp [h1, h1_]) (by simp [h1, h1_]) ?_
  simp only [Option.some.injEq] at hF
  subst hF
  refine AW.ret (hQ _ _ _ ?_ (matchO_0 ?_)).1
  ·simp [Try.f86, h1, h1_]
  ·simp [h1, h1_]
 ·replace hF := ite_f h1 hF
  have h1_ := h1
  try simp at h1_
  by_cases h2 : 40 ≤ v0
  ·replace hF := ite_t h2 hF
   have h2_ := h2
   try simp at h2_
   have F1 := And.intro h1 (And.intro h1_ (And.intro h2 h2_))
   try simp [F1]
   and_intros <;> first | exact g _ (by kernel_rfl) | refine r _ _ _ ?_ | omega | (simp [maxLen, F1] <;> omega)
   refine WK [(1, AV.ptr 0 0), (30, AV.bool true)] [(0, .cells [Iz v0, Iz v1, Iz v2, Iz v3])] 1 (by simp [F1]) (by simp [F1]) ?_
   refine CT (by simp [F1]) ?_
   refine SQ [] [none] fun _ _ g r => ?_
   try simp [F1]
   and_intros <;> first | exact g _ (by kernel_rfl) | refine r _ _ _ ?_ | omega | (simp [maxLen, F1] <;> omega)
   refine WK [(2, AV.bool false)] [] 1 (by simp [F1]) (by simp [F1]) ?_
   simp only [Option.some.injEq] at hF
   subst hF
   refine AW.ret (hQ _ _ _ ?_ (matchO_0 ?_)).1
   ·simp [Try.f86, F1]
   ·simp [F1]
  ·replace hF := ite_f h2 hF
   have h2_ := h2
   try simp at h2_
   by_cases h3 : v2 < 0
   ·replace hF := ite_t h3 hF
    have h3_ := h3
    try simp at h3_
    have F2 := And.intro h1 (And.intro h1_ (And.intro h2 (And.intro h2_ (And.intro h3 h3_))))
    try simp [F2]
    and_intros <;> first | exact g _ (by kernel_rfl) | refine r _ _ _ ?_ | omega | (simp [maxLen, F2] <;> omega)
    refine WK [(1, AV.ptr 0 0), (30, AV.bool true)] [(0, .cells [Iz v0, Iz v1, Iz v2, Iz v3])] 1 (by simp [F2]) (by simp [F2]) ?_
    refine CT (by simp [F2]) ?_
    refine SQ [] [none] fun _ _ g r => ?_
    try simp [F2]
    and_intros <;> first | exact g _ (by kernel_rfl) | refine r _ _ _ ?_ | omega | (simp [maxLen, F2] <;> omega)
    refine WK [(2, AV.bool false)] [] 1 (by simp [F2]) (by simp [F2]) ?_
    simp only [Option.some.injEq] at hF
    subst hF
    refine AW.ret (hQ _ _ _ ?_ (matchO_0 ?_)).1
    ·simp [Try.f86, F2]
    ·simp [F2]
   ·replace hF := ite_f h3 hF
    have h3_ := h3
    try simp at h3_
    by_cases h4 : 64 ≤ v2
    ·replace hF := ite_t h4 hF
     have h4_ := h4
     try simp at h4_
     have F3 := And.intro h1 (And.intro h1_ (And.intro h2 (And.intro h2_ (And.intro h3 (And.intro h3_ (And.intro h4 h4_))))))
     try simp [F3]
     and_intros <;> first | exact g _ (by kernel_rfl) | refine r _ _ _ ?_ | omega | (simp [maxLen, F3] <;> omega)
     refine WK [(1, AV.ptr 0 0), (30, AV.bool true)] [(0, .cells [Iz v0, Iz v1, Iz v2, Iz v3])] 1 (by simp [F3]) (by simp [F3]) ?_
     refine CT (by simp [F3]) ?_
     refine SQ [] [none] fun _ _ g r => ?_
     try simp [F3]
     and_intros <;> first | exact g _ (by kernel_rfl) | refine r _ _ _ ?_ | omega | (simp [maxLen, F3] <;> omega)
     refine WK [(2, AV.bool false)] [] 1 (by simp [F3]) (by simp [F3]) ?_
     simp only [Option.some.injEq] at hF
     subst hF
     refine AW.ret (hQ _ _ _ ?_ (matchO_0 ?_)).1
     ·simp [Try.f86, F3]
     ·simp [F3]
    ·replace hF := ite_f h4 hF
     have h4_ := h4
     try simp at h4_
     by_cases h5 : v3 < 0
     ·replace hF := ite_t h5 hF
      have h5_ := h5
      try simp at h5_
      have F4 := And.intro h1 (And.intro h1_ (And.intro h2 (And.intro h2_ (And.intro h3 (And.intro h3_ (And.intro h4 (And.intro h4_ (And.intro h5 h5_))))))))
      try simp [F4]
      and_intros <;> first | exact g _ (by kernel_rfl) | refine r _ _ _ ?_ | omega | (simp [maxLen, F4] <;> omega)
      refine WK [(1, AV.ptr 0 0), (30, AV.bool true)] [(0, .cells [Iz v0, Iz v1, Iz v2, Iz v3])] 1 (by simp [F4]) (by simp [F4]) ?_
      refine CT (by simp [F4]) ?_
      refine SQ [] [none] fun _ _ g r => ?_
      try simp [F4]
      and_intros <;> first | exact g _ (by kernel_rfl) | refine r _ _ _ ?_ | omega | (simp [maxLen, F4] <;> omega)
      refine WK [(2, AV.bool false)] [] 1 (by simp [F4]) (by simp [F4]) ?_
      simp only [Option.some.injEq] at hF
      subst hF
      refine AW.ret (hQ _ _ _ ?_ (matchO_0 ?_)).1
      ·simp [Try.f86, F4]
      ·simp [F4]
     ·replace hF := ite_f h5 hF
      have h5_ := h5
      try simp at h5_
      have F5 := And.intro h1 (And.intro h1_ (And.intro h2 (And.intro h2_ (And.intro h3 (And.intro h3_ (And.intro h4 (And.intro h4_ (And.intro h5 h5_))))))))
      try simp [F5]
      and_intros <;> first | exact g _ (by kernel_rfl) | refine r _ _ _ ?_ | omega | (simp [maxLen, F5] <;> omega)
      refine WK [(1, AV.ptr 0 0), (30, AV.bool (decide (1 < v3)))] [(0, .cells [Iz v0, Iz v1, Iz v2, Iz v3])] 1 (by simp [F5]) (by simp [F5]) ?_
      by_cases h6 : 1 < v3
      ·replace hF := ite_t h6 hF
       have h6_ := h6
       try simp at h6_
       have F6 := And.intro F5 (And.intro h6 h6_)
       refine CT (by simp [F6] <;> omega) ?_
       refine SQ [] [none] fun _ _ g r => ?_
       try simp [F6]
       and_intros <;> first | exact g _ (by kernel_rfl) | refine r _ _ _ ?_ | omega | (simp [maxLen, F6] <;> omega)
       refine WK [(2, AV.bool false)] [] 1 (by simp [F6]) (by simp [F6]) ?_
       simp only [Option.some.injEq] at hF
       subst hF
       refine AW.ret (hQ _ _ _ ?_ (matchO_0 ?_)).1
       ·simp [Try.f86, F6]
       ·simp [F6]
      ·replace hF := ite_f h6 hF
       have h6_ := h6
       try simp at h6_
       have F7 := And.intro F5 (And.intro h6 h6_)
       refine CF (by simp [F7] <;> omega) ?_
       refine AW.skip ?_
       refine hK45 _ _ _ ?_
       refine AW.seq fun K62 hK62 => ?_
       refine SQ [] [none, none] fun _ _ g r => ?_
       try simp [F7]
       and_intros <;> first | exact g _ (by kernel_rfl) | refine r _ _ _ ?_ | omega | (simp [maxLen, F7] <;> omega)
       refine WK [(1, AV.ptr 0 0), (32, Iz v1)] [(0, .cells [Iz v0, Iz v1, Iz v2, Iz v3])] 1 (by simp [F7]) (by simp [F7]) ?_
       refine AW.block ?_
       refine SQ [] [none, none] fun _ _ g r => ?_
       try simp [F7]
       and_intros <;> first | exact g _ (by kernel_rfl) | refine r _ _ _ ?_ | omega | (simp [maxLen, F7] <;> omega)
       refine WK [(1, AV.ptr 0 0), (32, Iz v1), (33, AV.bool (v1 == 1))] [(0, .cells [Iz v0, Iz v1, Iz v2, Iz v3])] 1 (by simp [F7]) (by simp [F7]) ?_
       by_cases h7 : v1 = 1
       ·replace hF := ite_t h7 hF
        have h7q : v1 = 1 := h7
        have h7_ := eqb_t h7q
        have h7__ := neb_f h7q
        refine CT (by simp [F7, h7_, h7__, h7q] <;> omega) ?_
        refine SQ [] [none, none, none, none, some (38, true), some (38, true), some (38, true), none, none] fun _ _ g r => ?_
        by_cases h8 : v2 = 0
        ·replace hF := ite_t h8 hF
         have h8q : v2 = 0 := h8
         have h8_ := eqb_t h8q
         have h8__ := neb_f h8q
         have F8 := And.intro F7 (And.intro h7_ (And.intro h7__ (And.intro h7q (And.intro h8_ (And.intro h8__ h8q)))))
         try simp [F8]
         and_intros <;> first | exact g _ (by kernel_rfl) | refine r _ _ _ ?_ | omega | (simp [maxLen, F8] <;> omega)
         refine WK [(2, AV.bool (v3 == 0))] [] 1 (by simp [F8]) (by simp [F8]) ?_
         simp only [Option.some.injEq] at hF
         subst hF
         refine AW.ret (hQ _ _ _ ?_ (matchO_0 ?_)).1
         ·simp [Try.f86, F8]
         ·simp [F8]
        ·replace hF := ite_f h8 hF
         have h8_ := eqb_f h8
         have h8__ := neb_t h8
         have F9 := And.intro F7 (And.intro h7_ (And.intro h7__ (And.intro h7q (And.intro h8 (And.intro h8_ h8__)))))
         try simp [F9]
         and_intros <;> first | exact g _ (by kernel_rfl) | refine r _ _ _ ?_ | omega | (simp [maxLen, F9] <;> omega)
         refine WK [(2, AV.bool false)] [] 1 (by simp [F9]) (by simp [F9]) ?_
         simp only [Option.some.injEq] at hF
         subst hF
         refine AW.ret (hQ _ _ _ ?_ (matchO_0 ?_)).1
         ·simp [Try.f86, F9]
         ·simp [F9]
       ·replace hF := ite_f h7 hF
        have h7_ := eqb_f h7
        have h7__ := neb_t h7
        have F10 := And.intro F7 (And.intro h7 (And.intro h7_ h7__))
        refine CF (by simp [F10] <;> omega) ?_
        refine AW.midF (α := Bool) (fun v5 => cases_Valid.J1 k v5 = some v4) (fun v5 => [(43, AV.bool v5)]) (fun v5 => []) 0 (fun K70 hK70 => ?_) ?_
        ·refine SQ [] [none, none] fun _ _ g r => ?_
         try simp [F10]
         and_intros <;> first | exact g _ (by kernel_rfl) | refine r _ _ _ ?_ | omega | (simp [maxLen, F10] <;> omega)
         refine WK [(32, Iz v1), (43, AV.bool (v1 == 2))] [] 1 (by simp [F10]) (by simp [F10]) ?_
         by_cases h10 : v1 = 2
         ·replace hF := ite_t h10 hF
          have h10q : v1 = 2 := h10
          have h10_ := eqb_t h10q
          have h10__ := neb_f h10q
          have F11 := And.intro F10 (And.intro h10_ (And.intro h10__ h10q))
          refine CT (by simp [F11] <;> omega) ?_
          refine AW.skip ?_
          refine hK70 _ _ _ ?_
          refine RN h0 [] [(43, AV.bool true)] [] 0 (by simp [F11]) (by simp [F11]) ?_
          exact JN (true) hF (by simp [F11]) (by simp [F11])
         ·replace hF := ite_f h10 hF
          have h10_ := eqb_f h10
          have h10__ := neb_t h10
          have F12 := And.intro F10 (And.intro h10 (And.intro h10_ h10__))
          refine CF (by simp [F12] <;> omega) ?_
          refine RG [] [none, none] fun _ _ g r => ?_
          try simp [F12]
          and_intros <;> first | exact g _ (by kernel_rfl) | refine r _ _ _ ?_ | omega | (simp [maxLen, F12] <;> omega)
          refine hK70 _ _ _ ?_
          refine RN h0 [] [(43, AV.bool (v1 == 3))] [] 0 (by simp [F12]) (by simp [F12]) ?_
          exact JN ((v1 == 3)) hF (by simp [F12]) (by simp [F12])
        ·rintro v5 hF
         try dsimp only at hF
         unfold cases_Valid.J1 at hF
         by_cases h9 : v5 = true
         ·replace hF := ite_t h9 hF
          have h9_ := h9
          try simp at h9_
          have F13 := And.intro F10 (And.intro h9 h9_)
          refine CT (by simp [F13] <;> omega) ?_
          refine SQ [] [none] fun _ _ g r => ?_
          try simp [F13]
          and_intros <;> first | exact g _ (by kernel_rfl) | refine r _ _ _ ?_ | omega | (simp [maxLen, F13] <;> omega)
          refine WK [(2, AV.bool true)] [] 0 (by simp [F13]) (by simp [F13]) ?_
          simp only [Option.some.injEq] at hF
          subst hF
          refine AW.ret (hQ _ _ _ ?_ (matchO_0 ?_)).1
          ·simp [Try.f86, F13]
          ·simp [F13]
         ·replace hF := ite_f h9 hF
          have h9_ := h9
          try simp at h9_
          have F14 := And.intro F10 (And.intro h9 h9_)
          refine CF (by simp [F14] <;> omega) ?_
          refine AW.skip ?_
          refine hK62 _ _ _ ?_
          refine SQ [] [none] fun _ _ g r => ?_
          try simp [F14]
          and_intros <;> first | exact g _ (by kernel_rfl) | refine r _ _ _ ?_ | omega | (simp [maxLen, F14] <;> omega)
          refine WK [(2, AV.bool false)] [] 0 (by simp [F14]) (by simp [F14]) ?_
          simp only [Option.some.injEq] at hF
          subst hF
          refine AW.ret (hQ _ _ _ ?_ (matchO_0 ?_)).1
          ·simp [Try.f86, F14]
          ·simp [F14]
theorem w_beacon_bytes (k : Nat) (v0 : (List Int)) (v1 : (List Int)) (v2 : (List Int)) (hF : beacon_bytes k v0 v1 = some v2) :
  FCall Try.prog 82 [AV.slc 0 0 1 v0.length false, AV.lst false false (List.map (AV.int .i64) v1)] [.cells (List.map (AV.int .u8) v0)] (AV.slc 1 0 1 v2.length false) [none, some (.cells (List.map (AV.int .u8) v2))] := by
 unfold beacon_bytes at hF
 refine EN Try.func82 ?_
 intro c0 w0 Q h0 hQ
 refine WK [(0, AV.slc 0 0 1 v0.length false), (1, Lz v1)] [(0, .cells (List.map (AV.int .u8) v0))] 1 (by simp) (by simp) ?_
 refine SQ [] [none] fun _ _ g r => ?_
 try simp
 and_intros <;> first | exact g _ (by kernel_rfl) | refine r _ _ _ ?_ | omega | (simp [maxLen] <;> omega)
 refine WK [(0, AV.slc 0 0 1 v0.length false), (1, Lz v1)] [(0, .cells (List.map (AV.int .u8) v0))] 1 (by simp) (by simp) ?_
 refine AW.seq fun K803 hK803 => ?_
 refine SQ [] [none, none, none] fun _ _ g r => ?_
 try simp
 and_intros <;> first | exact g _ (by kernel_rfl) | refine r _ _ _ ?_ | omega | (simp [maxLen] <;> omega)
 refine WK [(0, AV.slc 0 0 1 v0.length false), (8, Lz v1), (9, Iz (v1.length : Int)), (10, Iz 0)] [(0, .cells (List.map (AV.int .u8) v0))] 1 (by simp) (by simp) ?_
 refine AW.block ?_
 refine AW.rnm (m := 1) h0 [(1, 0)] [(0, AV.slc 1 0 1 v0.length false), (8, Lz v1), (9, Iz (v1.length : Int)), (10, Iz 0)] [(1, .cells (List.map (AV.int .u8) v0))] 2 (by decide) (by decide) (by decide) rfl (by simp) (by simp) ?_
 refine AW.loopF (α := (Int × (List Int))) (fun n (v3, v4) => beacon_bytes.L1 k v1 n v3 v4 = some v2) (fun (v3, v4) => [(0, AV.slc 1 0 1 v4.length false), (8, Lz v1), (9, Iz (v1.length : Int)), (10, Iz v3)]) (fun (v3, v4) => [(1, .cells (List.map (AV.int .u8) v4))]) 2 k ((0, v0)) hF (by simp) (by simp) (by simp) ?_
 rintro (_|n1) ⟨v3, v4⟩ hF K1003 hK1003
 ·try dsimp only at hF
  rw [beacon_bytes.L1] at hF; cases hF
 try dsimp only at hF
 rw [beacon_bytes.L1] at hF
 refine SQ [] [none] fun _ _ g r => ?_
 try simp
 and_intros <;> first | exact g _ (by kernel_rfl) | refine r _ _ _ ?_ | omega | (simp [maxLen] <;> omega)
 refine WK [(0, AV.slc 1 0 1 v4.length false), (8, Lz v1), (9, Iz (v1.length : Int)), (10, Iz v3), (11, AV.bool (decide (v3 < (v1.length : Int))))] [(1, .cells (List.map (AV.int .u8) v4))] 2 (by simp) (by simp) ?_
 refine AW.seq fun K1005 hK1005 => ?_
 by_cases h1 : v3 < (v1.length : Int)
 ·replace hF := ite_t h1 hF
  have h1_ := h1
  try simp at h1_
  refine CT (by simp [h1, h1_] <;> omega) ?_
  refine AW.skip ?_
  refine hK1005 _ _ _ ?_
  refine AW.seq fun K1037 hK1037 => ?_
  refine AW.block ?_
  refine SQ [] [none, none, none] fun _ _ g r => ?_
  obtain ⟨v5, h2, h3, h4, hF⟩ := idx_elim hF
  have h4_ := get_of h4
  try simp at h4_
  have h3_ := h3
  try simp at h3_
  have F1 := And.intro h1 (And.intro h1_ (And.intro h2 (And.intro h3 (And.intro h4 (And.intro h4_ h3_)))))
  try simp [F1]
  and_intros <;> first | exact g _ (by kernel_rfl) | refine r _ _ _ ?_ | omega | (simp [maxLen, F1] <;> omega)
  refine WK [(0, AV.slc 1 0 1 v4.length false), (6, Iz v5), (8, Lz v1), (9, Iz (v1.length : Int)), (10, Iz v3)] [(1, .cells (List.map (AV.int .u8) v4))] 2 (by simp [F1]) (by simp [F1]) ?_
  refine SQ [] [none] fun _ _ g r => ?_
  try simp [F1]
  and_intros <;> first | exact g _ (by kernel_rfl) | refine r _ _ _ ?_ | omega | (simp [maxLen, F1] <;> omega)
  refine WK [(0, AV.slc 1 0 1 v4.length false), (6, Iz v5), (7, Iz 56), (8, Lz v1), (9, Iz (v1.length : Int)), (10, Iz v3)] [(1, .cells (List.map (AV.int .u8) v4))] 2 (by simp [F1]) (by simp [F1]) ?_
  refine AW.block ?_
  refine AW.loopF (α := (Int × (List Int))) (fun n (v6, v7) => beacon_bytes.L2 k v3 v5 (fun v3_ v4_ => beacon_bytes.L1 k v1 n1 v3_ v4_) n v6 v7 = some v2) (fun (v6, v7) => [(0, AV.slc 1 0 1 v7.length false), (6, Iz v5), (7, Iz v6), (8, Lz v1), (9, Iz (v1.length : Int)), (10, Iz v3)]) (fun (v6, v7) => [(1, .cells (List.map (AV.int .u8) v7))]) 2 k ((56, v4)) hF (by simp [F1]) (by simp [F1]) (by simp) ?_
  rintro (_|n2) ⟨v6, v7⟩ hF K1061 hK1061
  ·try dsimp only at hF
   rw [beacon_bytes.L2] at hF; cases hF
  try dsimp only at hF
  rw [beacon_bytes.L2] at hF
  refine AW.seq fun K1063 hK1063 => ?_
  refine SQ [] [none, none] fun _ _ g r => ?_
  try simp [F1]
  and_intros <;> first | exact g _ (by kernel_rfl) | refine r _ _ _ ?_ | omega | (simp [maxLen, F1] <;> omega)
  refine WK [(0, AV.slc 1 0 1 v7.length false), (6, Iz v5), (7, Iz v6), (8, Lz v1), (9, Iz (v1.length : Int)), (10, Iz v3), (15, AV.bool (decide (0 ≤ v6)))] [(1, .cells (List.map (AV.int .u8) v7))] 2 (by simp [F1]) (by simp [F1]) ?_
  by_cases h5 : 0 ≤ v6
  ·replace hF := ite_t h5 hF
   have h5_ := h5
   try simp at h5_
   have F2 := And.intro F1 (And.intro h5 h5_)
   refine CT (by simp [F2] <;> omega) ?_
   refine AW.skip ?_
   refine hK1063 _ _ _ ?_
   refine AW.seq fun K1066 hK1066 => ?_
   refine AW.block ?_
   refine RG [] [none, none, none, none, none, none, none, none, none] fun _ _ g r => ?_
   obtain ⟨h6, hF⟩ := chk_elim hF
   obtain ⟨h7, hF⟩ := chk_elim hF
   have h7_ := h7
   try simp at h7_
   have F3 := And.intro F2 (And.intro h6 h7)
   try simp [F3]
   and_intros <;> first | exact g _ (by kernel_rfl) | refine r _ _ _ ?_ | omega | (simp [maxLen, F3] <;> omega)
   refine hK1066 _ _ _ ?_
   refine WK [(0, AV.slc 2 0 1 ((v7 ++ ([IntKind.wrap .u8 (Int.fdiv (IntKind.wrap .u64 v5) (2 ^ (min v6.toNat 64)))] : List Int)).length) false), (6, Iz v5), (7, Iz v6), (8, Lz v1), (9, Iz (v1.length : Int)), (10, Iz v3)] [(2, .cells (List.map (AV.int .u8) (v7 ++ ([IntKind.wrap .u8 (Int.fdiv (IntKind.wrap .u64 v5) (2 ^ (min v6.toNat 64)))] : List Int))))] 3 (by simp [F3] <;> omega) (by simp [F3]) ?_
   refine RG [] [none, none, none] fun _ _ g r => ?_
   try simp [F3]
   and_intros <;> first | exact g _ (by kernel_rfl) | refine r _ _ _ ?_ | omega | (simp [maxLen, F3] <;> omega)
   refine hK1061 _ _ _ ?_
   refine Can.weak [(0, AV.slc 2 0 1 ((v7 ++ ([IntKind.wrap .u8 (Int.fdiv (IntKind.wrap .u64 v5) (2 ^ (min v6.toNat 64)))] : List Int)).length) false), (6, Iz v5), (7, Iz (IntKind.wrap .i64 (v6 - 8))), (8, Lz v1), (9, Iz (v1.length : Int)), (10, Iz v3)] [(2, .cells (List.map (AV.int .u8) (v7 ++ ([IntKind.wrap .u8 (Int.fdiv (IntKind.wrap .u64 v5) (2 ^ (min v6.toNat 64)))] : List Int))))] 3 (by simp [F3] <;> omega) (by simp [F3]) (by simp) ?_
   refine Can.ren (m := 1) h0 [(1, 2)] [(0, AV.slc 1 0 1 ((v7 ++ ([IntKind.wrap .u8 (Int.fdiv (IntKind.wrap .u64 v5) (2 ^ (min v6.toNat 64)))] : List Int)).length) false), (6, Iz v5), (7, Iz (IntKind.wrap .i64 (v6 - 8))), (8, Lz v1), (9, Iz (v1.length : Int)), (10, Iz v3)] [(1, .cells (List.map (AV.int .u8) (v7 ++ ([IntKind.wrap .u8 (Int.fdiv (IntKind.wrap .u64 v5) (2 ^ (min v6.toNat 64)))] : List Int))))] 2 (by decide) (by decide) (by decide) rfl (by simp [F3]) (by simp [F3]) ?_
   exact NX (k' := n2) ((IntKind.wrap .i64 (v6 - 8), v7 ++ ([IntKind.wrap .u8 (Int.fdiv (IntKind.wrap .u64 v5) (2 ^ (min v6.toNat 64)))] : List Int))) hF (by simp [F3]) (by simp [F3])
  ·replace hF := ite_f h5 hF
   have h5_ := h5
   try simp at h5_
   have F4 := And.intro F1 (And.intro h5 h5_)
   refine CF (by simp [F4] <;> omega) ?_
   refine AW.exit ?_
   try simp
   refine hK1037 _ _ _ ?_
   refine RG [] [none, none] fun _ _ g r => ?_
   try simp [F4]
   and_intros <;> first | exact g _ (by kernel_rfl) | refine r _ _ _ ?_ | omega | (simp [maxLen, F4] <;> omega)
   refine hK1003 _ _ _ ?_
   exact NX (k' := n1) ((IntKind.wrap .i64 (v3 + 1), v7)) hF (by simp [F4]) (by simp [F4])
 ·replace hF := ite_f h1 hF
  have h1_ := h1
  try simp at h1_
  refine CF (by simp [h1, h1_] <;> omega) ?_
  refine AW.exit ?_
  try simp
  refine hK803 _ _ _ ?_
  refine SQ [] [none, none] fun _ _ g r => ?_
  try simp [h1, h1_]
  and_intros <;> first | exact g _ (by kernel_rfl) | refine r _ _ _ ?_ | omega | (simp [h1, h1_, maxLen] <;> omega)
  refine WK [(4, AV.slc 1 0 1 v4.length false)] [(1, .cells (List.map (AV.int .u8) v4))] 2 (by simp [h1, h1_]) (by simp [h1, h1_]) ?_
  simp only [Option.some.injEq] at hF
  subst hF
  refine AW.ret (hQ _ _ _ ?_ (matchO_0 ?_)).1
  ·simp [Try.f82, h1, h1_]
  ·simp [h1, h1_]
theorem w_beacon_list (k : Nat) (v0 : (List Int)) (v1 : (List Int)) (v2 : (List Int)) (hF : beacon_list k v0 v1 = some v2) :
  FCall Try.prog 81 [AV.slc 0 0 1 v0.length false, AV.lst false false (List.map (AV.int .i64) v1)] [.cells (List.map (AV.int .u8) v0)] (AV.slc 1 0 1 v2.length false) [none, some (.cells (List.map (AV.int .u8) v2))] := by
 unfold beacon_list at hF
 refine EN Try.func81 ?_
 intro c0 w0 Q h0 hQ
 refine WK [(0, AV.slc 0 0 1 v0.length false), (1, Lz v1)] [(0, .cells (List.map (AV.int .u8) v0))] 1 (by simp) (by simp) ?_
 refine SQ [] [none] fun _ _ g r => ?_
 try simp
 and_intros <;> first | exact g _ (by kernel_rfl) | refine r _ _ _ ?_ | omega | (simp [maxLen] <;> omega)
 refine WK [(0, AV.slc 0 0 1 v0.length false), (1, Lz v1)] [(0, .cells (List.map (AV.int .u8) v0))] 1 (by simp) (by simp) ?_
 refine SQ [] [none, none, none, none, none, none, none, none] fun _ _ g r => ?_
 try simp
 and_intros
 try any_goals first | omega | (simp [maxLen] <;> omega)
 obtain ⟨v3, h1, hF⟩ := bnd1_elim hF
 refine aCall_l (w_beacon_bytes k _ _ _ h1) (by simp) [0] [] [0] rfl (.cons (.same (by simp)) (.cons (Coe.fl (by simp)) .nil)) (by simp) (by decide) (by simp) (by simp) (.inl rfl) (by simp) (by simp) ?_
 try simp
 and_intros
 try any_goals first | omega | (simp [maxLen] <;> omega)
 obtain ⟨v4, h2, hF⟩ := bnd1_elim hF
 refine aCall_l (w_beacon_bytes k _ _ _ h2) (by simp) [1] [] [1] rfl (.cons (.same (by simp)) (.cons (.same (by simp)) .nil)) (by simp) (by decide) (by simp) (by simp) (.inl rfl) (by simp) (by simp) ?_
 try simp
 and_intros <;> first | exact g _ (by kernel_rfl) | refine r _ _ _ ?_ | omega | (simp [maxLen] <;> omega)
 refine WK [(4, AV.slc 2 0 1 v4.length false)] [(2, .cells (List.map (AV.int .u8) v4))] 3 (by simp) (by simp) ?_
 refine AW.rnm (m := 1) h0 [(1, 2)] [(4, AV.slc 1 0 1 v4.length false)] [(1, .cells (List.map (AV.int .u8) v4))] 2 (by decide) (by decide) (by decide) rfl (by simp) (by simp) ?_
 simp only [Option.some.injEq] at hF
 subst hF
 refine AW.ret (hQ _ _ _ ?_ (matchO_0 ?_)).1
 ·simp [Try.f81]
 ·simp
end Go.TF
