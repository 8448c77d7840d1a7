/- Walks: the Go text computes the Lean functions (printed by a program of our own). -/
import Derived.Test.YtmiimcogppdepaaHaPu
import Derived.Test.YtmiimcogppdepaaHaAbsT
import Derived.Test.YtmiimcogppdepaaHaWa0
set_option linter.unusedVariables false
set_option linter.unusedSimpArgs false
set_option maxRecDepth 100000
set_option maxHeartbeats 4000000
namespace Go.TF
open Go Go.Abs Go.Proofs Go.Proofs.YtmiimcogppdepaaHaT
theorem w_made_Light (k : Nat) (v0 : (List Int)) (v1 : Bool) (hF : made_Light k v0 = some v1) :
  FCall Try.prog 9 [AV.lst false false (List.map (AV.int .i64) v0)] [] (AV.bool v1) [] := by
 unfold made_Light at hF
 refine EN Try.func9 ?_
 intro c0 w0 Q h0 hQ
 refine WK [(0, Lz v0)] [] 0 (by simp) (by simp) ?_
 refine SQ [] [none] fun _ _ g r => ?_
 try simp
 and_intros <;> first | exact g _ (by kernel_rfl) | refine r _ _ _ ?_ | omega | (simp [maxLen] <;> omega)
 refine WK [(0, Lz v0)] [] 0 (by simp) (by simp) ?_
 refine SQ [] [none, none, none, none] fun _ _ g r => ?_
 try simp
 and_intros <;> first | exact g _ (by kernel_rfl) | refine r _ _ _ ?_ | omega | (simp [maxLen] <;> omega)
 refine WK [(2, AV.bool (decide ((v0.length : Int) ≤ 400)))] [] 0 (by simp) (by simp) ?_
 simp only [Option.some.injEq] at hF
 subst hF
 refine AW.ret (hQ _ _ _ ?_ (matchO_0 ?_)).1
 ·simp [Try.f9]
 ·simp
theorem w_lists_In (k : Nat) (v0 : Int) (v1 : Int) (v2 : Int) (v3 : Bool) (hF : lists_In k v0 v1 v2 = some v3) :
  FCall Try.prog 56 [AV.int .i64 v0, AV.int .i64 v1, AV.int .i64 v2] [] (AV.bool v3) [] := by
 unfold lists_In at hF
 refine EN Try.func56 ?_
 intro c0 w0 Q h0 hQ
 refine WK [(0, Iz v0), (1, Iz v1), (2, Iz v2)] [] 0 (by simp) (by simp) ?_
 refine SQ [] [none] fun _ _ g r => ?_
 try simp
 and_intros <;> first | exact g _ (by kernel_rfl) | refine r _ _ _ ?_ | omega | (simp [maxLen] <;> omega)
 refine WK [(0, Iz v0), (1, Iz v1), (2, Iz v2)] [] 0 (by simp) (by simp) ?_
 refine SQ [] [none, none, none, none, some (10, true), some (10, true), some (10, true), none, none] fun _ _ g r => ?_
 by_cases h1 : v1 ≤ v0
 ·replace hF := ite_t h1 hF
  have h1_ := h1
  try simp at h1_
  try simp [h1, h1_]
  and_intros <;> first | exact g _ (by kernel_rfl) | refine r _ _ _ ?_ | omega | (simp [h1, h1_, maxLen] <;> omega)
  refine WK [(6, AV.bool (decide (v0 ≤ v2)))] [] 0 (by simp [h1, h1_]) (by simp [h1, h1_]) ?_
  simp only [Option.some.injEq] at hF
  subst hF
  refine AW.ret (hQ _ _ _ ?_ (matchO_0 ?_)).1
  ·simp [Try.f56, h1, h1_]
  ·simp [h1, h1_]
 ·replace hF := ite_f h1 hF
  have h1_ := h1
  try simp at h1_
  try simp [h1, h1_]
  and_intros <;> first | exact g _ (by kernel_rfl) | refine r _ _ _ ?_ | omega | (simp [h1, h1_, maxLen] <;> omega)
  refine WK [(6, AV.bool false)] [] 0 (by simp [h1, h1_]) (by simp [h1, h1_]) ?_
  simp only [Option.some.injEq] at hF
  subst hF
  refine AW.ret (hQ _ _ _ ?_ (matchO_0 ?_)).1
  ·simp [Try.f56, h1, h1_]
  ·simp [h1, h1_]
theorem w_lists_Rising (k : Nat) (v0 : (List Int)) (v1 : Int) (v2 : Int) (v3 : Bool) (hF : lists_Rising k v0 v1 v2 = some v3) :
  FCall Try.prog 51 [AV.lst false false (List.map (AV.int .i64) v0), AV.int .i64 v1, AV.int .i64 v2] [] (AV.bool v3) [] := by
 unfold lists_Rising at hF
 refine EN Try.func51 ?_
 intro c0 w0 Q h0 hQ
 refine WK [(0, Lz v0), (1, Iz v1), (2, Iz v2)] [] 0 (by simp) (by simp) ?_
 refine SQ [] [none] fun _ _ g r => ?_
 try simp
 and_intros <;> first | exact g _ (by kernel_rfl) | refine r _ _ _ ?_ | omega | (simp [maxLen] <;> omega)
 refine WK [(0, Lz v0), (1, Iz v1), (2, Iz v2)] [] 0 (by simp) (by simp) ?_
 refine AW.seq fun K167 hK167 => ?_
 refine SQ [] [none, none, none] fun _ _ g r => ?_
 try simp
 and_intros <;> first | exact g _ (by kernel_rfl) | refine r _ _ _ ?_ | omega | (simp [maxLen] <;> omega)
 refine WK [(0, Lz v0), (1, Iz v1), (2, Iz v2), (9, Lz v0), (10, Iz (v0.length : Int)), (11, Iz 0)] [] 0 (by simp) (by simp) ?_
 refine AW.block ?_
 refine AW.loopF (α := Int) (fun n v4 => lists_Rising.L1 k v0 v1 v2 n v4 = some v3) (fun v4 => [(0, Lz v0), (1, Iz v1), (2, Iz v2), (9, Lz v0), (10, Iz (v0.length : Int)), (11, Iz v4)]) (fun v4 => []) 0 k (0) hF (by simp) (by simp) (by simp) ?_
 rintro (_|n1) v4 hF K207 hK207
 ·try dsimp only at hF
  rw [lists_Rising.L1] at hF; cases hF
 try dsimp only at hF
 rw [lists_Rising.L1] at hF
 refine SQ [] [none] fun _ _ g r => ?_
 try simp
 and_intros <;> first | exact g _ (by kernel_rfl) | refine r _ _ _ ?_ | omega | (simp [maxLen] <;> omega)
 refine WK [(0, Lz v0), (1, Iz v1), (2, Iz v2), (9, Lz v0), (10, Iz (v0.length : Int)), (11, Iz v4), (12, AV.bool (decide (v4 < (v0.length : Int))))] [] 0 (by simp) (by simp) ?_
 refine AW.seq fun K209 hK209 => ?_
 by_cases h1 : v4 < (v0.length : Int)
 ·replace hF := ite_t h1 hF
  have h1_ := h1
  try simp at h1_
  refine CT (by simp [h1, h1_] <;> omega) ?_
  refine AW.skip ?_
  refine hK209 _ _ _ ?_
  refine AW.midF (α := Unit) (fun _ => lists_Rising.J2 k v4 (fun v4_ => lists_Rising.L1 k v0 v1 v2 n1 v4_) = some v3) (fun _ => [(0, Lz v0), (1, Iz v1), (2, Iz v2), (9, Lz v0), (10, Iz (v0.length : Int)), (11, Iz v4)]) (fun _ => []) 0 (fun K216 hK216 => ?_) ?_
  ·refine AW.block ?_
   refine SQ [] [none, none, none, none, none] fun _ _ g r => ?_
   obtain ⟨v5, h2, h3, h4, hF⟩ := idx_elim hF
   have h4_ := get_of h4
   try simp at h4_
   have h3_ := h3
   try simp at h3_
   have F1 := And.intro h1 (And.intro h1_ (And.intro h2 (And.intro h3 (And.intro h4 (And.intro h4_ h3_)))))
   try simp [F1]
   and_intros <;> first | exact g _ (by kernel_rfl) | refine r _ _ _ ?_ | omega | (simp [maxLen, F1] <;> omega)
   refine WK [(0, Lz v0), (1, Iz v1), (2, Iz v2), (7, Iz v4), (8, Iz v5), (9, Lz v0), (10, Iz (v0.length : Int)), (11, Iz v4)] [] 0 (by simp [F1]) (by simp [F1]) ?_
   refine SQ [] [none, none, none, none, some (19, false), some (19, false), some (19, false), none, none, some (24, false), some (24, false), some (24, false), some (27, true), some (27, true), some (27, true), some (27, true), some (27, true), some (27, true), some (27, true), some (24, false), none] fun _ _ g r => ?_
   by_cases h5 : v5 < v1
   ·replace hF := ite_t h5 hF
    have h5_ := h5
    try simp at h5_
    have F2 := And.intro F1 (And.intro h5 h5_)
    try simp [F2]
    and_intros <;> first | exact g _ (by kernel_rfl) | refine r _ _ _ ?_ | omega | (simp [maxLen, F2] <;> omega)
    refine WK [(0, Lz v0), (1, Iz v1), (2, Iz v2), (9, Lz v0), (10, Iz (v0.length : Int)), (11, Iz v4), (36, AV.bool true)] [] 0 (by simp [F2]) (by simp [F2]) ?_
    refine CT (by simp [F2]) ?_
    refine SQ [] [none] fun _ _ g r => ?_
    try simp [F2]
    and_intros <;> first | exact g _ (by kernel_rfl) | refine r _ _ _ ?_ | omega | (simp [maxLen, F2] <;> omega)
    refine WK [(6, AV.bool false)] [] 0 (by simp [F2]) (by simp [F2]) ?_
    simp only [Option.some.injEq] at hF
    subst hF
    refine AW.ret (hQ _ _ _ ?_ (matchO_0 ?_)).1
    ·simp [Try.f51, F2]
    ·simp [F2]
   ·replace hF := ite_f h5 hF
    have h5_ := h5
    try simp at h5_
    by_cases h6 : v2 < v5
    ·replace hF := ite_t h6 hF
     have h6_ := h6
     try simp at h6_
     have F3 := And.intro F1 (And.intro h5 (And.intro h5_ (And.intro h6 h6_)))
     try simp [F3]
     and_intros <;> first | exact g _ (by kernel_rfl) | refine r _ _ _ ?_ | omega | (simp [maxLen, F3] <;> omega)
     refine WK [(0, Lz v0), (1, Iz v1), (2, Iz v2), (9, Lz v0), (10, Iz (v0.length : Int)), (11, Iz v4), (36, AV.bool true)] [] 0 (by simp [F3]) (by simp [F3]) ?_
     refine CT (by simp [F3]) ?_
     refine SQ [] [none] fun _ _ g r => ?_
     try simp [F3]
     and_intros <;> first | exact g _ (by kernel_rfl) | refine r _ _ _ ?_ | omega | (simp [maxLen, F3] <;> omega)
     refine WK [(6, AV.bool false)] [] 0 (by simp [F3]) (by simp [F3]) ?_
     simp only [Option.some.injEq] at hF
     subst hF
     refine AW.ret (hQ _ _ _ ?_ (matchO_0 ?_)).1
     ·simp [Try.f51, F3]
     ·simp [F3]
    ·replace hF := ite_f h6 hF
     have h6_ := h6
     try simp at h6_
     by_cases h7 : 0 < v4
     ·replace hF := ite_t h7 hF
      have h7_ := h7
      try simp at h7_
      obtain ⟨v6, h8, h9, h10, hF⟩ := idx_elim hF
      have h10_ := get_of h10
      try simp at h10_
      have h9_ := h9
      try simp at h9_
      have F4 := And.intro F1 (And.intro h5 (And.intro h5_ (And.intro h6 (And.intro h6_ (And.intro h7 (And.intro h7_ (And.intro h8 (And.intro h9 (And.intro h10 (And.intro h10_ h9_))))))))))
      try simp [F4]
      and_intros <;> first | exact g _ (by kernel_rfl) | refine r _ _ _ ?_ | omega | (simp [maxLen, F4] <;> omega)
      refine WK [(0, Lz v0), (1, Iz v1), (2, Iz v2), (9, Lz v0), (10, Iz (v0.length : Int)), (11, Iz v4), (36, AV.bool (decide (v5 ≤ v6)))] [] 0 (by simp [F4]) (by simp [F4]) ?_
      by_cases h11 : v5 ≤ v6
      ·replace hF := ite_t h11 hF
       have h11_ := h11
       try simp at h11_
       have F5 := And.intro F4 (And.intro h11 h11_)
       refine CT (by simp [F5] <;> omega) ?_
       refine SQ [] [none] fun _ _ g r => ?_
       try simp [F5]
       and_intros <;> first | exact g _ (by kernel_rfl) | refine r _ _ _ ?_ | omega | (simp [maxLen, F5] <;> omega)
       refine WK [(6, AV.bool false)] [] 0 (by simp [F5]) (by simp [F5]) ?_
       simp only [Option.some.injEq] at hF
       subst hF
       refine AW.ret (hQ _ _ _ ?_ (matchO_0 ?_)).1
       ·simp [Try.f51, F5]
       ·simp [F5]
      ·replace hF := ite_f h11 hF
       have h11_ := h11
       try simp at h11_
       have F6 := And.intro F4 (And.intro h11 h11_)
       refine CF (by simp [F6] <;> omega) ?_
       refine AW.skip ?_
       refine hK216 _ _ _ ?_
       exact JN (()) hF (by simp [F6]) (by simp [F6])
     ·replace hF := ite_f h7 hF
      have h7_ := h7
      try simp at h7_
      have F7 := And.intro F1 (And.intro h5 (And.intro h5_ (And.intro h6 (And.intro h6_ (And.intro h7 h7_)))))
      try simp [F7]
      and_intros <;> first | exact g _ (by kernel_rfl) | refine r _ _ _ ?_ | omega | (simp [maxLen, F7] <;> omega)
      refine WK [(0, Lz v0), (1, Iz v1), (2, Iz v2), (9, Lz v0), (10, Iz (v0.length : Int)), (11, Iz v4), (36, AV.bool false)] [] 0 (by simp [F7]) (by simp [F7]) ?_
      refine CF (by simp [F7]) ?_
      refine AW.skip ?_
      refine hK216 _ _ _ ?_
      exact JN (()) hF (by simp [F7]) (by simp [F7])
  ·rintro ⟨⟩ hF
   try dsimp only at hF
   unfold lists_Rising.J2 at hF
   refine RG [] [none, none] fun _ _ g r => ?_
   try simp [h1, h1_]
   and_intros <;> first | exact g _ (by kernel_rfl) | refine r _ _ _ ?_ | omega | (simp [h1, h1_, maxLen] <;> omega)
   refine hK207 _ _ _ ?_
   exact NX (k' := n1) (IntKind.wrap .i64 (v4 + 1)) hF (by simp [h1, h1_]) (by simp [h1, h1_])
 ·replace hF := ite_f h1 hF
  have h1_ := h1
  try simp at h1_
  refine CF (by simp [h1, h1_] <;> omega) ?_
  refine AW.exit ?_
  try simp
  refine hK167 _ _ _ ?_
  refine SQ [] [none] fun _ _ g r => ?_
  try simp [h1, h1_]
  and_intros <;> first | exact g _ (by kernel_rfl) | refine r _ _ _ ?_ | omega | (simp [h1, h1_, maxLen] <;> omega)
  refine WK [(6, AV.bool true)] [] 0 (by simp [h1, h1_]) (by simp [h1, h1_]) ?_
  simp only [Option.some.injEq] at hF
  subst hF
  refine AW.ret (hQ _ _ _ ?_ (matchO_0 ?_)).1
  ·simp [Try.f51, h1, h1_]
  ·simp [h1, h1_]
theorem w_slices_Index_int_int (k : Nat) (v0 : (List Int)) (v1 : Int) (v2 : Int) (hF : slices_Index_int_int k v0 v1 = some v2) :
  FCall Try.prog 69 [AV.lst false false (List.map (AV.int .i64) v0), AV.int .i64 v1] [] (AV.int .i64 v2) [] := by
 unfold slices_Index_int_int at hF
 refine EN Try.func69 ?_
 intro c0 w0 Q h0 hQ
 refine WK [(0, Lz v0), (1, Iz v1)] [] 0 (by simp) (by simp) ?_
 refine SQ [] [none] fun _ _ g r => ?_
 try simp
 and_intros <;> first | exact g _ (by kernel_rfl) | refine r _ _ _ ?_ | omega | (simp [maxLen] <;> omega)
 refine WK [(0, Lz v0), (1, Iz v1)] [] 0 (by simp) (by simp) ?_
 refine AW.seq fun K131 hK131 => ?_
 refine SQ [] [none, none, none] fun _ _ g r => ?_
 try simp
 and_intros <;> first | exact g _ (by kernel_rfl) | refine r _ _ _ ?_ | omega | (simp [maxLen] <;> omega)
 refine WK [(0, Lz v0), (1, Iz v1), (7, Iz (v0.length : Int)), (8, Iz 0)] [] 0 (by simp) (by simp) ?_
 refine AW.block ?_
 refine AW.loopF (α := Int) (fun n v3 => slices_Index_int_int.L1 k v0 v1 n v3 = some v2) (fun v3 => [(0, Lz v0), (1, Iz v1), (7, Iz (v0.length : Int)), (8, Iz v3)]) (fun v3 => []) 0 k (0) hF (by simp) (by simp) (by simp) ?_
 rintro (_|n1) v3 hF K163 hK163
 ·try dsimp only at hF
  rw [slices_Index_int_int.L1] at hF; cases hF
 try dsimp only at hF
 rw [slices_Index_int_int.L1] at hF
 refine SQ [] [none] fun _ _ g r => ?_
 try simp
 and_intros <;> first | exact g _ (by kernel_rfl) | refine r _ _ _ ?_ | omega | (simp [maxLen] <;> omega)
 refine WK [(0, Lz v0), (1, Iz v1), (7, Iz (v0.length : Int)), (8, Iz v3), (9, AV.bool (decide (v3 < (v0.length : Int))))] [] 0 (by simp) (by simp) ?_
 refine AW.seq fun K165 hK165 => ?_
 by_cases h1 : v3 < (v0.length : Int)
 ·replace hF := ite_t h1 hF
  have h1_ := h1
  try simp at h1_
  refine CT (by simp [h1, h1_] <;> omega) ?_
  refine AW.skip ?_
  refine hK165 _ _ _ ?_
  refine AW.seq fun K169 hK169 => ?_
  refine AW.block ?_
  refine SQ [] [none, none] fun _ _ g r => ?_
  try simp [h1, h1_]
  and_intros <;> first | exact g _ (by kernel_rfl) | refine r _ _ _ ?_ | omega | (simp [h1, h1_, maxLen] <;> omega)
  refine WK [(0, Lz v0), (1, Iz v1), (5, Iz v3), (7, Iz (v0.length : Int)), (8, Iz v3)] [] 0 (by simp [h1, h1_]) (by simp [h1, h1_]) ?_
  refine SQ [] [none, none, none, none, none, none] fun _ _ g r => ?_
  obtain ⟨v4, h2, h3, h4, hF⟩ := idx_elim hF
  have h4_ := get_of h4
  try simp at h4_
  have h3_ := h3
  try simp at h3_
  have F1 := And.intro h1 (And.intro h1_ (And.intro h2 (And.intro h3 (And.intro h4 (And.intro h4_ h3_)))))
  try simp [F1]
  and_intros <;> first | exact g _ (by kernel_rfl) | refine r _ _ _ ?_ | omega | (simp [maxLen, F1] <;> omega)
  refine WK [(0, Lz v0), (1, Iz v1), (5, Iz v3), (7, Iz (v0.length : Int)), (8, Iz v3), (16, AV.bool (v1 == v4))] [] 0 (by simp [F1]) (by simp [F1]) ?_
  by_cases h5 : v1 = v4
  ·replace hF := ite_t h5 hF
   have h5q : v1 = v4 := h5
   have h5_ := eqb_t h5q
   have h5__ := neb_f h5q
   have F2 := And.intro F1 (And.intro h5_ h5__)
   refine CT (by simp [F2] <;> omega) ?_
   refine SQ [] [none, none] fun _ _ g r => ?_
   try simp [F2]
   and_intros <;> first | exact g _ (by kernel_rfl) | refine r _ _ _ ?_ | omega | (simp [maxLen, F2] <;> omega)
   refine WK [(4, Iz v3)] [] 0 (by simp [F2]) (by simp [F2]) ?_
   simp only [Option.some.injEq] at hF
   subst hF
   refine AW.ret (hQ _ _ _ ?_ (matchO_0 ?_)).1
   ·simp [Try.f69, F2]
   ·simp [F2]
  ·replace hF := ite_f h5 hF
   have h5_ := eqb_f h5
   have h5__ := neb_t h5
   have F3 := And.intro F1 (And.intro h5 (And.intro h5_ h5__))
   refine CF (by simp [F3] <;> omega) ?_
   refine AW.skip ?_
   refine hK169 _ _ _ ?_
   refine RG [] [none, none] fun _ _ g r => ?_
   try simp [F3]
   and_intros <;> first | exact g _ (by kernel_rfl) | refine r _ _ _ ?_ | omega | (simp [maxLen, F3] <;> omega)
   refine hK163 _ _ _ ?_
   exact NX (k' := n1) (IntKind.wrap .i64 (v3 + 1)) hF (by simp [F3]) (by simp [F3])
 ·replace hF := ite_f h1 hF
  have h1_ := h1
  try simp at h1_
  refine CF (by simp [h1, h1_] <;> omega) ?_
  refine AW.exit ?_
  try simp
  refine hK131 _ _ _ ?_
  refine SQ [] [none] fun _ _ g r => ?_
  try simp [h1, h1_]
  and_intros <;> first | exact g _ (by kernel_rfl) | refine r _ _ _ ?_ | omega | (simp [h1, h1_, maxLen] <;> omega)
  refine WK [(4, Iz (-1))] [] 0 (by simp [h1, h1_]) (by simp [h1, h1_]) ?_
  simp only [Option.some.injEq] at hF
  subst hF
  refine AW.ret (hQ _ _ _ ?_ (matchO_0 ?_)).1
  ·simp [Try.f69, h1, h1_]
  ·simp [h1, h1_]
theorem w_slices_Contains_int_int (k : Nat) (v0 : (List Int)) (v1 : Int) (v2 : Bool) (hF : slices_Contains_int_int k v0 v1 = some v2) :
  FCall Try.prog 45 [AV.lst false false (List.map (AV.int .i64) v0), AV.int .i64 v1] [] (AV.bool v2) [] := by
 unfold slices_Contains_int_int at hF
 refine EN Try.func45 ?_
 intro c0 w0 Q h0 hQ
 refine WK [(0, Lz v0), (1, Iz v1)] [] 0 (by simp) (by simp) ?_
 refine SQ [] [none] fun _ _ g r => ?_
 try simp
 and_intros <;> first | exact g _ (by kernel_rfl) | refine r _ _ _ ?_ | omega | (simp [maxLen] <;> omega)
 refine WK [(0, Lz v0), (1, Iz v1)] [] 0 (by simp) (by simp) ?_
 refine SQ [] [none, none, none, none, none] fun _ _ g r => ?_
 try simp
 and_intros
 try any_goals first | omega | (simp [maxLen] <;> omega)
 obtain ⟨v3, h1, hF⟩ := bnd1_elim hF
 refine AC (w_slices_Index_int_int k _ _ _ h1) (.cons (.same (by simp)) (.cons (.same (by simp)) .nil)) ?_
 try simp
 and_intros <;> first | exact g _ (by kernel_rfl) | refine r _ _ _ ?_ | omega | (simp [maxLen] <;> omega)
 refine WK [(4, AV.bool (decide (0 ≤ v3)))] [] 0 (by simp) (by simp) ?_
 simp only [Option.some.injEq] at hF
 subst hF
 refine AW.ret (hQ _ _ _ ?_ (matchO_0 ?_)).1
 ·simp [Try.f45]
 ·simp
theorem w_graph_fits (k : Nat) (v0 : Int) (v1 : (List api_Edge)) (v2 : (List Int)) (v3 : Int) (v4 : Int) (v5 : Int) (v6 : Bool) (hF : graph_fits k v0 v1 v2 v3 v4 v5 = some v6) :
  FCall Try.prog 72 [AV.agg [AV.int .i64 v0, AV.lst false false (List.map api_Edge.av v1), AV.lst false false (List.map (AV.int .i64) v2)], AV.agg [AV.int .i64 v3, AV.int .i64 v4, AV.int .i64 v5]] [] (AV.bool v6) [] := by
 unfold graph_fits at hF
 refine EN Try.func72 ?_
 intro c0 w0 Q h0 hQ
 refine WK [(0, AV.agg [Iz v0, AV.lst false false (List.map api_Edge.av v1), Lz v2]), (1, AV.agg [Iz v3, Iz v4, Iz v5])] [] 0 (by simp) (by simp) ?_
 refine SQ [] [none, none, none] fun _ _ g r => ?_
 try simp
 and_intros <;> first | exact g _ (by kernel_rfl) | refine r _ _ _ ?_ | omega | (simp [maxLen] <;> omega)
 refine WK [(2, AV.ptr 0 0), (3, AV.ptr 1 0)] [(0, .cells [Iz v0, AV.lst false false (List.map api_Edge.av v1), Lz v2]), (1, .cells [Iz v3, Iz v4, Iz v5])] 2 (by simp) (by simp) ?_
 refine SQ [] [none, none, none, none, none, none, none, some (11, true), some (11, true), some (11, true), some (11, true), some (11, true), some (11, true), none, none, some (19, true), some (19, true), some (19, true), some (19, true), some (19, true), none, none, some (26, true), some (26, true), some (26, true), some (26, true), some (26, true), some (26, true), none, none, some (34, true), some (34, true), some (34, true), some (34, true), some (34, true), some (34, true), none, none] fun _ _ g r => ?_
 try simp
 and_intros
 try any_goals first | omega | (simp [maxLen] <;> omega)
 obtain ⟨v7, h1, hF⟩ := bnd1_elim hF
 refine AC (w_lists_In k _ _ _ _ h1) (.cons (.same (by simp)) (.cons (.same (by simp)) (.cons (.same (by simp)) .nil))) ?_
 by_cases h2 : v7 = true
 ·replace hF := ite_t h2 hF
  have h2_ := h2
  try simp at h2_
  try simp [h2, h2_]
  and_intros
  try any_goals first | omega | (simp [h2, h2_, maxLen] <;> omega)
  obtain ⟨v8, h3, hF⟩ := bnd1_elim hF
  refine AC (w_lists_In k _ _ _ _ h3) (.cons (.same (by simp [h2, h2_])) (.cons (.same (by simp [h2, h2_])) (.cons (.same (by simp [h2, h2_])) .nil))) ?_
  by_cases h4 : v8 = true
  ·replace hF := ite_t h4 hF
   have h4_ := h4
   try simp at h4_
   by_cases h5 : v3 ≠ v4
   ·replace hF := ite_t h5 hF
    have h5_ := eqb_f h5
    have h5__ := neb_t h5
    have F1 := And.intro h2 (And.intro h2_ (And.intro h4 (And.intro h4_ (And.intro h5 (And.intro h5_ h5__)))))
    try simp [F1]
    and_intros
    try any_goals first | omega | (simp [maxLen, F1] <;> omega)
    obtain ⟨v9, h6, hF⟩ := bnd1_elim hF
    refine AC (w_slices_Contains_int_int k _ _ _ h6) (.cons (.same (by simp [F1])) (.cons (.same (by simp [F1])) .nil)) ?_
    by_cases h7 : (!v9) = true
    ·replace hF := ite_t h7 hF
     have h7_ := h7
     try simp at h7_
     have F2 := And.intro F1 (And.intro h7 h7_)
     try simp [F2]
     and_intros
     try any_goals first | omega | (simp [maxLen, F2] <;> omega)
     obtain ⟨v10, h8, hF⟩ := bnd1_elim hF
     refine AC (w_slices_Contains_int_int k _ _ _ h8) (.cons (.same (by simp [F2])) (.cons (.same (by simp [F2])) .nil)) ?_
     try simp [F2]
     and_intros <;> first | exact g _ (by kernel_rfl) | refine r _ _ _ ?_ | omega | (simp [maxLen, F2] <;> omega)
     refine WK [(4, AV.bool (!v10))] [] 2 (by simp [F2]) (by simp [F2]) ?_
     simp only [Option.some.injEq] at hF
     subst hF
     refine AW.ret (hQ _ _ _ ?_ (matchO_0 ?_)).1
     ·simp [Try.f72, F2]
     ·simp [F2]
    ·replace hF := ite_f h7 hF
     have h7_ := h7
     try simp at h7_
     have F3 := And.intro F1 (And.intro h7 h7_)
     try simp [F3]
     and_intros <;> first | exact g _ (by kernel_rfl) | refine r _ _ _ ?_ | omega | (simp [maxLen, F3] <;> omega)
     refine WK [(4, AV.bool false)] [] 2 (by simp [F3]) (by simp [F3]) ?_
     simp only [Option.some.injEq] at hF
     subst hF
     refine AW.ret (hQ _ _ _ ?_ (matchO_0 ?_)).1
     ·simp [Try.f72, F3]
     ·simp [F3]
   ·replace hF := ite_f h5 hF
    have h5q : v3 = v4 := Classical.not_not.1 h5
    have h5_ := eqb_t h5q
    have h5__ := neb_f h5q
    have F4 := And.intro h2 (And.intro h2_ (And.intro h4 (And.intro h4_ (And.intro h5_ h5__))))
    try simp [F4]
    and_intros <;> first | exact g _ (by kernel_rfl) | refine r _ _ _ ?_ | omega | (simp [maxLen, F4] <;> omega)
    refine WK [(4, AV.bool false)] [] 2 (by simp [F4]) (by simp [F4]) ?_
    simp only [Option.some.injEq] at hF
    subst hF
    refine AW.ret (hQ _ _ _ ?_ (matchO_0 ?_)).1
    ·simp [Try.f72, F4]
    ·simp [F4]
  ·replace hF := ite_f h4 hF
   have h4_ := h4
   try simp at h4_
   have F5 := And.intro h2 (And.intro h2_ (And.intro h4 h4_))
   try simp [F5]
   and_intros <;> first | exact g _ (by kernel_rfl) | refine r _ _ _ ?_ | omega | (simp [maxLen, F5] <;> omega)
   refine WK [(4, AV.bool false)] [] 2 (by simp [F5]) (by simp [F5]) ?_
   simp only [Option.some.injEq] at hF
   subst hF
   refine AW.ret (hQ _ _ _ ?_ (matchO_0 ?_)).1
   ·simp [Try.f72, F5]
   ·simp [F5]
 ·replace hF := ite_f h2 hF
  have h2_ := h2
  try simp at h2_
  try simp [h2, h2_]
  and_intros <;> first | exact g _ (by kernel_rfl) | refine r _ _ _ ?_ | omega | (simp [h2, h2_, maxLen] <;> omega)
  refine WK [(4, AV.bool false)] [] 2 (by simp [h2, h2_]) (by simp [h2, h2_]) ?_
  simp only [Option.some.injEq] at hF
  subst hF
  refine AW.ret (hQ _ _ _ ?_ (matchO_0 ?_)).1
  ·simp [Try.f72, h2, h2_]
  ·simp [h2, h2_]
theorem w_cmp_isNaN_int (k : Nat) (v0 : Int) (v1 : Bool) (hF : cmp_isNaN_int k v0 = some v1) :
  FCall Try.prog 95 [AV.int .i64 v0] [] (AV.bool v1) [] := by
 unfold cmp_isNaN_int at hF
 refine EN Try.func95 ?_
 intro c0 w0 Q h0 hQ
 refine WK [(0, Iz v0)] [] 0 (by simp) (by simp) ?_
 refine SQ [] [none] fun _ _ g r => ?_
 try simp
 and_intros <;> first | exact g _ (by kernel_rfl) | refine r _ _ _ ?_ | omega | (simp [maxLen] <;> omega)
 refine WK [(0, Iz v0)] [] 0 (by simp) (by simp) ?_
 refine SQ [] [none, none, none, none] fun _ _ g r => ?_
 try simp
 and_intros <;> first | exact g _ (by kernel_rfl) | refine r _ _ _ ?_ | omega | (simp [maxLen] <;> omega)
 refine WK [(2, AV.bool (v0 != v0))] [] 0 (by simp) (by simp) ?_
 simp only [Option.some.injEq] at hF
 subst hF
 refine AW.ret (hQ _ _ _ ?_ (matchO_0 ?_)).1
 ·simp [Try.f95]
 ·simp
theorem w_cmp_Compare_int (k : Nat) (v0 : Int) (v1 : Int) (v2 : Int) (hF : cmp_Compare_int k v0 v1 = some v2) :
  FCall Try.prog 81 [AV.int .i64 v0, AV.int .i64 v1] [] (AV.int .i64 v2) [] := by
 unfold cmp_Compare_int at hF
 refine EN Try.func81 ?_
 intro c0 w0 Q h0 hQ
 refine WK [(0, Iz v0), (1, Iz v1)] [] 0 (by simp) (by simp) ?_
 refine SQ [] [none] fun _ _ g r => ?_
 try simp
 and_intros <;> first | exact g _ (by kernel_rfl) | refine r _ _ _ ?_ | omega | (simp [maxLen] <;> omega)
 refine WK [(0, Iz v0), (1, Iz v1)] [] 0 (by simp) (by simp) ?_
 refine SQ [] [none, none, none] fun _ _ g r => ?_
 try simp
 and_intros
 try any_goals first | omega | (simp [maxLen] <;> omega)
 obtain ⟨v3, h1, hF⟩ := bnd1_elim hF
 refine AC (w_cmp_isNaN_int k _ _ h1) (.cons (.same (by simp)) .nil) ?_
 try simp
 and_intros <;> first | exact g _ (by kernel_rfl) | refine r _ _ _ ?_ | omega | (simp [maxLen] <;> omega)
 refine WK [(0, Iz v0), (1, Iz v1), (5, AV.bool v3)] [] 0 (by simp) (by simp) ?_
 refine SQ [] [none, none, none] fun _ _ g r => ?_
 try simp
 and_intros
 try any_goals first | omega | (simp [maxLen] <;> omega)
 obtain ⟨v4, h2, hF⟩ := bnd1_elim hF
 refine AC (w_cmp_isNaN_int k _ _ h2) (.cons (.same (by simp)) .nil) ?_
 try simp
 and_intros <;> first | exact g _ (by kernel_rfl) | refine r _ _ _ ?_ | omega | (simp [maxLen] <;> omega)
 refine WK [(0, Iz v0), (1, Iz v1), (5, AV.bool v3), (6, AV.bool v4)] [] 0 (by simp) (by simp) ?_
 refine AW.seq fun K45 hK45 => ?_
 refine SQ [] [none] fun _ _ g r => ?_
 try simp
 and_intros <;> first | exact g _ (by kernel_rfl) | refine r _ _ _ ?_ | omega | (simp [maxLen] <;> omega)
 refine WK [(0, Iz v0), (1, Iz v1), (6, AV.bool v4), (11, AV.bool v3)] [] 0 (by simp) (by simp) ?_
 by_cases h3 : v3 = true
 ·replace hF := ite_t h3 hF
  have h3_ := h3
  try simp at h3_
  refine CT (by simp [h3, h3_] <;> omega) ?_
  refine AW.seq fun K49 hK49 => ?_
  refine SQ [] [none] fun _ _ g r => ?_
  try simp [h3, h3_]
  and_intros <;> first | exact g _ (by kernel_rfl) | refine r _ _ _ ?_ | omega | (simp [h3, h3_, maxLen] <;> omega)
  refine WK [(12, AV.bool v4)] [] 0 (by simp [h3, h3_]) (by simp [h3, h3_]) ?_
  by_cases h4 : v4 = true
  ·replace hF := ite_t h4 hF
   have h4_ := h4
   try simp at h4_
   have F1 := And.intro h3 (And.intro h3_ (And.intro h4 h4_))
   refine CT (by simp [F1] <;> omega) ?_
   refine SQ [] [none] fun _ _ g r => ?_
   try simp [F1]
   and_intros <;> first | exact g _ (by kernel_rfl) | refine r _ _ _ ?_ | omega | (simp [maxLen, F1] <;> omega)
   refine WK [(4, Iz 0)] [] 0 (by simp [F1]) (by simp [F1]) ?_
   simp only [Option.some.injEq] at hF
   subst hF
   refine AW.ret (hQ _ _ _ ?_ (matchO_0 ?_)).1
   ·simp [Try.f81, F1]
   ·simp [F1]
  ·replace hF := ite_f h4 hF
   have h4_ := h4
   try simp at h4_
   have F2 := And.intro h3 (And.intro h3_ (And.intro h4 h4_))
   refine CF (by simp [F2] <;> omega) ?_
   refine AW.skip ?_
   refine hK49 _ _ _ ?_
   refine SQ [] [none] fun _ _ g r => ?_
   try simp [F2]
   and_intros <;> first | exact g _ (by kernel_rfl) | refine r _ _ _ ?_ | omega | (simp [maxLen, F2] <;> omega)
   refine WK [(4, Iz (-1))] [] 0 (by simp [F2]) (by simp [F2]) ?_
   simp only [Option.some.injEq] at hF
   subst hF
   refine AW.ret (hQ _ _ _ ?_ (matchO_0 ?_)).1
   ·simp [Try.f81, F2]
   ·simp [F2]
 ·replace hF := ite_f h3 hF
  have h3_ := h3
  try simp at h3_
  refine CF (by simp [h3, h3_] <;> omega) ?_
  refine AW.skip ?_
  refine hK45 _ _ _ ?_
  refine AW.seq fun K55 hK55 => ?_
  refine SQ [] [none] fun _ _ g r => ?_
  try simp [h3, h3_]
  and_intros <;> first | exact g _ (by kernel_rfl) | refine r _ _ _ ?_ | omega | (simp [h3, h3_, maxLen] <;> omega)
  refine WK [(0, Iz v0), (1, Iz v1), (13, AV.bool v4)] [] 0 (by simp [h3, h3_]) (by simp [h3, h3_]) ?_
  by_cases h5 : v4 = true
  ·replace hF := ite_t h5 hF
   have h5_ := h5
   try simp at h5_
   have F3 := And.intro h3 (And.intro h3_ (And.intro h5 h5_))
   refine CT (by simp [F3] <;> omega) ?_
   refine SQ [] [none] fun _ _ g r => ?_
   try simp [F3]
   and_intros <;> first | exact g _ (by kernel_rfl) | refine r _ _ _ ?_ | omega | (simp [maxLen, F3] <;> omega)
   refine WK [(4, Iz 1)] [] 0 (by simp [F3]) (by simp [F3]) ?_
   simp only [Option.some.injEq] at hF
   subst hF
   refine AW.ret (hQ _ _ _ ?_ (matchO_0 ?_)).1
   ·simp [Try.f81, F3]
   ·simp [F3]
  ·replace hF := ite_f h5 hF
   have h5_ := h5
   try simp at h5_
   have F4 := And.intro h3 (And.intro h3_ (And.intro h5 h5_))
   refine CF (by simp [F4] <;> omega) ?_
   refine AW.skip ?_
   refine hK55 _ _ _ ?_
   refine AW.seq fun K60 hK60 => ?_
   refine SQ [] [none, none, none] fun _ _ g r => ?_
   try simp [F4]
   and_intros <;> first | exact g _ (by kernel_rfl) | refine r _ _ _ ?_ | omega | (simp [maxLen, F4] <;> omega)
   refine WK [(0, Iz v0), (1, Iz v1), (16, AV.bool (decide (v0 < v1)))] [] 0 (by simp [F4]) (by simp [F4]) ?_
   by_cases h6 : v0 < v1
   ·replace hF := ite_t h6 hF
    have h6_ := h6
    try simp at h6_
    have F5 := And.intro F4 (And.intro h6 h6_)
    refine CT (by simp [F5] <;> omega) ?_
    refine SQ [] [none] fun _ _ g r => ?_
    try simp [F5]
    and_intros <;> first | exact g _ (by kernel_rfl) | refine r _ _ _ ?_ | omega | (simp [maxLen, F5] <;> omega)
    refine WK [(4, Iz (-1))] [] 0 (by simp [F5]) (by simp [F5]) ?_
    simp only [Option.some.injEq] at hF
    subst hF
    refine AW.ret (hQ _ _ _ ?_ (matchO_0 ?_)).1
    ·simp [Try.f81, F5]
    ·simp [F5]
   ·replace hF := ite_f h6 hF
    have h6_ := h6
    try simp at h6_
    have F6 := And.intro F4 (And.intro h6 h6_)
    refine CF (by simp [F6] <;> omega) ?_
    refine AW.skip ?_
    refine hK60 _ _ _ ?_
    refine AW.seq fun K65 hK65 => ?_
    refine SQ [] [none, none, none] fun _ _ g r => ?_
    try simp [F6]
    and_intros <;> first | exact g _ (by kernel_rfl) | refine r _ _ _ ?_ | omega | (simp [maxLen, F6] <;> omega)
    refine WK [(19, AV.bool (decide (v1 < v0)))] [] 0 (by simp [F6]) (by simp [F6]) ?_
    by_cases h7 : v1 < v0
    ·replace hF := ite_t h7 hF
     have h7_ := h7
     try simp at h7_
     have F7 := And.intro F6 (And.intro h7 h7_)
     refine CT (by simp [F7] <;> omega) ?_
     refine SQ [] [none] fun _ _ g r => ?_
     try simp [F7]
     and_intros <;> first | exact g _ (by kernel_rfl) | refine r _ _ _ ?_ | omega | (simp [maxLen, F7] <;> omega)
     refine WK [(4, Iz 1)] [] 0 (by simp [F7]) (by simp [F7]) ?_
     simp only [Option.some.injEq] at hF
     subst hF
     refine AW.ret (hQ _ _ _ ?_ (matchO_0 ?_)).1
     ·simp [Try.f81, F7]
     ·simp [F7]
    ·replace hF := ite_f h7 hF
     have h7_ := h7
     try simp at h7_
     have F8 := And.intro F6 (And.intro h7 h7_)
     refine CF (by simp [F8] <;> omega) ?_
     refine AW.skip ?_
     refine hK65 _ _ _ ?_
     refine SQ [] [none] fun _ _ g r => ?_
     try simp [F8]
     and_intros <;> first | exact g _ (by kernel_rfl) | refine r _ _ _ ?_ | omega | (simp [maxLen, F8] <;> omega)
     refine WK [(4, Iz 0)] [] 0 (by simp [F8]) (by simp [F8]) ?_
     simp only [Option.some.injEq] at hF
     subst hF
     refine AW.ret (hQ _ _ _ ?_ (matchO_0 ?_)).1
     ·simp [Try.f81, F8]
     ·simp [F8]
theorem w_cmp_Or_int (k : Nat) (v0 : (List Int)) (v1 : Int) (hF : cmp_Or_int k v0 = some v1) :
  FCall Try.prog 80 [AV.lst false false (List.map (AV.int .i64) v0)] [] (AV.int .i64 v1) [] := by
 unfold cmp_Or_int at hF
 refine EN Try.func80 ?_
 intro c0 w0 Q h0 hQ
 refine WK [(0, Lz v0)] [] 0 (by simp) (by simp) ?_
 refine SQ [] [none] fun _ _ g r => ?_
 try simp
 and_intros <;> first | exact g _ (by kernel_rfl) | refine r _ _ _ ?_ | omega | (simp [maxLen] <;> omega)
 refine WK [(0, Lz v0)] [] 0 (by simp) (by simp) ?_
 refine SQ [] [none] fun _ _ g r => ?_
 try simp
 and_intros <;> first | exact g _ (by kernel_rfl) | refine r _ _ _ ?_ | omega | (simp [maxLen] <;> omega)
 refine WK [(0, Lz v0), (3, Iz 0)] [] 0 (by simp) (by simp) ?_
 refine AW.seq fun K133 hK133 => ?_
 refine SQ [] [none, none, none] fun _ _ g r => ?_
 try simp
 and_intros <;> first | exact g _ (by kernel_rfl) | refine r _ _ _ ?_ | omega | (simp [maxLen] <;> omega)
 refine WK [(3, Iz 0), (6, Lz v0), (7, Iz (v0.length : Int)), (8, Iz 0)] [] 0 (by simp) (by simp) ?_
 refine AW.block ?_
 refine AW.loopF (α := Int) (fun n v2 => cmp_Or_int.L1 k v0 n v2 = some v1) (fun v2 => [(3, Iz 0), (6, Lz v0), (7, Iz (v0.length : Int)), (8, Iz v2)]) (fun v2 => []) 0 k (0) hF (by simp) (by simp) (by simp) ?_
 rintro (_|n1) v2 hF K165 hK165
 ·try dsimp only at hF
  rw [cmp_Or_int.L1] at hF; cases hF
 try dsimp only at hF
 rw [cmp_Or_int.L1] at hF
 refine SQ [] [none] fun _ _ g r => ?_
 try simp
 and_intros <;> first | exact g _ (by kernel_rfl) | refine r _ _ _ ?_ | omega | (simp [maxLen] <;> omega)
 refine WK [(3, Iz 0), (6, Lz v0), (7, Iz (v0.length : Int)), (8, Iz v2), (9, AV.bool (decide (v2 < (v0.length : Int))))] [] 0 (by simp) (by simp) ?_
 refine AW.seq fun K167 hK167 => ?_
 by_cases h1 : v2 < (v0.length : Int)
 ·replace hF := ite_t h1 hF
  have h1_ := h1
  try simp at h1_
  refine CT (by simp [h1, h1_] <;> omega) ?_
  refine AW.skip ?_
  refine hK167 _ _ _ ?_
  refine AW.seq fun K171 hK171 => ?_
  refine AW.block ?_
  refine SQ [] [none, none, none] fun _ _ g r => ?_
  obtain ⟨v3, h2, h3, h4, hF⟩ := idx_elim hF
  have h4_ := get_of h4
  try simp at h4_
  have h3_ := h3
  try simp at h3_
  have F1 := And.intro h1 (And.intro h1_ (And.intro h2 (And.intro h3 (And.intro h4 (And.intro h4_ h3_)))))
  try simp [F1]
  and_intros <;> first | exact g _ (by kernel_rfl) | refine r _ _ _ ?_ | omega | (simp [maxLen, F1] <;> omega)
  refine WK [(3, Iz 0), (5, Iz v3), (6, Lz v0), (7, Iz (v0.length : Int)), (8, Iz v2)] [] 0 (by simp [F1]) (by simp [F1]) ?_
  refine SQ [] [none, none, none] fun _ _ g r => ?_
  try simp [F1]
  and_intros <;> first | exact g _ (by kernel_rfl) | refine r _ _ _ ?_ | omega | (simp [maxLen, F1] <;> omega)
  refine WK [(3, Iz 0), (5, Iz v3), (6, Lz v0), (7, Iz (v0.length : Int)), (8, Iz v2), (14, AV.bool (v3 != 0))] [] 0 (by simp [F1]) (by simp [F1]) ?_
  by_cases h5 : v3 ≠ 0
  ·replace hF := ite_t h5 hF
   have h5_ := eqb_f h5
   have h5__ := neb_t h5
   have F2 := And.intro F1 (And.intro h5 (And.intro h5_ h5__))
   refine CT (by simp [F2] <;> omega) ?_
   refine SQ [] [none, none] fun _ _ g r => ?_
   try simp [F2]
   and_intros <;> first | exact g _ (by kernel_rfl) | refine r _ _ _ ?_ | omega | (simp [maxLen, F2] <;> omega)
   refine WK [(2, Iz v3)] [] 0 (by simp [F2]) (by simp [F2]) ?_
   simp only [Option.some.injEq] at hF
   subst hF
   refine AW.ret (hQ _ _ _ ?_ (matchO_0 ?_)).1
   ·simp [Try.f80, F2]
   ·simp [F2]
  ·replace hF := ite_f h5 hF
   have h5q : v3 = 0 := Classical.not_not.1 h5
   have h5_ := eqb_t h5q
   have h5__ := neb_f h5q
   have F3 := And.intro F1 (And.intro h5_ (And.intro h5__ h5q))
   refine CF (by simp [F3] <;> omega) ?_
   refine AW.skip ?_
   refine hK171 _ _ _ ?_
   refine RG [] [none, none] fun _ _ g r => ?_
   try simp [F3]
   and_intros <;> first | exact g _ (by kernel_rfl) | refine r _ _ _ ?_ | omega | (simp [maxLen, F3] <;> omega)
   refine hK165 _ _ _ ?_
   exact NX (k' := n1) (IntKind.wrap .i64 (v2 + 1)) hF (by simp [F3]) (by simp [F3])
 ·replace hF := ite_f h1 hF
  have h1_ := h1
  try simp at h1_
  refine CF (by simp [h1, h1_] <;> omega) ?_
  refine AW.exit ?_
  try simp
  refine hK133 _ _ _ ?_
  refine SQ [] [none, none] fun _ _ g r => ?_
  try simp [h1, h1_]
  and_intros <;> first | exact g _ (by kernel_rfl) | refine r _ _ _ ?_ | omega | (simp [h1, h1_, maxLen] <;> omega)
  refine WK [(2, Iz 0)] [] 0 (by simp [h1, h1_]) (by simp [h1, h1_]) ?_
  simp only [Option.some.injEq] at hF
  subst hF
  refine AW.ret (hQ _ _ _ ?_ (matchO_0 ?_)).1
  ·simp [Try.f80, h1, h1_]
  ·simp [h1, h1_]
theorem w_graph_compare (k : Nat) (v0 : Int) (v1 : Int) (v2 : Int) (v3 : Int) (v4 : Int) (v5 : Int) (v6 : Int) (hF : graph_compare k v0 v1 v2 v3 v4 v5 = some v6) :
  FCall Try.prog 73 [AV.agg [AV.int .i64 v0, AV.int .i64 v1, AV.int .i64 v2], AV.agg [AV.int .i64 v3, AV.int .i64 v4, AV.int .i64 v5]] [] (AV.int .i64 v6) [] := by
 unfold graph_compare at hF
 refine EN Try.func73 ?_
 intro c0 w0 Q h0 hQ
 refine WK [(0, AV.agg [Iz v0, Iz v1, Iz v2]), (1, AV.agg [Iz v3, Iz v4, Iz v5])] [] 0 (by simp) (by simp) ?_
 refine SQ [] [none, none, none] fun _ _ g r => ?_
 try simp
 and_intros <;> first | exact g _ (by kernel_rfl) | refine r _ _ _ ?_ | omega | (simp [maxLen] <;> omega)
 refine WK [(2, AV.ptr 0 0), (3, AV.ptr 1 0)] [(0, .cells [Iz v0, Iz v1, Iz v2]), (1, .cells [Iz v3, Iz v4, Iz v5])] 2 (by simp) (by simp) ?_
 refine SQ [] [none, none, none, none, none, none, none, none, none, none, none, none, none] fun _ _ g r => ?_
 try simp
 and_intros
 try any_goals first | omega | (simp [maxLen] <;> omega)
 obtain ⟨v7, h1, hF⟩ := bnd1_elim hF
 refine AC (w_cmp_Compare_int k _ _ _ h1) (.cons (.same (by simp)) (.cons (.same (by simp)) .nil)) ?_
 try simp
 and_intros
 try any_goals first | omega | (simp [maxLen] <;> omega)
 obtain ⟨v8, h2, hF⟩ := bnd1_elim hF
 refine AC (w_cmp_Compare_int k _ _ _ h2) (.cons (.same (by simp)) (.cons (.same (by simp)) .nil)) ?_
 try simp
 and_intros
 try any_goals first | omega | (simp [maxLen] <;> omega)
 obtain ⟨v9, h3, hF⟩ := bnd1_elim hF
 refine AC (w_cmp_Or_int k _ _ h3) (.cons (Coe.fl (by simp)) .nil) ?_
 try simp
 and_intros <;> first | exact g _ (by kernel_rfl) | refine r _ _ _ ?_ | omega | (simp [maxLen] <;> omega)
 refine WK [(4, Iz v9)] [] 2 (by simp) (by simp) ?_
 simp only [Option.some.injEq] at hF
 subst hF
 refine AW.ret (hQ _ _ _ ?_ (matchO_0 ?_)).1
 ·simp [Try.f73]
 ·simp
theorem w_graph_Check (k : Nat) (v0 : Int) (v1 : (List api_Edge)) (v2 : (List Int)) (v3 : Int) (hF : graph_Check k v0 v1 v2 = some v3) :
  FCall Try.prog 55 [AV.agg [AV.int .i64 v0, AV.lst false false (List.map api_Edge.av v1), AV.lst false false (List.map (AV.int .i64) v2)]] [] (AV.int .i64 v3) [] := by
 unfold graph_Check at hF
 refine EN Try.func55 ?_
 intro c0 w0 Q h0 hQ
 refine WK [(0, AV.agg [Iz v0, AV.lst false false (List.map api_Edge.av v1), Lz v2])] [] 0 (by simp) (by simp) ?_
 refine SQ [] [none, none] fun _ _ g r => ?_
 try simp
 and_intros <;> first | exact g _ (by kernel_rfl) | refine r _ _ _ ?_ | omega | (simp [maxLen] <;> omega)
 refine WK [(1, AV.ptr 0 0)] [(0, .cells [Iz v0, AV.lst false false (List.map api_Edge.av v1), Lz v2])] 1 (by simp) (by simp) ?_
 refine AW.seq fun K126 hK126 => ?_
 refine SQ [] [none, none, none, none, none, some (9, false), some (9, false), some (9, false), some (9, false), none, none, some (15, false), some (15, false), some (15, false), some (15, false), some (15, false), some (15, false), some (15, false), none] fun _ _ g r => ?_
 try simp
 and_intros
 try any_goals first | omega | (simp [maxLen] <;> omega)
 obtain ⟨v4, h1, hF⟩ := bnd1_elim hF
 refine AC (w_lists_In k _ _ _ _ h1) (.cons (.same (by simp)) (.cons (.same (by simp)) (.cons (.same (by simp)) .nil))) ?_
 by_cases h2 : (!v4) = true
 ·replace hF := ite_t h2 hF
  have h2_ := h2
  try simp at h2_
  try simp [h2, h2_]
  and_intros <;> first | exact g _ (by kernel_rfl) | refine r _ _ _ ?_ | omega | (simp [h2, h2_, maxLen] <;> omega)
  refine WK [(1, AV.ptr 0 0), (23, AV.bool true)] [(0, .cells [Iz v0, AV.lst false false (List.map api_Edge.av v1), Lz v2])] 1 (by simp [h2, h2_]) (by simp [h2, h2_]) ?_
  refine CT (by simp [h2, h2_]) ?_
  refine SQ [] [none] fun _ _ g r => ?_
  try simp [h2, h2_]
  and_intros <;> first | exact g _ (by kernel_rfl) | refine r _ _ _ ?_ | omega | (simp [h2, h2_, maxLen] <;> omega)
  refine WK [(2, Iz 14)] [] 1 (by simp [h2, h2_]) (by simp [h2, h2_]) ?_
  simp only [Option.some.injEq] at hF
  subst hF
  refine AW.ret (hQ _ _ _ ?_ (matchO_0 ?_)).1
  ·simp [Try.f55, h2, h2_]
  ·simp [h2, h2_]
 ·replace hF := ite_f h2 hF
  have h2_ := h2
  try simp at h2_
  by_cases h3 : 500 < (v1.length : Int)
  ·replace hF := ite_t h3 hF
   have h3_ := h3
   try simp at h3_
   have F1 := And.intro h2 (And.intro h2_ (And.intro h3 h3_))
   try simp [F1]
   and_intros <;> first | exact g _ (by kernel_rfl) | refine r _ _ _ ?_ | omega | (simp [maxLen, F1] <;> omega)
   refine WK [(1, AV.ptr 0 0), (23, AV.bool true)] [(0, .cells [Iz v0, AV.lst false false (List.map api_Edge.av v1), Lz v2])] 1 (by simp [F1]) (by simp [F1]) ?_
   refine CT (by simp [F1]) ?_
   refine SQ [] [none] fun _ _ g r => ?_
   try simp [F1]
   and_intros <;> first | exact g _ (by kernel_rfl) | refine r _ _ _ ?_ | omega | (simp [maxLen, F1] <;> omega)
   refine WK [(2, Iz 14)] [] 1 (by simp [F1]) (by simp [F1]) ?_
   simp only [Option.some.injEq] at hF
   subst hF
   refine AW.ret (hQ _ _ _ ?_ (matchO_0 ?_)).1
   ·simp [Try.f55, F1]
   ·simp [F1]
  ·replace hF := ite_f h3 hF
   have h3_ := h3
   try simp at h3_
   have F2 := And.intro h2 (And.intro h2_ (And.intro h3 h3_))
   try simp [F2]
   and_intros
   try any_goals first | omega | (simp [maxLen, F2] <;> omega)
   obtain ⟨v5, h4, hF⟩ := bnd1_elim hF
   refine AC (w_lists_Rising k _ _ _ _ h4) (.cons (.same (by simp [F2])) (.cons (.same (by simp [F2])) (.cons (.same (by simp [F2])) .nil))) ?_
   try simp [F2]
   and_intros <;> first | exact g _ (by kernel_rfl) | refine r _ _ _ ?_ | omega | (simp [maxLen, F2] <;> omega)
   refine WK [(1, AV.ptr 0 0), (23, AV.bool (!v5))] [(0, .cells [Iz v0, AV.lst false false (List.map api_Edge.av v1), Lz v2])] 1 (by simp [F2]) (by simp [F2]) ?_
   by_cases h5 : (!v5) = true
   ·replace hF := ite_t h5 hF
    have h5_ := h5
    try simp at h5_
    have F3 := And.intro F2 (And.intro h5 h5_)
    refine CT (by simp [F3] <;> omega) ?_
    refine SQ [] [none] fun _ _ g r => ?_
    try simp [F3]
    and_intros <;> first | exact g _ (by kernel_rfl) | refine r _ _ _ ?_ | omega | (simp [maxLen, F3] <;> omega)
    refine WK [(2, Iz 14)] [] 1 (by simp [F3]) (by simp [F3]) ?_
    simp only [Option.some.injEq] at hF
    subst hF
    refine AW.ret (hQ _ _ _ ?_ (matchO_0 ?_)).1
    ·simp [Try.f55, F3]
    ·simp [F3]
   ·replace hF := ite_f h5 hF
    have h5_ := h5
    try simp at h5_
    have F4 := And.intro F2 (And.intro h5 h5_)
    refine CF (by simp [F4] <;> omega) ?_
    refine AW.skip ?_
    refine hK126 _ _ _ ?_
    refine AW.seq fun K185 hK185 => ?_
    refine SQ [] [none, none, none, none] fun _ _ g r => ?_
    try simp [F4]
    and_intros <;> first | exact g _ (by kernel_rfl) | refine r _ _ _ ?_ | omega | (simp [maxLen, F4] <;> omega)
    refine WK [(1, AV.ptr 0 0), (25, AV.lst false false (List.map api_Edge.av v1)), (26, Iz (v1.length : Int)), (27, Iz 0)] [(0, .cells [Iz v0, AV.lst false false (List.map api_Edge.av v1), Lz v2])] 1 (by simp [F4]) (by simp [F4]) ?_
    refine AW.block ?_
    refine AW.loopF (α := Int) (fun n v6 => graph_Check.L1 k v0 v1 v2 n v6 = some v3) (fun v6 => [(1, AV.ptr 0 0), (25, AV.lst false false (List.map api_Edge.av v1)), (26, Iz (v1.length : Int)), (27, Iz v6)]) (fun v6 => [(0, .cells [Iz v0, AV.lst false false (List.map api_Edge.av v1), Lz v2])]) 1 k (0) hF (by simp [F4]) (by simp [F4]) (by simp) ?_
    rintro (_|n1) v6 hF K225 hK225
    ·try dsimp only at hF
     rw [graph_Check.L1] at hF; cases hF
    try dsimp only at hF
    rw [graph_Check.L1] at hF
    refine SQ [] [none] fun _ _ g r => ?_
    try simp [F4]
    and_intros <;> first | exact g _ (by kernel_rfl) | refine r _ _ _ ?_ | omega | (simp [maxLen, F4] <;> omega)
    refine WK [(1, AV.ptr 0 0), (25, AV.lst false false (List.map api_Edge.av v1)), (26, Iz (v1.length : Int)), (27, Iz v6), (28, AV.bool (decide (v6 < (v1.length : Int))))] [(0, .cells [Iz v0, AV.lst false false (List.map api_Edge.av v1), Lz v2])] 1 (by simp [F4]) (by simp [F4]) ?_
    refine AW.seq fun K227 hK227 => ?_
    by_cases h6 : v6 < (v1.length : Int)
    ·replace hF := ite_t h6 hF
     have h6_ := h6
     try simp at h6_
     have F5 := And.intro F4 (And.intro h6 h6_)
     refine CT (by simp [F5] <;> omega) ?_
     refine AW.skip ?_
     refine hK227 _ _ _ ?_
     refine AW.midF (α := Unit) (fun _ => graph_Check.J2 k v6 (fun v6_ => graph_Check.L1 k v0 v1 v2 n1 v6_) = some v3) (fun _ => [(1, AV.ptr 0 0), (25, AV.lst false false (List.map api_Edge.av v1)), (26, Iz (v1.length : Int)), (27, Iz v6)]) (fun _ => [(0, .cells [Iz v0, AV.lst false false (List.map api_Edge.av v1), Lz v2])]) 1 (fun K234 hK234 => ?_) ?_
     ·refine AW.block ?_
      refine SQ [] [none, none, none, none, none, none] fun _ _ g r => ?_
      obtain ⟨v7, h7, h8, h9, hF⟩ := idx_elim hF
      have h9_ := get_of h9
      try simp at h9_
      have h8_ := h8
      try simp at h8_
      have F6 := And.intro F5 (And.intro h7 (And.intro h8 (And.intro h9 (And.intro h9_ h8_))))
      try simp [F6]
      and_intros <;> first | exact g _ (by kernel_rfl) | refine r _ _ _ ?_ | omega | (simp [maxLen, F6] <;> omega)
      refine WK [(1, AV.ptr 0 0), (3, Iz v6), (4, AV.ptr 1 0), (25, AV.lst false false (List.map api_Edge.av v1)), (26, Iz (v1.length : Int)), (27, Iz v6)] [(0, .cells [Iz v0, AV.lst false false (List.map api_Edge.av v1), Lz v2]), (1, .cells [Iz v7.From, Iz v7.To, Iz v7.Level])] 2 (by simp [F6]) (by simp [F6]) ?_
      refine SQ [] [none, none, none, none, none, some (36, false), some (36, false), some (36, false), some (36, false), none, none, some (42, false), some (42, false), some (42, false), some (45, true), some (45, true), some (45, true), some (45, true), some (45, true), some (45, true), some (45, true), some (45, true), some (45, true), some (42, false), none] fun _ _ g r => ?_
      try simp [F6]
      and_intros
      try any_goals first | omega | (simp [maxLen, F6] <;> omega)
      obtain ⟨v8, h10, hF⟩ := bnd1_elim hF
      refine AC (w_graph_fits k _ _ _ _ _ _ _ h10) (.cons (.same (by simp [F6])) (.cons (.same (by simp [F6])) .nil)) ?_
      by_cases h11 : (!v8) = true
      ·replace hF := ite_t h11 hF
       have h11_ := h11
       try simp at h11_
       have F7 := And.intro F6 (And.intro h11 h11_)
       try simp [F7]
       and_intros <;> first | exact g _ (by kernel_rfl) | refine r _ _ _ ?_ | omega | (simp [maxLen, F7] <;> omega)
       refine WK [(1, AV.ptr 0 0), (25, AV.lst false false (List.map api_Edge.av v1)), (26, Iz (v1.length : Int)), (27, Iz v6), (56, AV.bool true)] [(0, .cells [Iz v0, AV.lst false false (List.map api_Edge.av v1), Lz v2])] 2 (by simp [F7]) (by simp [F7]) ?_
       refine CT (by simp [F7]) ?_
       refine SQ [] [none] fun _ _ g r => ?_
       try simp [F7]
       and_intros <;> first | exact g _ (by kernel_rfl) | refine r _ _ _ ?_ | omega | (simp [maxLen, F7] <;> omega)
       refine WK [(2, Iz 14)] [] 2 (by simp [F7]) (by simp [F7]) ?_
       simp only [Option.some.injEq] at hF
       subst hF
       refine AW.ret (hQ _ _ _ ?_ (matchO_0 ?_)).1
       ·simp [Try.f55, F7]
       ·simp [F7]
      ·replace hF := ite_f h11 hF
       have h11_ := h11
       try simp at h11_
       have F8 := And.intro F6 (And.intro h11 h11_)
       try simp [F8]
       and_intros
       try any_goals first | omega | (simp [maxLen, F8] <;> omega)
       obtain ⟨v9, h12, hF⟩ := bnd1_elim hF
       refine AC (w_lists_In k _ _ _ _ h12) (.cons (.same (by simp [F8])) (.cons (.same (by simp [F8])) (.cons (.same (by simp [F8])) .nil))) ?_
       by_cases h13 : (!v9) = true
       ·replace hF := ite_t h13 hF
        have h13_ := h13
        try simp at h13_
        have F9 := And.intro F8 (And.intro h13 h13_)
        try simp [F9]
        and_intros <;> first | exact g _ (by kernel_rfl) | refine r _ _ _ ?_ | omega | (simp [maxLen, F9] <;> omega)
        refine WK [(1, AV.ptr 0 0), (25, AV.lst false false (List.map api_Edge.av v1)), (26, Iz (v1.length : Int)), (27, Iz v6), (56, AV.bool true)] [(0, .cells [Iz v0, AV.lst false false (List.map api_Edge.av v1), Lz v2])] 2 (by simp [F9]) (by simp [F9]) ?_
        refine CT (by simp [F9]) ?_
        refine SQ [] [none] fun _ _ g r => ?_
        try simp [F9]
        and_intros <;> first | exact g _ (by kernel_rfl) | refine r _ _ _ ?_ | omega | (simp [maxLen, F9] <;> omega)
        refine WK [(2, Iz 14)] [] 2 (by simp [F9]) (by simp [F9]) ?_
        simp only [Option.some.injEq] at hF
        subst hF
        refine AW.ret (hQ _ _ _ ?_ (matchO_0 ?_)).1
        ·simp [Try.f55, F9]
        ·simp [F9]
       ·replace hF := ite_f h13 hF
        have h13_ := h13
        try simp at h13_
        by_cases h14 : 0 < v6
        ·replace hF := ite_t h14 hF
         have h14_ := h14
         try simp at h14_
         obtain ⟨v10, h15, h16, h17, hF⟩ := idx_elim hF
         have h17_ := get_of h17
         try simp at h17_
         have h16_ := h16
         try simp at h16_
         have F10 := And.intro F8 (And.intro h13 (And.intro h13_ (And.intro h14 (And.intro h14_ (And.intro h15 (And.intro h16 (And.intro h17 (And.intro h17_ h16_))))))))
         try simp [F10]
         and_intros
         try any_goals first | omega | (simp [maxLen, F10] <;> omega)
         obtain ⟨v11, h18, hF⟩ := bnd1_elim hF
         refine AC (w_graph_compare k _ _ _ _ _ _ _ h18) (.cons (.same (by simp [F10])) (.cons (.same (by simp [F10])) .nil)) ?_
         try simp [F10]
         and_intros <;> first | exact g _ (by kernel_rfl) | refine r _ _ _ ?_ | omega | (simp [maxLen, F10] <;> omega)
         refine WK [(1, AV.ptr 0 0), (25, AV.lst false false (List.map api_Edge.av v1)), (26, Iz (v1.length : Int)), (27, Iz v6), (56, AV.bool (decide (0 ≤ v11)))] [(0, .cells [Iz v0, AV.lst false false (List.map api_Edge.av v1), Lz v2])] 2 (by simp [F10]) (by simp [F10]) ?_
         by_cases h19 : 0 ≤ v11
         ·replace hF := ite_t h19 hF
          have h19_ := h19
          try simp at h19_
          have F11 := And.intro F10 (And.intro h19 h19_)
          refine CT (by simp [F11] <;> omega) ?_
          refine SQ [] [none] fun _ _ g r => ?_
          try simp [F11]
          and_intros <;> first | exact g _ (by kernel_rfl) | refine r _ _ _ ?_ | omega | (simp [maxLen, F11] <;> omega)
          refine WK [(2, Iz 14)] [] 2 (by simp [F11]) (by simp [F11]) ?_
          simp only [Option.some.injEq] at hF
          subst hF
          refine AW.ret (hQ _ _ _ ?_ (matchO_0 ?_)).1
          ·simp [Try.f55, F11]
          ·simp [F11]
         ·replace hF := ite_f h19 hF
          have h19_ := h19
          try simp at h19_
          have F12 := And.intro F10 (And.intro h19 h19_)
          refine CF (by simp [F12] <;> omega) ?_
          refine AW.skip ?_
          refine hK234 _ _ _ ?_
          refine RN h0 [(0, 0)] [(1, AV.ptr 0 0), (25, AV.lst false false (List.map api_Edge.av v1)), (26, Iz (v1.length : Int)), (27, Iz v6)] [(0, .cells [Iz v0, AV.lst false false (List.map api_Edge.av v1), Lz v2])] 1 (by simp [F12]) (by simp [F12]) ?_
          exact JN (()) hF (by simp [F12]) (by simp [F12])
        ·replace hF := ite_f h14 hF
         have h14_ := h14
         try simp at h14_
         have F13 := And.intro F8 (And.intro h13 (And.intro h13_ (And.intro h14 h14_)))
         try simp [F13]
         and_intros <;> first | exact g _ (by kernel_rfl) | refine r _ _ _ ?_ | omega | (simp [maxLen, F13] <;> omega)
         refine WK [(1, AV.ptr 0 0), (25, AV.lst false false (List.map api_Edge.av v1)), (26, Iz (v1.length : Int)), (27, Iz v6), (56, AV.bool false)] [(0, .cells [Iz v0, AV.lst false false (List.map api_Edge.av v1), Lz v2])] 2 (by simp [F13]) (by simp [F13]) ?_
         refine CF (by simp [F13]) ?_
         refine AW.skip ?_
         refine hK234 _ _ _ ?_
         refine RN h0 [(0, 0)] [(1, AV.ptr 0 0), (25, AV.lst false false (List.map api_Edge.av v1)), (26, Iz (v1.length : Int)), (27, Iz v6)] [(0, .cells [Iz v0, AV.lst false false (List.map api_Edge.av v1), Lz v2])] 1 (by simp [F13]) (by simp [F13]) ?_
         exact JN (()) hF (by simp [F13]) (by simp [F13])
     ·rintro ⟨⟩ hF
      try dsimp only at hF
      unfold graph_Check.J2 at hF
      refine RG [] [none, none] fun _ _ g r => ?_
      try simp [F5]
      and_intros <;> first | exact g _ (by kernel_rfl) | refine r _ _ _ ?_ | omega | (simp [maxLen, F5] <;> omega)
      refine hK225 _ _ _ ?_
      exact NX (k' := n1) (IntKind.wrap .i64 (v6 + 1)) hF (by simp [F5]) (by simp [F5])
    ·replace hF := ite_f h6 hF
     have h6_ := h6
     try simp at h6_
     have F14 := And.intro F4 (And.intro h6 h6_)
     refine CF (by simp [F14] <;> omega) ?_
     refine AW.exit ?_
     try simp
     refine hK185 _ _ _ ?_
     refine SQ [] [none] fun _ _ g r => ?_
     try simp [F14]
     and_intros <;> first | exact g _ (by kernel_rfl) | refine r _ _ _ ?_ | omega | (simp [maxLen, F14] <;> omega)
     refine WK [(2, Iz 0)] [] 1 (by simp [F14]) (by simp [F14]) ?_
     simp only [Option.some.injEq] at hF
     subst hF
     refine AW.ret (hQ _ _ _ ?_ (matchO_0 ?_)).1
     ·simp [Try.f55, F14]
     ·simp [F14]
theorem w_capacity_Check (k : Nat) (v0 : Int) (v1 : (List api_Edge)) (v2 : (List Int)) (v3 : (List Int)) (v4 : (List Int)) (v5 : Int) (v6 : Int) (hF : capacity_Check k v0 v1 v2 v3 v4 v5 = some v6) :
  FCall Try.prog 35 [AV.agg [AV.int .i64 v0, AV.lst false false (List.map api_Edge.av v1), AV.lst false false (List.map (AV.int .i64) v2)], AV.agg [AV.lst false false (List.map (AV.int .i64) v3), AV.lst false false (List.map (AV.int .i64) v4), AV.int .i64 v5]] [] (AV.int .i64 v6) [] := by
 unfold capacity_Check at hF
 refine EN Try.func35 ?_
 intro c0 w0 Q h0 hQ
 refine WK [(0, AV.agg [Iz v0, AV.lst false false (List.map api_Edge.av v1), Lz v2]), (1, AV.agg [Lz v3, Lz v4, Iz v5])] [] 0 (by simp) (by simp) ?_
 refine SQ [] [none, none, none] fun _ _ g r => ?_
 try simp
 and_intros <;> first | exact g _ (by kernel_rfl) | refine r _ _ _ ?_ | omega | (simp [maxLen] <;> omega)
 refine WK [(2, AV.ptr 0 0), (3, AV.ptr 1 0)] [(0, .cells [Iz v0, AV.lst false false (List.map api_Edge.av v1), Lz v2]), (1, .cells [Lz v3, Lz v4, Iz v5])] 2 (by simp) (by simp) ?_
 refine AW.seq fun K118 hK118 => ?_
 refine SQ [] [none, none, none] fun _ _ g r => ?_
 try simp
 and_intros
 try any_goals first | omega | (simp [maxLen] <;> omega)
 obtain ⟨v7, h1, hF⟩ := bnd1_elim hF
 refine AC (w_graph_Check k _ _ _ _ h1) (.cons (.same (by simp)) .nil) ?_
 try simp
 and_intros <;> first | exact g _ (by kernel_rfl) | refine r _ _ _ ?_ | omega | (simp [maxLen] <;> omega)
 refine WK [(2, AV.ptr 0 0), (3, AV.ptr 1 0), (5, Iz v7)] [(0, .cells [Iz v0, AV.lst false false (List.map api_Edge.av v1), Lz v2]), (1, .cells [Lz v3, Lz v4, Iz v5])] 2 (by simp) (by simp) ?_
 refine SQ [] [none, none] fun _ _ g r => ?_
 try simp
 and_intros <;> first | exact g _ (by kernel_rfl) | refine r _ _ _ ?_ | omega | (simp [maxLen] <;> omega)
 refine WK [(2, AV.ptr 0 0), (3, AV.ptr 1 0), (5, Iz v7), (11, AV.bool (v7 != 0))] [(0, .cells [Iz v0, AV.lst false false (List.map api_Edge.av v1), Lz v2]), (1, .cells [Lz v3, Lz v4, Iz v5])] 2 (by simp) (by simp) ?_
 by_cases h2 : v7 ≠ 0
 ·replace hF := ite_t h2 hF
  have h2_ := eqb_f h2
  have h2__ := neb_t h2
  have F1 := And.intro h2 (And.intro h2_ h2__)
  refine CT (by simp [F1] <;> omega) ?_
  refine SQ [] [none, none] fun _ _ g r => ?_
  try simp [F1]
  and_intros <;> first | exact g _ (by kernel_rfl) | refine r _ _ _ ?_ | omega | (simp [maxLen, F1] <;> omega)
  refine WK [(4, Iz v7)] [] 2 (by simp [F1]) (by simp [F1]) ?_
  simp only [Option.some.injEq] at hF
  subst hF
  refine AW.ret (hQ _ _ _ ?_ (matchO_0 ?_)).1
  ·simp [Try.f35, F1]
  ·simp [F1]
 ·replace hF := ite_f h2 hF
  have h2q : v7 = 0 := Classical.not_not.1 h2
  have h2_ := eqb_t h2q
  have h2__ := neb_f h2q
  refine CF (by simp [h2_, h2__, h2q] <;> omega) ?_
  refine AW.skip ?_
  refine hK118 _ _ _ ?_
  refine AW.seq fun K127 hK127 => ?_
  refine SQ [] [none, none, none, none, none, some (17, false), some (17, false), some (17, false), some (17, false), some (17, false), some (17, false), some (17, false), none, none, some (26, false), some (26, false), some (26, false), some (26, false), some (26, false), none, none, some (33, false), some (33, false), some (33, false), some (33, false), none] fun _ _ g r => ?_
  by_cases h3 : (v3.length : Int) = 0
  ·replace hF := ite_t h3 hF
   have h3q : (v3.length : Int) = 0 := h3
   have h3_ := eqb_t h3q
   have h3__ := neb_f h3q
   have F2 := And.intro h2_ (And.intro h2__ (And.intro h2q (And.intro h3_ (And.intro h3__ h3q))))
   try simp [F2]
   and_intros <;> first | exact g _ (by kernel_rfl) | refine r _ _ _ ?_ | omega | (simp [maxLen, F2] <;> omega)
   refine WK [(3, AV.ptr 1 0), (38, AV.bool true)] [(1, .cells [Lz v3, Lz v4, Iz v5])] 2 (by simp [F2]) (by simp [F2]) ?_
   refine CT (by simp [F2]) ?_
   refine SQ [] [none] fun _ _ g r => ?_
   try simp [F2]
   and_intros <;> first | exact g _ (by kernel_rfl) | refine r _ _ _ ?_ | omega | (simp [maxLen, F2] <;> omega)
   refine WK [(4, Iz 15)] [] 2 (by simp [F2]) (by simp [F2]) ?_
   simp only [Option.some.injEq] at hF
   subst hF
   refine AW.ret (hQ _ _ _ ?_ (matchO_0 ?_)).1
   ·simp [Try.f35, F2]
   ·simp [F2]
  ·replace hF := ite_f h3 hF
   have h3_ := eqb_f h3
   have h3__ := neb_t h3
   have F3 := And.intro h2_ (And.intro h2__ (And.intro h2q (And.intro h3 (And.intro h3_ h3__))))
   try simp [F3]
   and_intros
   try any_goals first | omega | (simp [maxLen, F3] <;> omega)
   obtain ⟨v8, h4, hF⟩ := bnd1_elim hF
   refine AC (w_lists_Rising k _ _ _ _ h4) (.cons (.same (by simp [F3])) (.cons (.same (by simp [F3])) (.cons (.same (by simp [F3])) .nil))) ?_
   by_cases h5 : (!v8) = true
   ·replace hF := ite_t h5 hF
    have h5_ := h5
    try simp at h5_
    have F4 := And.intro F3 (And.intro h5 h5_)
    try simp [F4]
    and_intros <;> first | exact g _ (by kernel_rfl) | refine r _ _ _ ?_ | omega | (simp [maxLen, F4] <;> omega)
    refine WK [(3, AV.ptr 1 0), (38, AV.bool true)] [(1, .cells [Lz v3, Lz v4, Iz v5])] 2 (by simp [F4]) (by simp [F4]) ?_
    refine CT (by simp [F4]) ?_
    refine SQ [] [none] fun _ _ g r => ?_
    try simp [F4]
    and_intros <;> first | exact g _ (by kernel_rfl) | refine r _ _ _ ?_ | omega | (simp [maxLen, F4] <;> omega)
    refine WK [(4, Iz 15)] [] 2 (by simp [F4]) (by simp [F4]) ?_
    simp only [Option.some.injEq] at hF
    subst hF
    refine AW.ret (hQ _ _ _ ?_ (matchO_0 ?_)).1
    ·simp [Try.f35, F4]
    ·simp [F4]
   ·replace hF := ite_f h5 hF
    have h5_ := h5
    try simp at h5_
    have F5 := And.intro F3 (And.intro h5 h5_)
    try simp [F5]
    and_intros
    try any_goals first | omega | (simp [maxLen, F5] <;> omega)
    obtain ⟨v9, h6, hF⟩ := bnd1_elim hF
    refine AC (w_lists_In k _ _ _ _ h6) (.cons (.same (by simp [F5])) (.cons (.same (by simp [F5])) (.cons (.same (by simp [F5])) .nil))) ?_
    by_cases h7 : (!v9) = true
    ·replace hF := ite_t h7 hF
     have h7_ := h7
     try simp at h7_
     have F6 := And.intro F5 (And.intro h7 h7_)
     try simp [F6]
     and_intros <;> first | exact g _ (by kernel_rfl) | refine r _ _ _ ?_ | omega | (simp [maxLen, F6] <;> omega)
     refine WK [(3, AV.ptr 1 0), (38, AV.bool true)] [(1, .cells [Lz v3, Lz v4, Iz v5])] 2 (by simp [F6]) (by simp [F6]) ?_
     refine CT (by simp [F6]) ?_
     refine SQ [] [none] fun _ _ g r => ?_
     try simp [F6]
     and_intros <;> first | exact g _ (by kernel_rfl) | refine r _ _ _ ?_ | omega | (simp [maxLen, F6] <;> omega)
     refine WK [(4, Iz 15)] [] 2 (by simp [F6]) (by simp [F6]) ?_
     simp only [Option.some.injEq] at hF
     subst hF
     refine AW.ret (hQ _ _ _ ?_ (matchO_0 ?_)).1
     ·simp [Try.f35, F6]
     ·simp [F6]
    ·replace hF := ite_f h7 hF
     have h7_ := h7
     try simp at h7_
     have F7 := And.intro F5 (And.intro h7 h7_)
     try simp [F7]
     and_intros
     try any_goals first | omega | (simp [maxLen, F7] <;> omega)
     obtain ⟨v10, h8, hF⟩ := bnd1_elim hF
     refine AC (w_lists_In k _ _ _ _ h8) (.cons (.same (by simp [F7])) (.cons (.same (by simp [F7])) (.cons (.same (by simp [F7])) .nil))) ?_
     try simp [F7]
     and_intros <;> first | exact g _ (by kernel_rfl) | refine r _ _ _ ?_ | omega | (simp [maxLen, F7] <;> omega)
     refine WK [(3, AV.ptr 1 0), (38, AV.bool (!v10))] [(1, .cells [Lz v3, Lz v4, Iz v5])] 2 (by simp [F7]) (by simp [F7]) ?_
     by_cases h9 : (!v10) = true
     ·replace hF := ite_t h9 hF
      have h9_ := h9
      try simp at h9_
      have F8 := And.intro F7 (And.intro h9 h9_)
      refine CT (by simp [F8] <;> omega) ?_
      refine SQ [] [none] fun _ _ g r => ?_
      try simp [F8]
      and_intros <;> first | exact g _ (by kernel_rfl) | refine r _ _ _ ?_ | omega | (simp [maxLen, F8] <;> omega)
      refine WK [(4, Iz 15)] [] 2 (by simp [F8]) (by simp [F8]) ?_
      simp only [Option.some.injEq] at hF
      subst hF
      refine AW.ret (hQ _ _ _ ?_ (matchO_0 ?_)).1
      ·simp [Try.f35, F8]
      ·simp [F8]
     ·replace hF := ite_f h9 hF
      have h9_ := h9
      try simp at h9_
      have F9 := And.intro F7 (And.intro h9 h9_)
      refine CF (by simp [F9] <;> omega) ?_
      refine AW.skip ?_
      refine hK127 _ _ _ ?_
      refine AW.seq fun K179 hK179 => ?_
      refine SQ [] [none, none, none, none] fun _ _ g r => ?_
      try simp [F9]
      and_intros <;> first | exact g _ (by kernel_rfl) | refine r _ _ _ ?_ | omega | (simp [maxLen, F9] <;> omega)
      refine WK [(3, AV.ptr 1 0), (40, Lz v4), (41, Iz (v4.length : Int)), (42, Iz 0)] [(1, .cells [Lz v3, Lz v4, Iz v5])] 2 (by simp [F9]) (by simp [F9]) ?_
      refine AW.block ?_
      refine RM h0 [(0, 1)] [(3, AV.ptr 0 0), (40, Lz v4), (41, Iz (v4.length : Int)), (42, Iz 0)] [(0, .cells [Lz v3, Lz v4, Iz v5])] 1 (by simp [F9]) (by simp [F9]) ?_
      refine AW.loopF (α := Int) (fun n v11 => capacity_Check.L1 k v4 n v11 = some v6) (fun v11 => [(3, AV.ptr 0 0), (40, Lz v4), (41, Iz (v4.length : Int)), (42, Iz v11)]) (fun v11 => [(0, .cells [Lz v3, Lz v4, Iz v5])]) 1 k (0) hF (by simp [F9]) (by simp [F9]) (by simp) ?_
      rintro (_|n1) v11 hF K213 hK213
      ·try dsimp only at hF
       rw [capacity_Check.L1] at hF; cases hF
      try dsimp only at hF
      rw [capacity_Check.L1] at hF
      refine SQ [] [none] fun _ _ g r => ?_
      try simp [F9]
      and_intros <;> first | exact g _ (by kernel_rfl) | refine r _ _ _ ?_ | omega | (simp [maxLen, F9] <;> omega)
      refine WK [(3, AV.ptr 0 0), (40, Lz v4), (41, Iz (v4.length : Int)), (42, Iz v11), (43, AV.bool (decide (v11 < (v4.length : Int))))] [(0, .cells [Lz v3, Lz v4, Iz v5])] 1 (by simp [F9]) (by simp [F9]) ?_
      refine AW.seq fun K215 hK215 => ?_
      by_cases h10 : v11 < (v4.length : Int)
      ·replace hF := ite_t h10 hF
       have h10_ := h10
       try simp at h10_
       have F10 := And.intro F9 (And.intro h10 h10_)
       refine CT (by simp [F10] <;> omega) ?_
       refine AW.skip ?_
       refine hK215 _ _ _ ?_
       refine AW.midF (α := Unit) (fun _ => capacity_Check.J2 k v11 (fun v11_ => capacity_Check.L1 k v4 n1 v11_) = some v6) (fun _ => [(3, AV.ptr 0 0), (40, Lz v4), (41, Iz (v4.length : Int)), (42, Iz v11)]) (fun _ => [(0, .cells [Lz v3, Lz v4, Iz v5])]) 1 (fun K221 hK221 => ?_) ?_
       ·refine AW.block ?_
        refine SQ [] [none, none, none, none, none] fun _ _ g r => ?_
        obtain ⟨v12, h11, h12, h13, hF⟩ := idx_elim hF
        have h13_ := get_of h13
        try simp at h13_
        have h12_ := h12
        try simp at h12_
        have F11 := And.intro F10 (And.intro h11 (And.intro h12 (And.intro h13 (And.intro h13_ h12_))))
        try simp [F11]
        and_intros <;> first | exact g _ (by kernel_rfl) | refine r _ _ _ ?_ | omega | (simp [maxLen, F11] <;> omega)
        refine WK [(3, AV.ptr 0 0), (6, Iz v11), (7, Iz v12), (40, Lz v4), (41, Iz (v4.length : Int)), (42, Iz v11)] [(0, .cells [Lz v3, Lz v4, Iz v5])] 1 (by simp [F11]) (by simp [F11]) ?_
        refine SQ [] [none, none, none, none, some (50, false), some (50, false), some (50, false), some (53, true), some (53, true), some (53, true), some (53, true), some (53, true), some (53, true), some (53, true), some (53, true), some (50, false), none] fun _ _ g r => ?_
        try simp [F11]
        and_intros
        try any_goals first | omega | (simp [maxLen, F11] <;> omega)
        obtain ⟨v13, h14, hF⟩ := bnd1_elim hF
        refine AC (w_lists_In k _ _ _ _ h14) (.cons (.same (by simp [F11])) (.cons (.same (by simp [F11])) (.cons (.same (by simp [F11])) .nil))) ?_
        by_cases h15 : (!v13) = true
        ·replace hF := ite_t h15 hF
         have h15_ := h15
         try simp at h15_
         have F12 := And.intro F11 (And.intro h15 h15_)
         try simp [F12]
         and_intros <;> first | exact g _ (by kernel_rfl) | refine r _ _ _ ?_ | omega | (simp [maxLen, F12] <;> omega)
         refine WK [(3, AV.ptr 0 0), (40, Lz v4), (41, Iz (v4.length : Int)), (42, Iz v11), (63, AV.bool true)] [(0, .cells [Lz v3, Lz v4, Iz v5])] 1 (by simp [F12]) (by simp [F12]) ?_
         refine CT (by simp [F12]) ?_
         refine SQ [] [none] fun _ _ g r => ?_
         try simp [F12]
         and_intros <;> first | exact g _ (by kernel_rfl) | refine r _ _ _ ?_ | omega | (simp [maxLen, F12] <;> omega)
         refine WK [(4, Iz 15)] [] 1 (by simp [F12]) (by simp [F12]) ?_
         simp only [Option.some.injEq] at hF
         subst hF
         refine AW.ret (hQ _ _ _ ?_ (matchO_0 ?_)).1
         ·simp [Try.f35, F12]
         ·simp [F12]
        ·replace hF := ite_f h15 hF
         have h15_ := h15
         try simp at h15_
         by_cases h16 : 0 < v11
         ·replace hF := ite_t h16 hF
          have h16_ := h16
          try simp at h16_
          obtain ⟨v14, h17, h18, h19, hF⟩ := idx_elim hF
          have h19_ := get_of h19
          try simp at h19_
          have h18_ := h18
          try simp at h18_
          have F13 := And.intro F11 (And.intro h15 (And.intro h15_ (And.intro h16 (And.intro h16_ (And.intro h17 (And.intro h18 (And.intro h19 (And.intro h19_ h18_))))))))
          try simp [F13]
          and_intros <;> first | exact g _ (by kernel_rfl) | refine r _ _ _ ?_ | omega | (simp [maxLen, F13] <;> omega)
          refine WK [(3, AV.ptr 0 0), (40, Lz v4), (41, Iz (v4.length : Int)), (42, Iz v11), (63, AV.bool (decide (v14 < v12)))] [(0, .cells [Lz v3, Lz v4, Iz v5])] 1 (by simp [F13]) (by simp [F13]) ?_
          by_cases h20 : v14 < v12
          ·replace hF := ite_t h20 hF
           have h20_ := h20
           try simp at h20_
           have F14 := And.intro F13 (And.intro h20 h20_)
           refine CT (by simp [F14] <;> omega) ?_
           refine SQ [] [none] fun _ _ g r => ?_
           try simp [F14]
           and_intros <;> first | exact g _ (by kernel_rfl) | refine r _ _ _ ?_ | omega | (simp [maxLen, F14] <;> omega)
           refine WK [(4, Iz 15)] [] 1 (by simp [F14]) (by simp [F14]) ?_
           simp only [Option.some.injEq] at hF
           subst hF
           refine AW.ret (hQ _ _ _ ?_ (matchO_0 ?_)).1
           ·simp [Try.f35, F14]
           ·simp [F14]
          ·replace hF := ite_f h20 hF
           have h20_ := h20
           try simp at h20_
           have F15 := And.intro F13 (And.intro h20 h20_)
           refine CF (by simp [F15] <;> omega) ?_
           refine AW.skip ?_
           refine hK221 _ _ _ ?_
           exact JN (()) hF (by simp [F15]) (by simp [F15])
         ·replace hF := ite_f h16 hF
          have h16_ := h16
          try simp at h16_
          have F16 := And.intro F11 (And.intro h15 (And.intro h15_ (And.intro h16 h16_)))
          try simp [F16]
          and_intros <;> first | exact g _ (by kernel_rfl) | refine r _ _ _ ?_ | omega | (simp [maxLen, F16] <;> omega)
          refine WK [(3, AV.ptr 0 0), (40, Lz v4), (41, Iz (v4.length : Int)), (42, Iz v11), (63, AV.bool false)] [(0, .cells [Lz v3, Lz v4, Iz v5])] 1 (by simp [F16]) (by simp [F16]) ?_
          refine CF (by simp [F16]) ?_
          refine AW.skip ?_
          refine hK221 _ _ _ ?_
          exact JN (()) hF (by simp [F16]) (by simp [F16])
       ·rintro ⟨⟩ hF
        try dsimp only at hF
        unfold capacity_Check.J2 at hF
        refine RG [] [none, none] fun _ _ g r => ?_
        try simp [F10]
        and_intros <;> first | exact g _ (by kernel_rfl) | refine r _ _ _ ?_ | omega | (simp [maxLen, F10] <;> omega)
        refine hK213 _ _ _ ?_
        exact NX (k' := n1) (IntKind.wrap .i64 (v11 + 1)) hF (by simp [F10]) (by simp [F10])
      ·replace hF := ite_f h10 hF
       have h10_ := h10
       try simp at h10_
       have F17 := And.intro F9 (And.intro h10 h10_)
       refine CF (by simp [F17] <;> omega) ?_
       refine AW.exit ?_
       try simp
       refine hK179 _ _ _ ?_
       refine SQ [] [none] fun _ _ g r => ?_
       try simp [F17]
       and_intros <;> first | exact g _ (by kernel_rfl) | refine r _ _ _ ?_ | omega | (simp [maxLen, F17] <;> omega)
       refine WK [(4, Iz 0)] [] 1 (by simp [F17]) (by simp [F17]) ?_
       simp only [Option.some.injEq] at hF
       subst hF
       refine AW.ret (hQ _ _ _ ?_ (matchO_0 ?_)).1
       ·simp [Try.f35, F17]
       ·simp [F17]
theorem w_split_Entry (k : Nat) (v0 : Int) (v1 : Int) (hF : split_Entry k v0 = some v1) :
  FCall Try.prog 29 [AV.int .i64 v0] [] (AV.int .i64 v1) [] := by
 unfold split_Entry at hF
 refine EN Try.func29 ?_
 intro c0 w0 Q h0 hQ
 refine WK [(0, Iz v0)] [] 0 (by simp) (by simp) ?_
 refine SQ [] [none] fun _ _ g r => ?_
 try simp
 and_intros <;> first | exact g _ (by kernel_rfl) | refine r _ _ _ ?_ | omega | (simp [maxLen] <;> omega)
 refine WK [(0, Iz v0)] [] 0 (by simp) (by simp) ?_
 refine SQ [] [none, none, none, none] fun _ _ g r => ?_
 try simp
 and_intros <;> first | exact g _ (by kernel_rfl) | refine r _ _ _ ?_ | omega | (simp [maxLen] <;> omega)
 refine WK [(2, Iz (IntKind.wrap .i64 (2 + IntKind.wrap .i64 (2 * v0))))] [] 0 (by simp) (by simp) ?_
 simp only [Option.some.injEq] at hF
 subst hF
 refine AW.ret (hQ _ _ _ ?_ (matchO_0 ?_)).1
 ·simp [Try.f29]
 ·simp
theorem w_slices_Clone_api_Edge_api_Edge (k : Nat) (v0 : (List api_Edge)) (v1 : (List api_Edge)) (hF : slices_Clone_api_Edge_api_Edge k v0 = some v1) :
  FCall Try.prog 75 [AV.lst false false (List.map api_Edge.av v0)] [] (AV.slc 0 0 3 v1.length false) [some (.grow (flatA (List.map api_Edge.av v1)))] := by
 unfold slices_Clone_api_Edge_api_Edge at hF
 obtain ⟨h1, hF⟩ := chk_elim hF
 simp only [Option.some.injEq] at hF
 subst hF
 refine EN Try.func75 ?_
 intro c0 w0 Q h0 hQ
 refine WK [(0, AV.lst false false (List.map api_Edge.av v0))] [] 0 (by simp) (by simp) ?_
 refine SQ [] [none] fun _ _ g r => ?_
 simp
 refine ⟨g _ (by kernel_rfl), r _ _ _ ?_⟩
 refine WK [(0, AV.lst false false (List.map api_Edge.av v0))] [] 0 (by simp) (by simp) ?_
 refine AW.nilSplit (fl := false) (xs := List.map api_Edge.av v0) 0 (by decide) (by simp) (fun hx => ?_) ?_
 ·simp at hx
  subst hx
  refine WK [(0, AV.lst true false [])] [] 0 (by simp) (by simp) ?_
  refine AW.seq fun K2 hK2 => ?_
  refine SQ [] [none, none] fun _ _ g r => ?_
  simp
  refine ⟨g _ (by kernel_rfl), r _ _ _ ?_⟩
  refine WK [(4, AV.bool true)] [] 0 (by simp) (by simp) ?_
  refine CT (by simp) ?_
  refine SQ [] [none] fun _ _ g r => ?_
  simp
  refine ⟨g _ (by kernel_rfl), r _ _ _ ?_⟩
  refine WK [(2, AV.lst true true [])] [] 0 (by simp) (by simp) ?_
  refine AW.own' 2 3 true (by simp) (by decide) ?_
  refine AW.ret (hQ _ _ _ ?_ (matchO_0 ?_)).1
  ·simp [Try.f75]
  ·simp
 ·refine WK [(0, AV.nn (AV.lst false false (List.map api_Edge.av v0)))] [] 0 (by simp) (by simp) ?_
  refine AW.seq fun K2 hK2 => ?_
  refine SQ [] [none, none] fun _ _ g r => ?_
  simp
  refine ⟨g _ (by kernel_rfl), r _ _ _ ?_⟩
  refine WK [(0, AV.nn (AV.lst false false (List.map api_Edge.av v0))), (4, AV.bool false)] [] 0 (by simp) (by simp) ?_
  refine AW.flg [(0, AV.lst false false (List.map api_Edge.av v0))] [] ⟨.nn, trivial⟩ trivial (by decide) ?_
  refine WK [(0, AV.lst false false (List.map api_Edge.av v0)), (4, AV.bool false)] [] 0 (by simp) (by simp) ?_
  refine CF (by simp) ?_
  refine AW.skip ?_
  refine hK2 _ _ _ ?_
  refine SQ [7] [none, none, none, none] fun _ _ g r => ?_
  simp
  and_intros <;> first | exact g _ (by kernel_rfl) | refine r _ _ _ ?_ | omega | (unfold maxLen; omega)
  refine WK [(2, AV.slc 0 0 3 v0.length false)] [(0, .grow (flatA (List.map api_Edge.av v0)))] 1 (by simp) (by simp) ?_
  refine AW.ret (hQ _ _ _ ?_ (matchO_0 ?_)).1
  ·simp [Try.f75]
  ·simp
theorem w_slices_Clone_int_int (k : Nat) (v0 : (List Int)) (v1 : (List Int)) (hF : slices_Clone_int_int k v0 = some v1) :
  FCall Try.prog 76 [AV.lst false false (List.map (AV.int .i64) v0)] [] (AV.slc 0 0 1 v1.length false) [some (.grow (List.map (AV.int .i64) v1))] := by
 unfold slices_Clone_int_int at hF
 obtain ⟨h1, hF⟩ := chk_elim hF
 simp only [Option.some.injEq] at hF
 subst hF
 refine EN Try.func76 ?_
 intro c0 w0 Q h0 hQ
 refine WK [(0, Lz v0)] [] 0 (by simp) (by simp) ?_
 refine SQ [] [none] fun _ _ g r => ?_
 simp
 refine ⟨g _ (by kernel_rfl), r _ _ _ ?_⟩
 refine WK [(0, Lz v0)] [] 0 (by simp) (by simp) ?_
 refine AW.nilSplit (fl := false) (xs := List.map (AV.int .i64) v0) 0 (by decide) (by simp) (fun hx => ?_) ?_
 ·simp at hx
  subst hx
  refine WK [(0, AV.lst true false [])] [] 0 (by simp) (by simp) ?_
  refine AW.seq fun K2 hK2 => ?_
  refine SQ [] [none, none] fun _ _ g r => ?_
  simp
  refine ⟨g _ (by kernel_rfl), r _ _ _ ?_⟩
  refine WK [(4, AV.bool true)] [] 0 (by simp) (by simp) ?_
  refine CT (by simp) ?_
  refine SQ [] [none] fun _ _ g r => ?_
  simp
  refine ⟨g _ (by kernel_rfl), r _ _ _ ?_⟩
  refine WK [(2, AV.lst true true [])] [] 0 (by simp) (by simp) ?_
  refine AW.own' 2 1 true (by simp) (by decide) ?_
  refine AW.ret (hQ _ _ _ ?_ (matchO_0 ?_)).1
  ·simp [Try.f76]
  ·simp
 ·refine WK [(0, AV.nn (Lz v0))] [] 0 (by simp) (by simp) ?_
  refine AW.seq fun K2 hK2 => ?_
  refine SQ [] [none, none] fun _ _ g r => ?_
  simp
  refine ⟨g _ (by kernel_rfl), r _ _ _ ?_⟩
  refine WK [(0, AV.nn (Lz v0)), (4, AV.bool false)] [] 0 (by simp) (by simp) ?_
  refine AW.flg [(0, Lz v0)] [] ⟨.nn, trivial⟩ trivial (by decide) ?_
  refine WK [(0, Lz v0), (4, AV.bool false)] [] 0 (by simp) (by simp) ?_
  refine CF (by simp) ?_
  refine AW.skip ?_
  refine hK2 _ _ _ ?_
  refine SQ [7] [none, none, none, none] fun _ _ g r => ?_
  simp
  and_intros <;> first | exact g _ (by kernel_rfl) | refine r _ _ _ ?_ | omega | (unfold maxLen; omega)
  refine WK [(2, AV.slc 0 0 1 v0.length false)] [(0, .grow (List.map (AV.int .i64) v0))] 1 (by simp) (by simp) ?_
  refine AW.ret (hQ _ _ _ ?_ (matchO_0 ?_)).1
  ·simp [Try.f76]
  ·simp
theorem w_graph_copied_o (k : Nat) (v0 : Int) (v1 : (List api_Edge)) (v2 : (List Int)) (v3 : Int) (v4 : (List api_Edge)) (v5 : (List Int)) (hF : graph_copied_o k v0 v1 v2 = some (v3, v4, v5)) :
  FCall Try.prog 66 [AV.agg [AV.int .i64 v0, AV.lst false false (List.map api_Edge.av v1), AV.lst false false (List.map (AV.int .i64) v2)]] [] (AV.agg [AV.int .i64 v3, AV.slc 0 0 3 v4.length false, AV.slc 1 0 1 v5.length false]) [some (.grow (flatA (List.map api_Edge.av v4))), some (.grow (List.map (AV.int .i64) v5))] := by
 unfold graph_copied_o at hF
 refine EN Try.func66 ?_
 intro c0 w0 Q h0 hQ
 refine WK [(0, AV.agg [Iz v0, AV.lst false false (List.map api_Edge.av v1), Lz v2])] [] 0 (by simp) (by simp) ?_
 refine SQ [] [none, none] fun _ _ g r => ?_
 try simp
 and_intros <;> first | exact g _ (by kernel_rfl) | refine r _ _ _ ?_ | omega | (simp [maxLen] <;> omega)
 refine WK [(1, AV.ptr 0 0), (2, AV.ptr 1 0)] [(0, .cells [Iz v0, AV.lst false false (List.map api_Edge.av v1), Lz v2]), (1, .cells [Iz 0, AV.lst true true (List.map api_Edge.av ([] : List api_Edge)), AV.lst true true (List.map (AV.int .i64) ([] : List Int))])] 2 (by simp) (by simp) ?_
 refine SQ [] [none, none, none, none, none, none, none, none, none, none] fun _ _ g r => ?_
 try simp
 and_intros
 try any_goals first | omega | (simp [maxLen] <;> omega)
 obtain ⟨v6, h1, hF⟩ := bnd1_elim hF
 refine AC (w_slices_Clone_api_Edge_api_Edge k _ _ h1) (.cons (.same (by simp)) .nil) ?_
 try simp
 and_intros
 try any_goals first | omega | (simp [maxLen] <;> omega)
 obtain ⟨v7, h2, hF⟩ := bnd1_elim hF
 refine AC (w_slices_Clone_int_int k _ _ h2) (.cons (.same (by simp)) .nil) ?_
 try simp
 and_intros <;> first | exact g _ (by kernel_rfl) | refine r _ _ _ ?_ | omega | (simp [maxLen] <;> omega)
 refine RM h0 [(0, 2), (1, 3), (2, 1)] [(2, AV.ptr 2 0)] [(0, .grow (flatA (List.map api_Edge.av v6))), (1, .grow (List.map (AV.int .i64) v7)), (2, .cells [Iz v0, AV.slc 0 0 3 v6.length false, AV.slc 1 0 1 v7.length false])] 3 (by simp) (by simp) ?_
 simp only [Option.some.injEq, Prod.mk.injEq] at hF
 obtain ⟨e0, e1, e2⟩ := hF
 subst e0 e1 e2
 refine AW.ret (hQ _ _ _ ?_ (matchO_0 ?_)).1
 ·simp [Try.f66]
 ·simp
theorem w_graph_Level_1 (k : Nat) (v0 : Int) (v1 : Int) (v2 : Int) (v3 : Int) (v4 : Bool) (hF : graph_Level_1 k v0 v1 v2 v3 = some v4) :
  FCall Try.prog 68 [AV.agg [AV.int .i64 v0, AV.int .i64 v1, AV.int .i64 v2], AV.ptr 0 0] [.cells [AV.int .i64 v3]] (AV.bool v4) [some (.cells [AV.int .i64 v3])] := by
 unfold graph_Level_1 at hF
 refine EN Try.func68 ?_
 intro c0 w0 Q h0 hQ
 refine WK [(0, AV.agg [Iz v0, Iz v1, Iz v2]), (1, AV.ptr 0 0)] [(0, .cells [Iz v3])] 1 (by simp) (by simp) ?_
 refine SQ [] [none, none] fun _ _ g r => ?_
 try simp
 and_intros <;> first | exact g _ (by kernel_rfl) | refine r _ _ _ ?_ | omega | (simp [maxLen] <;> omega)
 refine WK [(1, AV.ptr 0 0), (2, AV.ptr 1 0)] [(0, .cells [Iz v3]), (1, .cells [Iz v0, Iz v1, Iz v2])] 2 (by simp) (by simp) ?_
 refine SQ [] [none, none, none, none, none] fun _ _ g r => ?_
 try simp
 and_intros <;> first | exact g _ (by kernel_rfl) | refine r _ _ _ ?_ | omega | (simp [maxLen] <;> omega)
 refine WK [(3, AV.bool (decide (v2 < v3)))] [(0, .cells [Iz v3])] 2 (by simp) (by simp) ?_
 simp only [Option.some.injEq] at hF
 subst hF
 refine AW.ret (hQ _ _ _ ?_ (matchO_0 ?_)).1
 ·simp [Try.f68]
 ·simp
theorem w_slices_IndexFunc_api_Edge_api_Edge_Level_1 (k : Nat) (v0 : (List api_Edge)) (v1 : Int) (v2 : Int) (hF : slices_IndexFunc_api_Edge_api_Edge_Level_1 k v0 v1 = some v2) :
  FCall Try.prog 77 [AV.lst false false (List.map api_Edge.av v0), AV.fn 68 [AV.ptr 0 0]] [.cells [AV.int .i64 v1]] (AV.int .i64 v2) [some (.cells [AV.int .i64 v1])] := by
 unfold slices_IndexFunc_api_Edge_api_Edge_Level_1 at hF
 refine EN Try.func77 ?_
 intro c0 w0 Q h0 hQ
 refine WK [(0, AV.lst false false (List.map api_Edge.av v0)), (1, AV.fn 68 [AV.ptr 0 0])] [(0, .cells [Iz v1])] 1 (by simp) (by simp) ?_
 refine SQ [] [none] fun _ _ g r => ?_
 try simp
 and_intros <;> first | exact g _ (by kernel_rfl) | refine r _ _ _ ?_ | omega | (simp [maxLen] <;> omega)
 refine WK [(0, AV.lst false false (List.map api_Edge.av v0)), (1, AV.fn 68 [AV.ptr 0 0])] [(0, .cells [Iz v1])] 1 (by simp) (by simp) ?_
 refine AW.seq fun K131 hK131 => ?_
 refine SQ [] [none, none, none] fun _ _ g r => ?_
 try simp
 and_intros <;> first | exact g _ (by kernel_rfl) | refine r _ _ _ ?_ | omega | (simp [maxLen] <;> omega)
 refine WK [(0, AV.lst false false (List.map api_Edge.av v0)), (1, AV.fn 68 [AV.ptr 0 0]), (7, Iz (v0.length : Int)), (8, Iz 0)] [(0, .cells [Iz v1])] 1 (by simp) (by simp) ?_
 refine AW.block ?_
 refine AW.loopF (α := Int) (fun n v3 => slices_IndexFunc_api_Edge_api_Edge_Level_1.L1 k v0 v1 n v3 = some v2) (fun v3 => [(0, AV.lst false false (List.map api_Edge.av v0)), (1, AV.fn 68 [AV.ptr 0 0]), (7, Iz (v0.length : Int)), (8, Iz v3)]) (fun v3 => [(0, .cells [Iz v1])]) 1 k (0) hF (by simp) (by simp) (by simp) ?_
 rintro (_|n1) v3 hF K163 hK163
 ·try dsimp only at hF
  rw [slices_IndexFunc_api_Edge_api_Edge_Level_1.L1] at hF; cases hF
 try dsimp only at hF
 rw [slices_IndexFunc_api_Edge_api_Edge_Level_1.L1] at hF
 refine SQ [] [none] fun _ _ g r => ?_
 try simp
 and_intros <;> first | exact g _ (by kernel_rfl) | refine r _ _ _ ?_ | omega | (simp [maxLen] <;> omega)
 refine WK [(0, AV.lst false false (List.map api_Edge.av v0)), (1, AV.fn 68 [AV.ptr 0 0]), (7, Iz (v0.length : Int)), (8, Iz v3), (9, AV.bool (decide (v3 < (v0.length : Int))))] [(0, .cells [Iz v1])] 1 (by simp) (by simp) ?_
 refine AW.seq fun K165 hK165 => ?_
 by_cases h1 : v3 < (v0.length : Int)
 ·replace hF := ite_t h1 hF
  have h1_ := h1
  try simp at h1_
  refine CT (by simp [h1, h1_] <;> omega) ?_
  refine AW.skip ?_
  refine hK165 _ _ _ ?_
  refine AW.seq fun K169 hK169 => ?_
  refine AW.block ?_
  refine SQ [] [none, none] fun _ _ g r => ?_
  try simp [h1, h1_]
  and_intros <;> first | exact g _ (by kernel_rfl) | refine r _ _ _ ?_ | omega | (simp [h1, h1_, maxLen] <;> omega)
  refine WK [(0, AV.lst false false (List.map api_Edge.av v0)), (1, AV.fn 68 [AV.ptr 0 0]), (5, Iz v3), (7, Iz (v0.length : Int)), (8, Iz v3)] [(0, .cells [Iz v1])] 1 (by simp [h1, h1_]) (by simp [h1, h1_]) ?_
  refine SQ [] [none, none, none, none, none, none] fun _ _ g r => ?_
  obtain ⟨v4, h2, h3, h4, hF⟩ := idx_elim hF
  have h4_ := get_of h4
  try simp at h4_
  have h3_ := h3
  try simp at h3_
  have F1 := And.intro h1 (And.intro h1_ (And.intro h2 (And.intro h3 (And.intro h4 (And.intro h4_ h3_)))))
  try simp [F1]
  and_intros
  try any_goals first | omega | (simp [maxLen, F1] <;> omega)
  obtain ⟨v5, h5, hF⟩ := bnd1_elim hF
  refine aCall_l (w_graph_Level_1 k _ _ _ _ _ h5) (by simp) [0] [] [] rfl (.cons (.same (by simp [F1])) (.cons (.same (by simp [F1])) .nil)) (by simp [F1]) (by decide) (by simp) (by simp) (.inl rfl) (by simp) (by simp) ?_
  try simp [F1]
  and_intros <;> first | exact g _ (by kernel_rfl) | refine r _ _ _ ?_ | omega | (simp [maxLen, F1] <;> omega)
  refine WK [(0, AV.lst false false (List.map api_Edge.av v0)), (1, AV.fn 68 [AV.ptr 0 0]), (5, Iz v3), (7, Iz (v0.length : Int)), (8, Iz v3), (16, AV.bool v5)] [(0, .cells [Iz v1])] 1 (by simp [F1]) (by simp [F1]) ?_
  by_cases h6 : v5 = true
  ·replace hF := ite_t h6 hF
   have h6_ := h6
   try simp at h6_
   have F2 := And.intro F1 (And.intro h6 h6_)
   refine CT (by simp [F2] <;> omega) ?_
   refine SQ [] [none, none] fun _ _ g r => ?_
   try simp [F2]
   and_intros <;> first | exact g _ (by kernel_rfl) | refine r _ _ _ ?_ | omega | (simp [maxLen, F2] <;> omega)
   refine WK [(4, Iz v3)] [(0, .cells [Iz v1])] 1 (by simp [F2]) (by simp [F2]) ?_
   simp only [Option.some.injEq] at hF
   subst hF
   refine AW.ret (hQ _ _ _ ?_ (matchO_0 ?_)).1
   ·simp [Try.f77, F2]
   ·simp [F2]
  ·replace hF := ite_f h6 hF
   have h6_ := h6
   try simp at h6_
   have F3 := And.intro F1 (And.intro h6 h6_)
   refine CF (by simp [F3] <;> omega) ?_
   refine AW.skip ?_
   refine hK169 _ _ _ ?_
   refine RG [] [none, none] fun _ _ g r => ?_
   try simp [F3]
   and_intros <;> first | exact g _ (by kernel_rfl) | refine r _ _ _ ?_ | omega | (simp [maxLen, F3] <;> omega)
   refine hK163 _ _ _ ?_
   exact NX (k' := n1) (IntKind.wrap .i64 (v3 + 1)) hF (by simp [F3]) (by simp [F3])
 ·replace hF := ite_f h1 hF
  have h1_ := h1
  try simp at h1_
  refine CF (by simp [h1, h1_] <;> omega) ?_
  refine AW.exit ?_
  try simp
  refine hK131 _ _ _ ?_
  refine SQ [] [none] fun _ _ g r => ?_
  try simp [h1, h1_]
  and_intros <;> first | exact g _ (by kernel_rfl) | refine r _ _ _ ?_ | omega | (simp [h1, h1_, maxLen] <;> omega)
  refine WK [(4, Iz (-1))] [(0, .cells [Iz v1])] 1 (by simp [h1, h1_]) (by simp [h1, h1_]) ?_
  simp only [Option.some.injEq] at hF
  subst hF
  refine AW.ret (hQ _ _ _ ?_ (matchO_0 ?_)).1
  ·simp [Try.f77, h1, h1_]
  ·simp [h1, h1_]
theorem w_slices_DeleteFunc_api_Edge_api_Edge_Level_1_o (k : Nat) (v0 : (List api_Edge)) (v1 : Int) (v2 : (List api_Edge)) (hF : slices_DeleteFunc_api_Edge_api_Edge_Level_1_o k v0 v1 = some v2) :
  FCall Try.prog 67 [AV.slc 0 0 3 v0.length false, AV.fn 68 [AV.ptr 1 0]] [.grow (flatA (List.map api_Edge.av v0)), .cells [AV.int .i64 v1]] (AV.lst false false (List.map api_Edge.av v2)) [none, some (.cells [AV.int .i64 v1])] := by
 unfold slices_DeleteFunc_api_Edge_api_Edge_Level_1_o at hF
 refine EN Try.func67 ?_
 intro c0 w0 Q h0 hQ
 refine WK [(0, AV.slc 0 0 3 v0.length false), (1, AV.fn 68 [AV.ptr 1 0])] [(0, .grow (flatA (List.map api_Edge.av v0))), (1, .cells [Iz v1])] 2 (by simp) (by simp) ?_
 refine SQ [] [none] fun _ _ g r => ?_
 try simp
 and_intros <;> first | exact g _ (by kernel_rfl) | refine r _ _ _ ?_ | omega | (simp [maxLen] <;> omega)
 refine WK [(0, AV.slc 0 0 3 v0.length false), (1, AV.fn 68 [AV.ptr 1 0])] [(0, .grow (flatA (List.map api_Edge.av v0))), (1, .cells [Iz v1])] 2 (by simp) (by simp) ?_
 refine SQ [] [none, none, none, none] fun _ _ g r => ?_
 try simp
 and_intros
 try any_goals first | omega | (simp [maxLen] <;> omega)
 obtain ⟨v3, h1, hF⟩ := bnd1_elim hF
 refine aCall_l (w_slices_IndexFunc_api_Edge_api_Edge_Level_1 k _ _ _ h1) (by simp) [1] [0] [] rfl (.cons (Coe.l (o := .grow (flatA (List.map api_Edge.av v0))) (by simp) rfl (by simp) (by simp [noIdsL]) (by simp) (by simp)) (.cons (.same (by simp)) .nil)) (by simp) (by decide) (by simp) (by simp) (.inr ⟨by simp, by simp⟩) (by simp) (by simp) ?_
 try simp
 and_intros <;> first | exact g _ (by kernel_rfl) | refine r _ _ _ ?_ | omega | (simp [maxLen] <;> omega)
 refine WK [(0, AV.slc 0 0 3 v0.length false), (1, AV.fn 68 [AV.ptr 1 0]), (5, Iz v3)] [(0, .grow (flatA (List.map api_Edge.av v0))), (1, .cells [Iz v1])] 2 (by simp) (by simp) ?_
 refine AW.seq fun K123 hK123 => ?_
 refine SQ [] [none, none] fun _ _ g r => ?_
 try simp
 and_intros <;> first | exact g _ (by kernel_rfl) | refine r _ _ _ ?_ | omega | (simp [maxLen] <;> omega)
 refine WK [(0, AV.slc 0 0 3 v0.length false), (1, AV.fn 68 [AV.ptr 1 0]), (5, Iz v3), (12, AV.bool (v3 == (-1)))] [(0, .grow (flatA (List.map api_Edge.av v0))), (1, .cells [Iz v1])] 2 (by simp) (by simp) ?_
 by_cases h2 : v3 = (-1)
 ·replace hF := ite_t h2 hF
  have h2q : v3 = (-1) := h2
  have h2_ := eqb_t h2q
  have h2__ := neb_f h2q
  have F1 := And.intro h2_ (And.intro h2__ h2q)
  refine CT (by simp [F1] <;> omega) ?_
  refine SQ [] [none, none] fun _ _ g r => ?_
  try simp [F1]
  and_intros <;> first | exact g _ (by kernel_rfl) | refine r _ _ _ ?_ | omega | (simp [maxLen, F1] <;> omega)
  refine WK [(4, AV.slc 0 0 3 v0.length false)] [(0, .grow (flatA (List.map api_Edge.av v0))), (1, .cells [Iz v1])] 2 (by simp [F1]) (by simp [F1]) ?_
  refine WK [(4, AV.slc 0 0 3 v0.length false)] [(0, .grow (flatA (List.map api_Edge.av v0))), (1, .cells [Iz v1])] 2 (by simp [F1]) (by simp [F1]) ?_
  refine AW.frz 0 (o := .grow (flatA (List.map api_Edge.av v0))) (by simp [F1]) rfl [(4, AV.lst false false (List.map api_Edge.av v0))] [] ⟨(.l (by simp) (by simp) (by simp) (by simp)), trivial⟩ trivial ?_
  simp only [Option.some.injEq] at hF
  subst hF
  refine AW.ret (hQ _ _ _ ?_ (matchO_0 ?_)).1
  ·simp [Try.f67, F1]
  ·simp [F1]
 ·replace hF := ite_f h2 hF
  have h2_ := eqb_f h2
  have h2__ := neb_t h2
  have F2 := And.intro h2 (And.intro h2_ h2__)
  refine CF (by simp [F2] <;> omega) ?_
  refine AW.skip ?_
  refine hK123 _ _ _ ?_
  refine AW.seq fun K180 hK180 => ?_
  refine SQ [] [none, none, none] fun _ _ g r => ?_
  try simp [F2]
  and_intros <;> first | exact g _ (by kernel_rfl) | refine r _ _ _ ?_ | omega | (simp [maxLen, F2] <;> omega)
  refine WK [(0, AV.slc 0 0 3 v0.length false), (1, AV.fn 68 [AV.ptr 1 0]), (5, Iz v3), (6, Iz (IntKind.wrap .i64 (v3 + 1)))] [(0, .grow (flatA (List.map api_Edge.av v0))), (1, .cells [Iz v1])] 2 (by simp [F2]) (by simp [F2]) ?_
  refine AW.block ?_
  refine AW.loopF (α := (Int × Int × (List api_Edge))) (fun n (v4, v5, v6) => slices_DeleteFunc_api_Edge_api_Edge_Level_1_o.L1 k v1 n v4 v5 v6 = some v2) (fun (v4, v5, v6) => [(0, AV.slc 0 0 3 v6.length false), (1, AV.fn 68 [AV.ptr 1 0]), (5, Iz v4), (6, Iz v5)]) (fun (v4, v5, v6) => [(0, .grow (flatA (List.map api_Edge.av v6))), (1, .cells [Iz v1])]) 2 k ((v3, IntKind.wrap .i64 (v3 + 1), v0)) hF (by simp [F2]) (by simp [F2]) (by simp) ?_
  rintro (_|n1) ⟨v4, v5, v6⟩ hF K221 hK221
  ·try dsimp only at hF
   rw [slices_DeleteFunc_api_Edge_api_Edge_Level_1_o.L1] at hF; cases hF
  try dsimp only at hF
  rw [slices_DeleteFunc_api_Edge_api_Edge_Level_1_o.L1] at hF
  refine AW.seq fun K223 hK223 => ?_
  refine SQ [] [none, none, none, none] fun _ _ g r => ?_
  try simp [F2]
  and_intros <;> first | exact g _ (by kernel_rfl) | refine r _ _ _ ?_ | omega | (simp [maxLen, F2] <;> omega)
  refine WK [(0, AV.slc 0 0 3 v6.length false), (1, AV.fn 68 [AV.ptr 1 0]), (5, Iz v4), (6, Iz v5), (19, AV.bool (decide (v5 < (v6.length : Int))))] [(0, .grow (flatA (List.map api_Edge.av v6))), (1, .cells [Iz v1])] 2 (by simp [F2]) (by simp [F2]) ?_
  by_cases h3 : v5 < (v6.length : Int)
  ·replace hF := ite_t h3 hF
   have h3_ := h3
   try simp at h3_
   have F3 := And.intro F2 (And.intro h3 h3_)
   refine CT (by simp [F3] <;> omega) ?_
   refine AW.skip ?_
   refine hK223 _ _ _ ?_
   refine AW.midF (α := ((List api_Edge) × Int)) (fun (v7, v8) => slices_DeleteFunc_api_Edge_api_Edge_Level_1_o.J2 k v5 (fun v4_ v5_ v6_ => slices_DeleteFunc_api_Edge_api_Edge_Level_1_o.L1 k v1 n1 v4_ v5_ v6_) v7 v8 = some v2) (fun (v7, v8) => [(0, AV.slc 0 0 3 v7.length false), (1, AV.fn 68 [AV.ptr 1 0]), (5, Iz v8), (6, Iz v5)]) (fun (v7, v8) => [(0, .grow (flatA (List.map api_Edge.av v7))), (1, .cells [Iz v1])]) 2 (fun K230 hK230 => ?_) ?_
   ·refine AW.block ?_
    refine SQ [] [none, none, none, none, none, none] fun _ _ g r => ?_
    obtain ⟨v9, h4, h5, h6, hF⟩ := idx_elim hF
    have h6_ := get_of h6
    try simp at h6_
    have h5_ := h5
    try simp at h5_
    have h7 := flat_ne (F := api_Edge.av) (es := 3) (fun _ => rfl) (by decide) h5
    have h8 := flat_len (F := api_Edge.av) (es := 3) (fun _ => rfl) v6
    have h9 := flat_dropd (F := api_Edge.av) (es := 3) (fun _ => rfl) h6 0 (by decide)
    try simp only [Nat.add_zero] at h9
    have F4 := And.intro F3 (And.intro h4 (And.intro h5 (And.intro h6 (And.intro h6_ (And.intro h5_ (And.intro h7 (And.intro h8 h9)))))))
    try simp [F4]
    and_intros <;> first | exact g _ (by kernel_rfl) | refine r _ _ _ ?_ | omega | (simp [maxLen, F4] <;> omega)
    refine WK [(0, AV.slc 0 0 3 v6.length false), (1, AV.fn 68 [AV.ptr 1 0]), (5, Iz v4), (6, Iz v5), (7, AV.ptr 2 0)] [(0, .grow (flatA (List.map api_Edge.av v6))), (1, .cells [Iz v1]), (2, .cells [Iz v9.From, Iz v9.To, Iz v9.Level])] 3 (by simp [F4]) (by simp [F4]) ?_
    refine SQ [] [none, none, none, none] fun _ _ g r => ?_
    try simp [F4]
    and_intros
    try any_goals first | omega | (simp [maxLen, F4] <;> omega)
    obtain ⟨v10, h10, hF⟩ := bnd1_elim hF
    refine aCall_l (w_graph_Level_1 k _ _ _ _ _ h10) (by simp) [1] [] [] rfl (.cons (.same (by simp [F4])) (.cons (.same (by simp [F4])) .nil)) (by simp [F4]) (by decide) (by simp) (by simp) (.inl rfl) (by simp) (by simp) ?_
    try simp [F4]
    and_intros <;> first | exact g _ (by kernel_rfl) | refine r _ _ _ ?_ | omega | (simp [maxLen, F4] <;> omega)
    refine WK [(0, AV.slc 0 0 3 v6.length false), (1, AV.fn 68 [AV.ptr 1 0]), (5, Iz v4), (6, Iz v5), (7, AV.ptr 2 0), (29, AV.bool (!v10))] [(0, .grow (flatA (List.map api_Edge.av v6))), (1, .cells [Iz v1]), (2, .cells [Iz v9.From, Iz v9.To, Iz v9.Level])] 3 (by simp [F4]) (by simp [F4]) ?_
    by_cases h11 : (!v10) = true
    ·replace hF := ite_t h11 hF
     have h11_ := h11
     try simp at h11_
     have F5 := And.intro F4 (And.intro h11 h11_)
     refine CT (by simp [F5] <;> omega) ?_
     refine SQ [] [none, none, none, none, none] fun _ _ g r => ?_
     obtain ⟨v11, h12, h13, h14, hF⟩ := idx_elim hF
     have h14_ := get_of h14
     try simp at h14_
     have h13_ := h13
     try simp at h13_
     have h15 := flat_ne (F := api_Edge.av) (es := 3) (fun _ => rfl) (by decide) h13
     have h16 := flat_len (F := api_Edge.av) (es := 3) (fun _ => rfl) v6
     have h17 := flat_dropd (F := api_Edge.av) (es := 3) (fun _ => rfl) h14 0 (by decide)
     try simp only [Nat.add_zero] at h17
     have h18 := flat_set (F := api_Edge.av) (es := 3) (x' := v9) (d := 0) (zs := [Iz v9.From, Iz v9.To, Iz v9.Level]) (fun _ => rfl) h14 (by simp) (by simp)
     try simp only [Nat.add_zero] at h18
     have h18_ := h18
     try simp at h18_
     have h19 := set_get (x' := v9) h14
     have F6 := And.intro F5 (And.intro h12 (And.intro h13 (And.intro h14 (And.intro h14_ (And.intro h13_ (And.intro h15 (And.intro h16 (And.intro h17 (And.intro h18 (And.intro h18_ h19))))))))))
     try simp [F6]
     and_intros <;> first | exact g _ (by kernel_rfl) | refine r _ _ _ ?_ | omega | (simp [maxLen, F6] <;> omega)
     refine WK [(0, AV.slc 0 0 3 ((v6.set (v4).toNat v9).length) false), (1, AV.fn 68 [AV.ptr 1 0]), (5, Iz v4), (6, Iz v5)] [(0, .grow (flatA (List.map api_Edge.av (v6.set (v4).toNat v9)))), (1, .cells [Iz v1])] 3 (by simp [F6]) (by simp [F6]) ?_
     refine RG [] [none, none, none] fun _ _ g r => ?_
     try simp [F6]
     and_intros <;> first | exact g _ (by kernel_rfl) | refine r _ _ _ ?_ | omega | (simp [maxLen, F6] <;> omega)
     refine hK230 _ _ _ ?_
     refine Can.weak [(0, AV.slc 0 0 3 ((v6.set (v4).toNat v9).length) false), (1, AV.fn 68 [AV.ptr 1 0]), (5, Iz (IntKind.wrap .i64 (v4 + 1))), (6, Iz v5)] [(0, .grow (flatA (List.map api_Edge.av (v6.set (v4).toNat v9)))), (1, .cells [Iz v1])] 3 (by simp [F6]) (by simp [F6]) (by simp) ?_
     refine Can.ren (m := 2) h0 [(0, 0), (1, 1)] [(0, AV.slc 0 0 3 ((v6.set (v4).toNat v9).length) false), (1, AV.fn 68 [AV.ptr 1 0]), (5, Iz (IntKind.wrap .i64 (v4 + 1))), (6, Iz v5)] [(0, .grow (flatA (List.map api_Edge.av (v6.set (v4).toNat v9)))), (1, .cells [Iz v1])] 2 (by decide) (by decide) (by decide) rfl (by simp [F6]) (by simp [F6]) ?_
     exact JN ((v6.set (v4).toNat v9, IntKind.wrap .i64 (v4 + 1))) hF (by simp [F6]) (by simp [F6])
    ·replace hF := ite_f h11 hF
     have h11_ := h11
     try simp at h11_
     have F7 := And.intro F4 (And.intro h11 h11_)
     refine CF (by simp [F7] <;> omega) ?_
     refine AW.skip ?_
     refine hK230 _ _ _ ?_
     refine Can.ren (m := 2) h0 [(0, 0), (1, 1)] [(0, AV.slc 0 0 3 v6.length false), (1, AV.fn 68 [AV.ptr 1 0]), (5, Iz v4), (6, Iz v5)] [(0, .grow (flatA (List.map api_Edge.av v6))), (1, .cells [Iz v1])] 2 (by decide) (by decide) (by decide) rfl (by simp [F7]) (by simp [F7]) ?_
     exact JN ((v6, v4)) hF (by simp [F7]) (by simp [F7])
   ·rintro ⟨v7, v8⟩ hF
    try dsimp only at hF
    unfold slices_DeleteFunc_api_Edge_api_Edge_Level_1_o.J2 at hF
    refine RG [] [none, none, none] fun _ _ g r => ?_
    try simp [F3]
    and_intros <;> first | exact g _ (by kernel_rfl) | refine r _ _ _ ?_ | omega | (simp [maxLen, F3] <;> omega)
    refine hK221 _ _ _ ?_
    exact NX (k' := n1) ((v8, IntKind.wrap .i64 (v5 + 1), v7)) hF (by simp [F3]) (by simp [F3])
  ·replace hF := ite_f h3 hF
   have h3_ := h3
   try simp at h3_
   have F8 := And.intro F2 (And.intro h3 h3_)
   refine CF (by simp [F8] <;> omega) ?_
   refine AW.exit ?_
   try simp
   refine hK180 _ _ _ ?_
   refine SQ [] [none, none, none, none] fun _ _ g r => ?_
   obtain ⟨⟨h20, h21⟩, hF⟩ := chk_elim hF
   have h20_ := h20
   try simp at h20_
   have h21_ := h21
   try simp at h21_
   obtain ⟨⟨h24, h22⟩, hF⟩ := chk_elim hF
   have h24n := ne_of_pos h24
   have h24f := flat_ne (F := api_Edge.av) (es := 3) (fun _ => rfl) (by decide) h24
   have h23 := setR_end (F := api_Edge.av) (es := 3) (fun _ => rfl) v6 (api_Edge.mk 0 0 0) h22
   obtain ⟨v12, h25, hF⟩ := let1_elim hF
   rw [h25] at h23
   have h23_ := h23
   try simp at h23_
   have h25l : v12.length = v6.length := by rw [← h25]; simp <;> omega
   have h25p : 0 < v12.length := by omega
   have h25n := ne_of_pos h25p
   have h25f := flat_ne (F := api_Edge.av) (es := 3) (fun _ => rfl) (by decide) h25p
   have F9 := And.intro F8 (And.intro h20 (And.intro h21 (And.intro h20_ (And.intro h21_ (And.intro h23 (And.intro h23_ (And.intro h24n (And.intro h24f (And.intro h24 (And.intro h22 (And.intro h25l (And.intro h25p (And.intro h25n h25f)))))))))))))
   try simp [F9]
   and_intros <;> first | exact g _ (by kernel_rfl) | refine r _ _ _ ?_ | omega | (simp [maxLen, F9] <;> omega)
   refine WK [(0, AV.slc 0 0 3 v12.length false), (5, Iz v4)] [(0, .grow (flatA (List.map api_Edge.av v12))), (1, .cells [Iz v1])] 2 (by simp [F9]) (by simp [F9]) ?_
   refine SQ [] [none, none, none, none] fun _ _ g r => ?_
   obtain ⟨⟨h26, h27⟩, hF⟩ := chk_elim hF
   have h26_ := h26
   try simp at h26_
   have h27_ := h27
   try simp at h27_
   have F10 := And.intro F9 (And.intro h26 (And.intro h27 (And.intro h26_ h27_)))
   try simp [F10]
   and_intros <;> first | exact g _ (by kernel_rfl) | refine r _ _ _ ?_ | omega | (simp [maxLen, F10] <;> omega)
   refine WK [(4, AV.slc 0 (0 * 3) 3 ((v4).toNat) false)] [(0, .grow (flatA (List.map api_Edge.av v12))), (1, .cells [Iz v1])] 2 (by simp [F10]) (by simp [F10]) ?_
   refine WK [(4, AV.slc 0 (0 * 3) 3 ((v4).toNat) false)] [(0, .grow (flatA (List.map api_Edge.av v12))), (1, .cells [Iz v1])] 2 (by simp [F10]) (by simp [F10]) ?_
   refine AW.frz 0 (o := .grow (flatA (List.map api_Edge.av v12))) (by simp [F10]) rfl [(4, AV.lst false false (List.map api_Edge.av (v12.take ((v4).toNat))))] [] ⟨(.lst (by simp) (by simp) (by simp [flatA_sub, F10] <;> omega) (flat_part0 (len := (v4).toNat) (F := api_Edge.av) (es := 3) (fun _ => rfl) v12 (by omega)) rfl), trivial⟩ trivial ?_
   simp only [Option.some.injEq] at hF
   subst hF
   refine AW.ret (hQ _ _ _ ?_ (matchO_0 ?_)).1
   ·simp [Try.f67, F10]
   ·simp [F10]
abbrev c_graph_Level_o  : AObj := .cells [Iz 0, AV.lst true true (List.map api_Edge.av ([] : List api_Edge)), AV.lst true true (List.map (AV.int .i64) ([] : List Int))]
theorem w_graph_Level_o (k : Nat) (v0 : Int) (v1 : (List api_Edge)) (v2 : (List Int)) (v3 : Int) (v4 : Int) (v5 : (List api_Edge)) (v6 : (List Int)) (hF : graph_Level_o k v0 v1 v2 v3 = some (v4, v5, v6)) :
  FCall Try.prog 44 [AV.agg [AV.int .i64 v0, AV.lst false false (List.map api_Edge.av v1), AV.lst false false (List.map (AV.int .i64) v2)], AV.int .i64 v3] [] (AV.agg [AV.int .i64 v4, AV.lst false false (List.map api_Edge.av v5), AV.slc 0 0 1 v6.length false]) [some (.grow (List.map (AV.int .i64) v6))] := by
 unfold graph_Level_o at hF
 refine EN Try.func44 ?_
 intro c0 w0 Q h0 hQ
 refine WK [(0, AV.agg [Iz v0, AV.lst false false (List.map api_Edge.av v1), Lz v2]), (1, Iz v3)] [] 0 (by simp) (by simp) ?_
 refine SQ [] [none, none, none] fun _ _ g r => ?_
 try simp
 and_intros <;> first | exact g _ (by kernel_rfl) | refine r _ _ _ ?_ | omega | (simp [maxLen] <;> omega)
 refine WK [(2, AV.ptr 0 0), (3, AV.ptr 1 0), (4, AV.ptr 2 0)] [(0, .cells [Iz v0, AV.lst false false (List.map api_Edge.av v1), Lz v2]), (1, .cells [Iz v3]), (2, c_graph_Level_o )] 3 (by simp) (by simp) ?_
 refine SQ [] [none, none, none, none] fun _ _ g r => ?_
 try simp
 and_intros
 try any_goals first | omega | (simp [maxLen] <;> omega)
 obtain ⟨v7, v8, v9, h1, hF⟩ := bnd3_elim hF
 refine AC (w_graph_copied_o k _ _ _ _ _ _ h1) (.cons (.same (by simp)) .nil) ?_
 try simp
 and_intros <;> first | exact g _ (by kernel_rfl) | refine r _ _ _ ?_ | omega | (simp [maxLen] <;> omega)
 refine WK [(3, AV.ptr 1 0), (4, AV.ptr 2 0), (5, AV.ptr 5 0)] [(1, .cells [Iz v3]), (2, c_graph_Level_o ), (3, .grow (flatA (List.map api_Edge.av v8))), (4, .grow (List.map (AV.int .i64) v9)), (5, .cells [Iz v7, AV.slc 3 0 3 v8.length false, AV.slc 4 0 1 v9.length false])] 6 (by simp) (by simp) ?_
 refine SQ [] [none, none, none, none, none, none] fun _ _ g r => ?_
 try simp
 and_intros
 try any_goals first | omega | (simp [maxLen] <;> omega)
 obtain ⟨v10, h2, hF⟩ := bnd1_elim hF
 refine aCall_l (w_slices_DeleteFunc_api_Edge_api_Edge_Level_1_o k _ _ _ h2) (by simp) [3, 1] [] [3] rfl (.cons (.same (by simp)) (.cons (.same (by simp)) .nil)) (by simp) (by decide) (by simp) (by simp) (.inl rfl) (by simp) (by simp) ?_
 try simp
 and_intros <;> first | exact g _ (by kernel_rfl) | refine r _ _ _ ?_ | omega | (simp [maxLen] <;> omega)
 refine WK [(4, AV.ptr 2 0), (5, AV.ptr 5 0)] [(2, c_graph_Level_o ), (4, .grow (List.map (AV.int .i64) v9)), (5, .cells [Iz v7, AV.lst false false (List.map api_Edge.av v10), AV.slc 4 0 1 v9.length false])] 6 (by simp) (by simp) ?_
 refine SQ [] [none, none] fun _ _ g r => ?_
 try simp
 and_intros <;> first | exact g _ (by kernel_rfl) | refine r _ _ _ ?_ | omega | (simp [maxLen] <;> omega)
 refine RM h0 [(0, 4), (1, 2)] [(4, AV.ptr 1 0)] [(0, .grow (List.map (AV.int .i64) v9)), (1, .cells [Iz v7, AV.lst false false (List.map api_Edge.av v10), AV.slc 0 0 1 v9.length false])] 2 (by simp) (by simp) ?_
 simp only [Option.some.injEq, Prod.mk.injEq] at hF
 obtain ⟨e0, e1, e2⟩ := hF
 subst e0 e1 e2
 refine AW.ret (hQ _ _ _ ?_ (matchO_0 ?_)).1
 ·simp [Try.f44]
 ·simp
theorem w_math_bits_Mul64 (k : Nat) (v0 : Int) (v1 : Int) (v2 : Int) (v3 : Int) (hF : math_bits_Mul64 k v0 v1 = some (v2, v3)) :
  FCall Try.prog 83 [AV.int .u64 v0, AV.int .u64 v1] [] (AV.tup [AV.int .u64 v2, AV.int .u64 v3]) [] := by
 unfold math_bits_Mul64 at hF
 refine EN Try.func83 ?_
 intro c0 w0 Q h0 hQ
 refine WK [(0, AV.int .u64 v0), (1, AV.int .u64 v1)] [] 0 (by simp) (by simp) ?_
 refine SQ [] [none, none] fun _ _ g r => ?_
 try simp
 and_intros <;> first | exact g _ (by kernel_rfl) | refine r _ _ _ ?_ | omega | (simp [maxLen] <;> omega)
 refine WK [(0, AV.int .u64 v0), (1, AV.int .u64 v1)] [] 0 (by simp) (by simp) ?_
 refine SQ [] [none, none, none] fun _ _ g r => ?_
 try simp
 and_intros <;> first | exact g _ (by kernel_rfl) | refine r _ _ _ ?_ | omega | (simp [maxLen] <;> omega)
 refine WK [(0, AV.int .u64 v0), (1, AV.int .u64 v1), (6, AV.int .u64 (bitsV .and .u64 v0 4294967295))] [] 0 (by simp) (by simp) ?_
 refine SQ [] [none, none, none] fun _ _ g r => ?_
 try simp
 and_intros <;> first | exact g _ (by kernel_rfl) | refine r _ _ _ ?_ | omega | (simp [maxLen] <;> omega)
 refine WK [(0, AV.int .u64 v0), (1, AV.int .u64 v1), (6, AV.int .u64 (bitsV .and .u64 v0 4294967295)), (7, AV.int .u64 (Int.fdiv v0 (2 ^ (32))))] [] 0 (by simp) (by simp) ?_
 refine SQ [] [none, none, none] fun _ _ g r => ?_
 try simp
 and_intros <;> first | exact g _ (by kernel_rfl) | refine r _ _ _ ?_ | omega | (simp [maxLen] <;> omega)
 refine WK [(0, AV.int .u64 v0), (1, AV.int .u64 v1), (6, AV.int .u64 (bitsV .and .u64 v0 4294967295)), (7, AV.int .u64 (Int.fdiv v0 (2 ^ (32)))), (8, AV.int .u64 (bitsV .and .u64 v1 4294967295))] [] 0 (by simp) (by simp) ?_
 refine SQ [] [none, none, none] fun _ _ g r => ?_
 try simp
 and_intros <;> first | exact g _ (by kernel_rfl) | refine r _ _ _ ?_ | omega | (simp [maxLen] <;> omega)
 refine WK [(0, AV.int .u64 v0), (1, AV.int .u64 v1), (6, AV.int .u64 (bitsV .and .u64 v0 4294967295)), (7, AV.int .u64 (Int.fdiv v0 (2 ^ (32)))), (8, AV.int .u64 (bitsV .and .u64 v1 4294967295)), (9, AV.int .u64 (Int.fdiv v1 (2 ^ (32))))] [] 0 (by simp) (by simp) ?_
 refine SQ [] [none, none, none, none] fun _ _ g r => ?_
 try simp
 and_intros <;> first | exact g _ (by kernel_rfl) | refine r _ _ _ ?_ | omega | (simp [maxLen] <;> omega)
 refine WK [(0, AV.int .u64 v0), (1, AV.int .u64 v1), (6, AV.int .u64 (bitsV .and .u64 v0 4294967295)), (7, AV.int .u64 (Int.fdiv v0 (2 ^ (32)))), (8, AV.int .u64 (bitsV .and .u64 v1 4294967295)), (9, AV.int .u64 (Int.fdiv v1 (2 ^ (32)))), (10, AV.int .u64 (IntKind.wrap .u64 (bitsV .and .u64 v0 4294967295 * bitsV .and .u64 v1 4294967295)))] [] 0 (by simp) (by simp) ?_
 refine SQ [] [none, none, none, none, none, none, none] fun _ _ g r => ?_
 try simp
 and_intros <;> first | exact g _ (by kernel_rfl) | refine r _ _ _ ?_ | omega | (simp [maxLen] <;> omega)
 refine WK [(0, AV.int .u64 v0), (1, AV.int .u64 v1), (6, AV.int .u64 (bitsV .and .u64 v0 4294967295)), (7, AV.int .u64 (Int.fdiv v0 (2 ^ (32)))), (9, AV.int .u64 (Int.fdiv v1 (2 ^ (32)))), (11, AV.int .u64 (IntKind.wrap .u64 (IntKind.wrap .u64 (Int.fdiv v0 (2 ^ (32)) * bitsV .and .u64 v1 4294967295) + Int.fdiv (IntKind.wrap .u64 (bitsV .and .u64 v0 4294967295 * bitsV .and .u64 v1 4294967295)) (2 ^ (32)))))] [] 0 (by simp) (by simp) ?_
 refine SQ [] [none, none, none] fun _ _ g r => ?_
 try simp
 and_intros <;> first | exact g _ (by kernel_rfl) | refine r _ _ _ ?_ | omega | (simp [maxLen] <;> omega)
 refine WK [(0, AV.int .u64 v0), (1, AV.int .u64 v1), (6, AV.int .u64 (bitsV .and .u64 v0 4294967295)), (7, AV.int .u64 (Int.fdiv v0 (2 ^ (32)))), (9, AV.int .u64 (Int.fdiv v1 (2 ^ (32)))), (11, AV.int .u64 (IntKind.wrap .u64 (IntKind.wrap .u64 (Int.fdiv v0 (2 ^ (32)) * bitsV .and .u64 v1 4294967295) + Int.fdiv (IntKind.wrap .u64 (bitsV .and .u64 v0 4294967295 * bitsV .and .u64 v1 4294967295)) (2 ^ (32))))), (12, AV.int .u64 (bitsV .and .u64 (IntKind.wrap .u64 (IntKind.wrap .u64 (Int.fdiv v0 (2 ^ (32)) * bitsV .and .u64 v1 4294967295) + Int.fdiv (IntKind.wrap .u64 (bitsV .and .u64 v0 4294967295 * bitsV .and .u64 v1 4294967295)) (2 ^ (32)))) 4294967295))] [] 0 (by simp) (by simp) ?_
 refine SQ [] [none, none, none] fun _ _ g r => ?_
 try simp
 and_intros <;> first | exact g _ (by kernel_rfl) | refine r _ _ _ ?_ | omega | (simp [maxLen] <;> omega)
 refine WK [(0, AV.int .u64 v0), (1, AV.int .u64 v1), (6, AV.int .u64 (bitsV .and .u64 v0 4294967295)), (7, AV.int .u64 (Int.fdiv v0 (2 ^ (32)))), (9, AV.int .u64 (Int.fdiv v1 (2 ^ (32)))), (12, AV.int .u64 (bitsV .and .u64 (IntKind.wrap .u64 (IntKind.wrap .u64 (Int.fdiv v0 (2 ^ (32)) * bitsV .and .u64 v1 4294967295) + Int.fdiv (IntKind.wrap .u64 (bitsV .and .u64 v0 4294967295 * bitsV .and .u64 v1 4294967295)) (2 ^ (32)))) 4294967295)), (13, AV.int .u64 (Int.fdiv (IntKind.wrap .u64 (IntKind.wrap .u64 (Int.fdiv v0 (2 ^ (32)) * bitsV .and .u64 v1 4294967295) + Int.fdiv (IntKind.wrap .u64 (bitsV .and .u64 v0 4294967295 * bitsV .and .u64 v1 4294967295)) (2 ^ (32)))) (2 ^ (32))))] [] 0 (by simp) (by simp) ?_
 refine SQ [] [none, none, none, none, none, none] fun _ _ g r => ?_
 try simp
 and_intros <;> first | exact g _ (by kernel_rfl) | refine r _ _ _ ?_ | omega | (simp [maxLen] <;> omega)
 refine WK [(0, AV.int .u64 v0), (1, AV.int .u64 v1), (7, AV.int .u64 (Int.fdiv v0 (2 ^ (32)))), (9, AV.int .u64 (Int.fdiv v1 (2 ^ (32)))), (12, AV.int .u64 (IntKind.wrap .u64 (bitsV .and .u64 (IntKind.wrap .u64 (IntKind.wrap .u64 (Int.fdiv v0 (2 ^ (32)) * bitsV .and .u64 v1 4294967295) + Int.fdiv (IntKind.wrap .u64 (bitsV .and .u64 v0 4294967295 * bitsV .and .u64 v1 4294967295)) (2 ^ (32)))) 4294967295 + IntKind.wrap .u64 (bitsV .and .u64 v0 4294967295 * Int.fdiv v1 (2 ^ (32)))))), (13, AV.int .u64 (Int.fdiv (IntKind.wrap .u64 (IntKind.wrap .u64 (Int.fdiv v0 (2 ^ (32)) * bitsV .and .u64 v1 4294967295) + Int.fdiv (IntKind.wrap .u64 (bitsV .and .u64 v0 4294967295 * bitsV .and .u64 v1 4294967295)) (2 ^ (32)))) (2 ^ (32))))] [] 0 (by simp) (by simp) ?_
 refine SQ [] [none, none, none, none, none, none, none, none, none] fun _ _ g r => ?_
 try simp
 and_intros <;> first | exact g _ (by kernel_rfl) | refine r _ _ _ ?_ | omega | (simp [maxLen] <;> omega)
 refine WK [(0, AV.int .u64 v0), (1, AV.int .u64 v1), (4, AV.int .u64 (IntKind.wrap .u64 (IntKind.wrap .u64 (IntKind.wrap .u64 (Int.fdiv v0 (2 ^ (32)) * Int.fdiv v1 (2 ^ (32))) + Int.fdiv (IntKind.wrap .u64 (IntKind.wrap .u64 (Int.fdiv v0 (2 ^ (32)) * bitsV .and .u64 v1 4294967295) + Int.fdiv (IntKind.wrap .u64 (bitsV .and .u64 v0 4294967295 * bitsV .and .u64 v1 4294967295)) (2 ^ (32)))) (2 ^ (32))) + Int.fdiv (IntKind.wrap .u64 (bitsV .and .u64 (IntKind.wrap .u64 (IntKind.wrap .u64 (Int.fdiv v0 (2 ^ (32)) * bitsV .and .u64 v1 4294967295) + Int.fdiv (IntKind.wrap .u64 (bitsV .and .u64 v0 4294967295 * bitsV .and .u64 v1 4294967295)) (2 ^ (32)))) 4294967295 + IntKind.wrap .u64 (bitsV .and .u64 v0 4294967295 * Int.fdiv v1 (2 ^ (32))))) (2 ^ (32)))))] [] 0 (by simp) (by simp) ?_
 refine SQ [] [none, none, none, none] fun _ _ g r => ?_
 try simp
 and_intros <;> first | exact g _ (by kernel_rfl) | refine r _ _ _ ?_ | omega | (simp [maxLen] <;> omega)
 refine WK [(4, AV.int .u64 (IntKind.wrap .u64 (IntKind.wrap .u64 (IntKind.wrap .u64 (Int.fdiv v0 (2 ^ (32)) * Int.fdiv v1 (2 ^ (32))) + Int.fdiv (IntKind.wrap .u64 (IntKind.wrap .u64 (Int.fdiv v0 (2 ^ (32)) * bitsV .and .u64 v1 4294967295) + Int.fdiv (IntKind.wrap .u64 (bitsV .and .u64 v0 4294967295 * bitsV .and .u64 v1 4294967295)) (2 ^ (32)))) (2 ^ (32))) + Int.fdiv (IntKind.wrap .u64 (bitsV .and .u64 (IntKind.wrap .u64 (IntKind.wrap .u64 (Int.fdiv v0 (2 ^ (32)) * bitsV .and .u64 v1 4294967295) + Int.fdiv (IntKind.wrap .u64 (bitsV .and .u64 v0 4294967295 * bitsV .and .u64 v1 4294967295)) (2 ^ (32)))) 4294967295 + IntKind.wrap .u64 (bitsV .and .u64 v0 4294967295 * Int.fdiv v1 (2 ^ (32))))) (2 ^ (32))))), (5, AV.int .u64 (IntKind.wrap .u64 (v0 * v1)))] [] 0 (by simp) (by simp) ?_
 simp only [Option.some.injEq, Prod.mk.injEq] at hF
 obtain ⟨e0, e1⟩ := hF
 subst e0 e1
 refine AW.ret (hQ _ _ _ ?_ (matchO_0 ?_)).1
 ·simp [Try.f83]
 ·simp
end Go.TF
