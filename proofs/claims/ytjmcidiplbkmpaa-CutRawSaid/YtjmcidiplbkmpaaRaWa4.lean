/- Walks: the Go text computes the Lean functions (printed by a program of our own). -/
import Derived.Test.YtjmcidiplbkmpaaRaPu
import Derived.Test.YtjmcidiplbkmpaaRaAbsT
import Derived.Test.YtjmcidiplbkmpaaRaWa0
import Derived.Test.YtjmcidiplbkmpaaRaWa2
import Derived.Test.YtjmcidiplbkmpaaRaWa3
set_option linter.unusedVariables false
set_option linter.unusedSimpArgs false
set_option maxRecDepth 100000
set_option maxHeartbeats 4000000
namespace Go.TF
open Go Go.Abs Go.Proofs Go.Proofs.YtjmcidiplbkmpaaRaT
theorem w_ref11_Set (k : Nat) (v0 : (List Int)) (v1 : Int) (v2 : Bool) (hF : ref11_Set k v0 v1 = some v2) :
  FCall Try.prog 49 [AV.lst false false (List.map (AV.int .i64) v0), AV.int .i64 v1] [] (AV.bool v2) [] := by
 unfold ref11_Set at hF
 refine EN Try.func49 ?_
 intro c0 w0 Q h0 hQ
 refine WK [(0, Lz v0), (1, Iz v1)] [] 0 (by simp) (by simp) ?_
 refine SQ [] [none] fun _ _ g r => ?_
 try simp
 and_intros <;> first | exact g _ (by kernel_rfl) | refine r _ _ _ ?_ | omega | (simp [maxLen] <;> omega)
 refine WK [(0, Lz v0), (1, Iz v1)] [] 0 (by simp) (by simp) ?_
 refine AW.seq fun K155 hK155 => ?_
 refine SQ [] [none] fun _ _ g r => ?_
 try simp
 and_intros <;> first | exact g _ (by kernel_rfl) | refine r _ _ _ ?_ | omega | (simp [maxLen] <;> omega)
 refine WK [(0, Lz v0), (1, Iz v1), (5, Iz 0)] [] 0 (by simp) (by simp) ?_
 refine AW.block ?_
 refine AW.loopF (α := Int) (fun n v3 => ref11_Set.L1 k v0 v1 n v3 = some v2) (fun v3 => [(0, Lz v0), (1, Iz v1), (5, Iz v3)]) (fun v3 => []) 0 k (0) hF (by simp) (by simp) (by simp) ?_
 rintro (_|n1) v3 hF K192 hK192
 ·try dsimp only at hF
  rw [ref11_Set.L1] at hF; cases hF
 try dsimp only at hF
 rw [ref11_Set.L1] at hF
 refine AW.seq fun K194 hK194 => ?_
 refine SQ [] [none, none, none, none] fun _ _ g r => ?_
 try simp
 and_intros <;> first | exact g _ (by kernel_rfl) | refine r _ _ _ ?_ | omega | (simp [maxLen] <;> omega)
 refine WK [(0, Lz v0), (1, Iz v1), (5, Iz v3), (9, AV.bool (decide (v3 < (v0.length : Int))))] [] 0 (by simp) (by simp) ?_
 by_cases h1 : v3 < (v0.length : Int)
 ·replace hF := ite_t h1 hF
  have h1_ := h1
  try simp at h1_
  refine CT (by simp [h1, h1_] <;> omega) ?_
  refine AW.skip ?_
  refine hK194 _ _ _ ?_
  refine AW.midF (α := Unit) (fun _ => ref11_Set.J2 k v3 (fun v3_ => ref11_Set.L1 k v0 v1 n1 v3_) = some v2) (fun _ => [(0, Lz v0), (1, Iz v1), (5, Iz v3)]) (fun _ => []) 0 (fun K201 hK201 => ?_) ?_
  ·refine AW.block ?_
   refine SQ [] [none, none, none, none, none, none, some (17, false), some (17, false), some (17, false), some (17, false), some (17, false), some (17, false), none, none, some (25, false), some (25, false), some (25, false), some (28, true), some (28, true), some (28, true), some (28, true), some (28, true), some (28, true), some (28, true), some (28, true), some (28, true), some (28, true), some (25, false), none] fun _ _ g r => ?_
   obtain ⟨v4, h2, h3, h4, hF⟩ := idx_elim hF
   have h4_ := get_of h4
   try simp at h4_
   have h3_ := h3
   try simp at h3_
   by_cases h5 : v4 < 0
   ·replace hF := ite_t h5 hF
    have h5_ := h5
    try simp at h5_
    have F1 := And.intro h1 (And.intro h1_ (And.intro h2 (And.intro h3 (And.intro h4 (And.intro h4_ (And.intro h3_ (And.intro h5 h5_)))))))
    try simp [F1]
    and_intros <;> first | exact g _ (by kernel_rfl) | refine r _ _ _ ?_ | omega | (simp [maxLen, F1] <;> omega)
    refine WK [(0, Lz v0), (1, Iz v1), (5, Iz v3), (40, AV.bool true)] [] 0 (by simp [F1]) (by simp [F1]) ?_
    refine CT (by simp [F1]) ?_
    refine SQ [] [none] fun _ _ g r => ?_
    try simp [F1]
    and_intros <;> first | exact g _ (by kernel_rfl) | refine r _ _ _ ?_ | omega | (simp [maxLen, F1] <;> omega)
    refine WK [(4, AV.bool false)] [] 0 (by simp [F1]) (by simp [F1]) ?_
    simp only [Option.some.injEq] at hF
    subst hF
    refine AW.ret (hQ _ _ _ ?_ (matchO_0 ?_)).1
    ·simp [Try.f49, F1]
    ·simp [F1]
   ·replace hF := ite_f h5 hF
    have h5_ := h5
    try simp at h5_
    by_cases h6 : v1 ≤ v4
    ·replace hF := ite_t h6 hF
     have h6_ := h6
     try simp at h6_
     have F2 := And.intro h1 (And.intro h1_ (And.intro h2 (And.intro h3 (And.intro h4 (And.intro h4_ (And.intro h3_ (And.intro h5 (And.intro h5_ (And.intro h6 h6_)))))))))
     try simp [F2]
     and_intros <;> first | exact g _ (by kernel_rfl) | refine r _ _ _ ?_ | omega | (simp [maxLen, F2] <;> omega)
     refine WK [(0, Lz v0), (1, Iz v1), (5, Iz v3), (40, AV.bool true)] [] 0 (by simp [F2]) (by simp [F2]) ?_
     refine CT (by simp [F2]) ?_
     refine SQ [] [none] fun _ _ g r => ?_
     try simp [F2]
     and_intros <;> first | exact g _ (by kernel_rfl) | refine r _ _ _ ?_ | omega | (simp [maxLen, F2] <;> omega)
     refine WK [(4, AV.bool false)] [] 0 (by simp [F2]) (by simp [F2]) ?_
     simp only [Option.some.injEq] at hF
     subst hF
     refine AW.ret (hQ _ _ _ ?_ (matchO_0 ?_)).1
     ·simp [Try.f49, F2]
     ·simp [F2]
    ·replace hF := ite_f h6 hF
     have h6_ := h6
     try simp at h6_
     by_cases h7 : 0 < v3
     ·replace hF := ite_t h7 hF
      have h7_ := h7
      try simp at h7_
      obtain ⟨v5, h8, h9, h10, hF⟩ := idx_elim hF
      have h10_ := get_of h10
      try simp at h10_
      have h9_ := h9
      try simp at h9_
      have F3 := And.intro h1 (And.intro h1_ (And.intro h2 (And.intro h3 (And.intro h4 (And.intro h4_ (And.intro h3_ (And.intro h5 (And.intro h5_ (And.intro h6 (And.intro h6_ (And.intro h7 (And.intro h7_ (And.intro h8 (And.intro h9 (And.intro h10 (And.intro h10_ h9_))))))))))))))))
      try simp [F3]
      and_intros <;> first | exact g _ (by kernel_rfl) | refine r _ _ _ ?_ | omega | (simp [maxLen, F3] <;> omega)
      refine WK [(0, Lz v0), (1, Iz v1), (5, Iz v3), (40, AV.bool (decide (v4 ≤ v5)))] [] 0 (by simp [F3]) (by simp [F3]) ?_
      by_cases h11 : v4 ≤ v5
      ·replace hF := ite_t h11 hF
       have h11_ := h11
       try simp at h11_
       have F4 := And.intro F3 (And.intro h11 h11_)
       refine CT (by simp [F4] <;> omega) ?_
       refine SQ [] [none] fun _ _ g r => ?_
       try simp [F4]
       and_intros <;> first | exact g _ (by kernel_rfl) | refine r _ _ _ ?_ | omega | (simp [maxLen, F4] <;> omega)
       refine WK [(4, AV.bool false)] [] 0 (by simp [F4]) (by simp [F4]) ?_
       simp only [Option.some.injEq] at hF
       subst hF
       refine AW.ret (hQ _ _ _ ?_ (matchO_0 ?_)).1
       ·simp [Try.f49, F4]
       ·simp [F4]
      ·replace hF := ite_f h11 hF
       have h11_ := h11
       try simp at h11_
       have F5 := And.intro F3 (And.intro h11 h11_)
       refine CF (by simp [F5] <;> omega) ?_
       refine AW.skip ?_
       refine hK201 _ _ _ ?_
       exact JN (()) hF (by simp [F5]) (by simp [F5])
     ·replace hF := ite_f h7 hF
      have h7_ := h7
      try simp at h7_
      have F6 := And.intro h1 (And.intro h1_ (And.intro h2 (And.intro h3 (And.intro h4 (And.intro h4_ (And.intro h3_ (And.intro h5 (And.intro h5_ (And.intro h6 (And.intro h6_ (And.intro h7 h7_)))))))))))
      try simp [F6]
      and_intros <;> first | exact g _ (by kernel_rfl) | refine r _ _ _ ?_ | omega | (simp [maxLen, F6] <;> omega)
      refine WK [(0, Lz v0), (1, Iz v1), (5, Iz v3), (40, AV.bool false)] [] 0 (by simp [F6]) (by simp [F6]) ?_
      refine CF (by simp [F6]) ?_
      refine AW.skip ?_
      refine hK201 _ _ _ ?_
      exact JN (()) hF (by simp [F6]) (by simp [F6])
  ·rintro ⟨⟩ hF
   try dsimp only at hF
   unfold ref11_Set.J2 at hF
   refine RG [] [none, none, none] fun _ _ g r => ?_
   try simp [h1, h1_]
   and_intros <;> first | exact g _ (by kernel_rfl) | refine r _ _ _ ?_ | omega | (simp [h1, h1_, maxLen] <;> omega)
   refine hK192 _ _ _ ?_
   exact NX (k' := n1) (IntKind.wrap .i64 (v3 + 1)) hF (by simp [h1, h1_]) (by simp [h1, h1_])
 ·replace hF := ite_f h1 hF
  have h1_ := h1
  try simp at h1_
  refine CF (by simp [h1, h1_] <;> omega) ?_
  refine AW.exit ?_
  try simp
  refine hK155 _ _ _ ?_
  refine SQ [] [none] fun _ _ g r => ?_
  try simp [h1, h1_]
  and_intros <;> first | exact g _ (by kernel_rfl) | refine r _ _ _ ?_ | omega | (simp [h1, h1_, maxLen] <;> omega)
  refine WK [(4, AV.bool true)] [] 0 (by simp [h1, h1_]) (by simp [h1, h1_]) ?_
  simp only [Option.some.injEq] at hF
  subst hF
  refine AW.ret (hQ _ _ _ ?_ (matchO_0 ?_)).1
  ·simp [Try.f49, h1, h1_]
  ·simp [h1, h1_]
theorem w_ref11_Has (k : Nat) (v0 : (List Int)) (v1 : Int) (v2 : Bool) (hF : ref11_Has k v0 v1 = some v2) :
  FCall Try.prog 33 [AV.lst false false (List.map (AV.int .i64) v0), AV.int .i64 v1] [] (AV.bool v2) [] := by
 unfold ref11_Has at hF
 refine EN Try.func33 ?_
 intro c0 w0 Q h0 hQ
 refine WK [(0, Lz v0), (1, Iz v1)] [] 0 (by simp) (by simp) ?_
 refine SQ [] [none] fun _ _ g r => ?_
 try simp
 and_intros <;> first | exact g _ (by kernel_rfl) | refine r _ _ _ ?_ | omega | (simp [maxLen] <;> omega)
 refine WK [(0, Lz v0), (1, Iz v1)] [] 0 (by simp) (by simp) ?_
 refine AW.seq fun K119 hK119 => ?_
 refine SQ [] [none] fun _ _ g r => ?_
 try simp
 and_intros <;> first | exact g _ (by kernel_rfl) | refine r _ _ _ ?_ | omega | (simp [maxLen] <;> omega)
 refine WK [(0, Lz v0), (1, Iz v1), (5, Iz 0)] [] 0 (by simp) (by simp) ?_
 refine AW.block ?_
 refine AW.loopF (α := Int) (fun n v3 => ref11_Has.L1 k v0 v1 n v3 = some v2) (fun v3 => [(0, Lz v0), (1, Iz v1), (5, Iz v3)]) (fun v3 => []) 0 k (0) hF (by simp) (by simp) (by simp) ?_
 rintro (_|n1) v3 hF K148 hK148
 ·try dsimp only at hF
  rw [ref11_Has.L1] at hF; cases hF
 try dsimp only at hF
 rw [ref11_Has.L1] at hF
 refine AW.seq fun K150 hK150 => ?_
 refine SQ [] [none, none, none, none] fun _ _ g r => ?_
 try simp
 and_intros <;> first | exact g _ (by kernel_rfl) | refine r _ _ _ ?_ | omega | (simp [maxLen] <;> omega)
 refine WK [(0, Lz v0), (1, Iz v1), (5, Iz v3), (9, AV.bool (decide (v3 < (v0.length : Int))))] [] 0 (by simp) (by simp) ?_
 by_cases h1 : v3 < (v0.length : Int)
 ·replace hF := ite_t h1 hF
  have h1_ := h1
  try simp at h1_
  refine CT (by simp [h1, h1_] <;> omega) ?_
  refine AW.skip ?_
  refine hK150 _ _ _ ?_
  refine AW.seq fun K154 hK154 => ?_
  refine AW.block ?_
  refine SQ [] [none, none, none, none, none, none] fun _ _ g r => ?_
  obtain ⟨v4, h2, h3, h4, hF⟩ := idx_elim hF
  have h4_ := get_of h4
  try simp at h4_
  have h3_ := h3
  try simp at h3_
  have F1 := And.intro h1 (And.intro h1_ (And.intro h2 (And.intro h3 (And.intro h4 (And.intro h4_ h3_)))))
  try simp [F1]
  and_intros <;> first | exact g _ (by kernel_rfl) | refine r _ _ _ ?_ | omega | (simp [maxLen, F1] <;> omega)
  refine WK [(0, Lz v0), (1, Iz v1), (5, Iz v3), (17, AV.bool (v4 == v1))] [] 0 (by simp [F1]) (by simp [F1]) ?_
  by_cases h5 : v4 = v1
  ·replace hF := ite_t h5 hF
   have h5q : v4 = v1 := h5
   have h5_ := eqb_t h5q
   have h5__ := neb_f h5q
   have F2 := And.intro F1 (And.intro h5_ h5__)
   refine CT (by simp [F2] <;> omega) ?_
   refine SQ [] [none] fun _ _ g r => ?_
   try simp [F2]
   and_intros <;> first | exact g _ (by kernel_rfl) | refine r _ _ _ ?_ | omega | (simp [maxLen, F2] <;> omega)
   refine WK [(4, AV.bool true)] [] 0 (by simp [F2]) (by simp [F2]) ?_
   simp only [Option.some.injEq] at hF
   subst hF
   refine AW.ret (hQ _ _ _ ?_ (matchO_0 ?_)).1
   ·simp [Try.f33, F2]
   ·simp [F2]
  ·replace hF := ite_f h5 hF
   have h5_ := eqb_f h5
   have h5__ := neb_t h5
   have F3 := And.intro F1 (And.intro h5 (And.intro h5_ h5__))
   refine CF (by simp [F3] <;> omega) ?_
   refine AW.skip ?_
   refine hK154 _ _ _ ?_
   refine RG [] [none, none, none] fun _ _ g r => ?_
   try simp [F3]
   and_intros <;> first | exact g _ (by kernel_rfl) | refine r _ _ _ ?_ | omega | (simp [maxLen, F3] <;> omega)
   refine hK148 _ _ _ ?_
   exact NX (k' := n1) (IntKind.wrap .i64 (v3 + 1)) hF (by simp [F3]) (by simp [F3])
 ·replace hF := ite_f h1 hF
  have h1_ := h1
  try simp at h1_
  refine CF (by simp [h1, h1_] <;> omega) ?_
  refine AW.exit ?_
  try simp
  refine hK119 _ _ _ ?_
  refine SQ [] [none] fun _ _ g r => ?_
  try simp [h1, h1_]
  and_intros <;> first | exact g _ (by kernel_rfl) | refine r _ _ _ ?_ | omega | (simp [h1, h1_, maxLen] <;> omega)
  refine WK [(4, AV.bool false)] [] 0 (by simp [h1, h1_]) (by simp [h1, h1_]) ?_
  simp only [Option.some.injEq] at hF
  subst hF
  refine AW.ret (hQ _ _ _ ?_ (matchO_0 ?_)).1
  ·simp [Try.f33, h1, h1_]
  ·simp [h1, h1_]
theorem w_ref16_Valid (k : Nat) (v0 : Int) (v1 : (List api_Arc)) (v2 : (List Int)) (v3 : Bool) (hF : ref16_Valid k v0 v1 v2 = some v3) :
  FCall Try.prog 32 [AV.agg [AV.int .i64 v0, AV.lst false false (List.map api_Arc.av v1)], AV.lst false false (List.map (AV.int .i64) v2)] [] (AV.bool v3) [] := by
 unfold ref16_Valid at hF
 refine EN Try.func32 ?_
 intro c0 w0 Q h0 hQ
 refine WK [(0, AV.agg [Iz v0, AV.lst false false (List.map api_Arc.av v1)]), (1, Lz v2)] [] 0 (by simp) (by simp) ?_
 refine SQ [] [none, none] fun _ _ g r => ?_
 try simp
 and_intros <;> first | exact g _ (by kernel_rfl) | refine r _ _ _ ?_ | omega | (simp [maxLen] <;> omega)
 refine WK [(1, Lz v2), (2, AV.ptr 0 0)] [(0, .cells [Iz v0, AV.lst false false (List.map api_Arc.av v1)])] 1 (by simp) (by simp) ?_
 refine SQ [] [none, none, none, none, some (8, true), some (8, true), some (8, true), some (8, true), none, none, some (14, true), some (14, true), none, none, some (18, true), some (18, true), some (18, true), none, none] fun _ _ g r => ?_
 try simp
 and_intros
 try any_goals first | omega | (simp [maxLen] <;> omega)
 obtain ⟨v4, h1, hF⟩ := bnd1_elim hF
 refine AC (w_ref15_Check k _ _ _ h1) (.cons (.same (by simp)) .nil) ?_
 by_cases h2 : v4 = 0
 ·replace hF := ite_t h2 hF
  have h2q : v4 = 0 := h2
  have h2_ := eqb_t h2q
  have h2__ := neb_f h2q
  have F1 := And.intro h2_ (And.intro h2__ h2q)
  try simp [F1]
  and_intros
  try any_goals first | omega | (simp [maxLen, F1] <;> omega)
  obtain ⟨v5, h3, hF⟩ := bnd1_elim hF
  refine AC (w_ref11_Set k _ _ _ h3) (.cons (.same (by simp [F1])) (.cons (.same (by simp [F1])) .nil)) ?_
  by_cases h4 : v5 = true
  ·replace hF := ite_t h4 hF
   have h4_ := h4
   try simp at h4_
   have F2 := And.intro F1 (And.intro h4 h4_)
   try simp [F2]
   and_intros
   try any_goals first | omega | (simp [maxLen, F2] <;> omega)
   obtain ⟨v6, h5, hF⟩ := bnd1_elim hF
   refine AC (w_ref11_Has k _ _ _ h5) (.cons (.same (by simp [F2])) (.cons (.same (by simp [F2])) .nil)) ?_
   by_cases h6 : v6 = true
   ·replace hF := ite_t h6 hF
    have h6_ := h6
    try simp at h6_
    have F3 := And.intro F2 (And.intro h6 h6_)
    try simp [F3]
    and_intros
    try any_goals first | omega | (simp [maxLen, F3] <;> omega)
    obtain ⟨v7, h7, hF⟩ := bnd1_elim hF
    refine AC (w_ref11_Has k _ _ _ h7) (.cons (.same (by simp [F3])) (.cons (.same (by simp [F3])) .nil)) ?_
    try simp [F3]
    and_intros <;> first | exact g _ (by kernel_rfl) | refine r _ _ _ ?_ | omega | (simp [maxLen, F3] <;> omega)
    refine WK [(4, AV.bool (!v7))] [] 1 (by simp [F3]) (by simp [F3]) ?_
    simp only [Option.some.injEq] at hF
    subst hF
    refine AW.ret (hQ _ _ _ ?_ (matchO_0 ?_)).1
    ·simp [Try.f32, F3]
    ·simp [F3]
   ·replace hF := ite_f h6 hF
    have h6_ := h6
    try simp at h6_
    have F4 := And.intro F2 (And.intro h6 h6_)
    try simp [F4]
    and_intros <;> first | exact g _ (by kernel_rfl) | refine r _ _ _ ?_ | omega | (simp [maxLen, F4] <;> omega)
    refine WK [(4, AV.bool false)] [] 1 (by simp [F4]) (by simp [F4]) ?_
    simp only [Option.some.injEq] at hF
    subst hF
    refine AW.ret (hQ _ _ _ ?_ (matchO_0 ?_)).1
    ·simp [Try.f32, F4]
    ·simp [F4]
  ·replace hF := ite_f h4 hF
   have h4_ := h4
   try simp at h4_
   have F5 := And.intro F1 (And.intro h4 h4_)
   try simp [F5]
   and_intros <;> first | exact g _ (by kernel_rfl) | refine r _ _ _ ?_ | omega | (simp [maxLen, F5] <;> omega)
   refine WK [(4, AV.bool false)] [] 1 (by simp [F5]) (by simp [F5]) ?_
   simp only [Option.some.injEq] at hF
   subst hF
   refine AW.ret (hQ _ _ _ ?_ (matchO_0 ?_)).1
   ·simp [Try.f32, F5]
   ·simp [F5]
 ·replace hF := ite_f h2 hF
  have h2_ := eqb_f h2
  have h2__ := neb_t h2
  have F6 := And.intro h2 (And.intro h2_ h2__)
  try simp [F6]
  and_intros <;> first | exact g _ (by kernel_rfl) | refine r _ _ _ ?_ | omega | (simp [maxLen, F6] <;> omega)
  refine WK [(4, AV.bool false)] [] 1 (by simp [F6]) (by simp [F6]) ?_
  simp only [Option.some.injEq] at hF
  subst hF
  refine AW.ret (hQ _ _ _ ?_ (matchO_0 ?_)).1
  ·simp [Try.f32, F6]
  ·simp [F6]
theorem w_ref16_Capacity (k : Nat) (v0 : Int) (v1 : (List api_Arc)) (v2 : (List Int)) (v3 : Int) (hF : ref16_Capacity k v0 v1 v2 = some v3) :
  FCall Try.prog 30 [AV.agg [AV.int .i64 v0, AV.lst false false (List.map api_Arc.av v1)], AV.lst false false (List.map (AV.int .i64) v2)] [] (AV.int .i64 v3) [] := by
 unfold ref16_Capacity at hF
 refine EN Try.func30 ?_
 intro c0 w0 Q h0 hQ
 refine WK [(0, AV.agg [Iz v0, AV.lst false false (List.map api_Arc.av v1)]), (1, Lz v2)] [] 0 (by simp) (by simp) ?_
 refine SQ [] [none, none] fun _ _ g r => ?_
 try simp
 and_intros <;> first | exact g _ (by kernel_rfl) | refine r _ _ _ ?_ | omega | (simp [maxLen] <;> omega)
 refine WK [(1, Lz v2), (2, AV.ptr 0 0)] [(0, .cells [Iz v0, AV.lst false false (List.map api_Arc.av v1)])] 1 (by simp) (by simp) ?_
 refine AW.seq fun K89 hK89 => ?_
 refine SQ [] [none, none, none, none] fun _ _ g r => ?_
 try simp
 and_intros
 try any_goals first | omega | (simp [maxLen] <;> omega)
 obtain ⟨v4, h1, hF⟩ := bnd1_elim hF
 refine AC (w_ref16_Valid k _ _ _ _ h1) (.cons (.same (by simp)) (.cons (.same (by simp)) .nil)) ?_
 try simp
 and_intros <;> first | exact g _ (by kernel_rfl) | refine r _ _ _ ?_ | omega | (simp [maxLen] <;> omega)
 refine WK [(1, Lz v2), (2, AV.ptr 0 0), (10, AV.bool (!v4))] [(0, .cells [Iz v0, AV.lst false false (List.map api_Arc.av v1)])] 1 (by simp) (by simp) ?_
 by_cases h2 : (!v4) = true
 ·replace hF := ite_t h2 hF
  have h2_ := h2
  try simp at h2_
  refine CT (by simp [h2, h2_] <;> omega) ?_
  refine SQ [] [none] fun _ _ g r => ?_
  try simp [h2, h2_]
  and_intros <;> first | exact g _ (by kernel_rfl) | refine r _ _ _ ?_ | omega | (simp [h2, h2_, maxLen] <;> omega)
  refine WK [(4, Iz 0)] [] 1 (by simp [h2, h2_]) (by simp [h2, h2_]) ?_
  simp only [Option.some.injEq] at hF
  subst hF
  refine AW.ret (hQ _ _ _ ?_ (matchO_0 ?_)).1
  ·simp [Try.f30, h2, h2_]
  ·simp [h2, h2_]
 ·replace hF := ite_f h2 hF
  have h2_ := h2
  try simp at h2_
  refine CF (by simp [h2, h2_] <;> omega) ?_
  refine AW.skip ?_
  refine hK89 _ _ _ ?_
  refine SQ [] [none] fun _ _ g r => ?_
  try simp [h2, h2_]
  and_intros <;> first | exact g _ (by kernel_rfl) | refine r _ _ _ ?_ | omega | (simp [h2, h2_, maxLen] <;> omega)
  refine WK [(1, Lz v2), (2, AV.ptr 0 0), (5, Iz 0)] [(0, .cells [Iz v0, AV.lst false false (List.map api_Arc.av v1)])] 1 (by simp [h2, h2_]) (by simp [h2, h2_]) ?_
  refine AW.seq fun K131 hK131 => ?_
  refine SQ [] [none] fun _ _ g r => ?_
  try simp [h2, h2_]
  and_intros <;> first | exact g _ (by kernel_rfl) | refine r _ _ _ ?_ | omega | (simp [h2, h2_, maxLen] <;> omega)
  refine WK [(1, Lz v2), (2, AV.ptr 0 0), (5, Iz 0), (6, Iz 0)] [(0, .cells [Iz v0, AV.lst false false (List.map api_Arc.av v1)])] 1 (by simp [h2, h2_]) (by simp [h2, h2_]) ?_
  refine AW.block ?_
  refine AW.loopF (α := (Int × Int)) (fun n (v5, v6) => ref16_Capacity.L1 k v1 v2 n v5 v6 = some v3) (fun (v5, v6) => [(1, Lz v2), (2, AV.ptr 0 0), (5, Iz v5), (6, Iz v6)]) (fun (v5, v6) => [(0, .cells [Iz v0, AV.lst false false (List.map api_Arc.av v1)])]) 1 k ((0, 0)) hF (by simp [h2, h2_]) (by simp [h2, h2_]) (by simp) ?_
  rintro (_|n1) ⟨v5, v6⟩ hF K160 hK160
  ·try dsimp only at hF
   rw [ref16_Capacity.L1] at hF; cases hF
  try dsimp only at hF
  rw [ref16_Capacity.L1] at hF
  refine AW.seq fun K162 hK162 => ?_
  refine SQ [] [none, none, none, none, none] fun _ _ g r => ?_
  try simp [h2, h2_]
  and_intros <;> first | exact g _ (by kernel_rfl) | refine r _ _ _ ?_ | omega | (simp [h2, h2_, maxLen] <;> omega)
  refine WK [(1, Lz v2), (2, AV.ptr 0 0), (5, Iz v5), (6, Iz v6), (15, AV.bool (decide (v6 < (v1.length : Int))))] [(0, .cells [Iz v0, AV.lst false false (List.map api_Arc.av v1)])] 1 (by simp [h2, h2_]) (by simp [h2, h2_]) ?_
  by_cases h3 : v6 < (v1.length : Int)
  ·replace hF := ite_t h3 hF
   have h3_ := h3
   try simp at h3_
   have F1 := And.intro h2 (And.intro h2_ (And.intro h3 h3_))
   refine CT (by simp [F1] <;> omega) ?_
   refine AW.skip ?_
   refine hK162 _ _ _ ?_
   refine AW.midF (α := Int) (fun v7 => ref16_Capacity.J2 k v6 (fun v5_ v6_ => ref16_Capacity.L1 k v1 v2 n1 v5_ v6_) v7 = some v3) (fun v7 => [(1, Lz v2), (2, AV.ptr 0 0), (5, Iz v7), (6, Iz v6)]) (fun v7 => [(0, .cells [Iz v0, AV.lst false false (List.map api_Arc.av v1)])]) 1 (fun K167 hK167 => ?_) ?_
   ·refine AW.block ?_
    refine SQ [] [none, none, none, none, none, none, none, none, none, some (26, true), some (26, true), some (26, true), some (26, true), some (26, true), some (26, true), some (26, true), some (26, true), some (26, true), none] fun _ _ g r => ?_
    obtain ⟨v8, h4, h5, h6, hF⟩ := idx_elim hF
    have h6_ := get_of h6
    try simp at h6_
    have h5_ := h5
    try simp at h5_
    have F2 := And.intro F1 (And.intro h4 (And.intro h5 (And.intro h6 (And.intro h6_ h5_))))
    try simp [F2]
    and_intros
    try any_goals first | omega | (simp [maxLen, F2] <;> omega)
    obtain ⟨v9, h7, hF⟩ := bnd1_elim hF
    refine AC (w_ref11_Has k _ _ _ h7) (.cons (.same (by simp [F2])) (.cons (.same (by simp [F2])) .nil)) ?_
    by_cases h8 : v9 = true
    ·replace hF := ite_t h8 hF
     have h8_ := h8
     try simp at h8_
     have F3 := And.intro F2 (And.intro h8 h8_)
     try simp [F3]
     and_intros
     try any_goals first | omega | (simp [maxLen, F3] <;> omega)
     obtain ⟨v10, h9, hF⟩ := bnd1_elim hF
     refine AC (w_ref11_Has k _ _ _ h9) (.cons (.same (by simp [F3])) (.cons (.same (by simp [F3])) .nil)) ?_
     try simp [F3]
     and_intros <;> first | exact g _ (by kernel_rfl) | refine r _ _ _ ?_ | omega | (simp [maxLen, F3] <;> omega)
     refine WK [(1, Lz v2), (2, AV.ptr 0 0), (5, Iz v5), (6, Iz v6), (36, AV.bool (!v10))] [(0, .cells [Iz v0, AV.lst false false (List.map api_Arc.av v1)])] 1 (by simp [F3]) (by simp [F3]) ?_
     by_cases h10 : (!v10) = true
     ·replace hF := ite_t h10 hF
      have h10_ := h10
      try simp at h10_
      have F4 := And.intro F3 (And.intro h10 h10_)
      refine CT (by simp [F4] <;> omega) ?_
      refine RG [] [none, none, none, none, none, none, none, none, none] fun _ _ g r => ?_
      try simp [F4]
      and_intros <;> first | exact g _ (by kernel_rfl) | refine r _ _ _ ?_ | omega | (simp [maxLen, F4] <;> omega)
      refine hK167 _ _ _ ?_
      exact JN (IntKind.wrap .i64 (v5 + v8.Cap)) hF (by simp [F4]) (by simp [F4])
     ·replace hF := ite_f h10 hF
      have h10_ := h10
      try simp at h10_
      have F5 := And.intro F3 (And.intro h10 h10_)
      refine CF (by simp [F5] <;> omega) ?_
      refine AW.skip ?_
      refine hK167 _ _ _ ?_
      exact JN (v5) hF (by simp [F5]) (by simp [F5])
    ·replace hF := ite_f h8 hF
     have h8_ := h8
     try simp at h8_
     have F6 := And.intro F2 (And.intro h8 h8_)
     try simp [F6]
     and_intros <;> first | exact g _ (by kernel_rfl) | refine r _ _ _ ?_ | omega | (simp [maxLen, F6] <;> omega)
     refine WK [(1, Lz v2), (2, AV.ptr 0 0), (5, Iz v5), (6, Iz v6), (36, AV.bool false)] [(0, .cells [Iz v0, AV.lst false false (List.map api_Arc.av v1)])] 1 (by simp [F6]) (by simp [F6]) ?_
     refine CF (by simp [F6]) ?_
     refine AW.skip ?_
     refine hK167 _ _ _ ?_
     exact JN (v5) hF (by simp [F6]) (by simp [F6])
   ·rintro v7 hF
    try dsimp only at hF
    unfold ref16_Capacity.J2 at hF
    refine RG [] [none, none, none] fun _ _ g r => ?_
    try simp [F1]
    and_intros <;> first | exact g _ (by kernel_rfl) | refine r _ _ _ ?_ | omega | (simp [maxLen, F1] <;> omega)
    refine hK160 _ _ _ ?_
    exact NX (k' := n1) ((v7, IntKind.wrap .i64 (v6 + 1))) hF (by simp [F1]) (by simp [F1])
  ·replace hF := ite_f h3 hF
   have h3_ := h3
   try simp at h3_
   have F7 := And.intro h2 (And.intro h2_ (And.intro h3 h3_))
   refine CF (by simp [F7] <;> omega) ?_
   refine AW.exit ?_
   try simp
   refine hK131 _ _ _ ?_
   refine SQ [] [none, none] fun _ _ g r => ?_
   try simp [F7]
   and_intros <;> first | exact g _ (by kernel_rfl) | refine r _ _ _ ?_ | omega | (simp [maxLen, F7] <;> omega)
   refine WK [(4, Iz v5)] [] 1 (by simp [F7]) (by simp [F7]) ?_
   simp only [Option.some.injEq] at hF
   subst hF
   refine AW.ret (hQ _ _ _ ?_ (matchO_0 ?_)).1
   ·simp [Try.f30, F7]
   ·simp [F7]
theorem w_ref16_Proves (k : Nat) (v0 : Int) (v1 : (List api_Arc)) (v2 : (List Int)) (v3 : Int) (v4 : Bool) (hF : ref16_Proves k v0 v1 v2 v3 = some v4) :
  FCall Try.prog 47 [AV.agg [AV.int .i64 v0, AV.lst false false (List.map api_Arc.av v1)], AV.lst false false (List.map (AV.int .i64) v2), AV.int .i64 v3] [] (AV.bool v4) [] := by
 unfold ref16_Proves at hF
 refine EN Try.func47 ?_
 intro c0 w0 Q h0 hQ
 refine WK [(0, AV.agg [Iz v0, AV.lst false false (List.map api_Arc.av v1)]), (1, Lz v2), (2, Iz v3)] [] 0 (by simp) (by simp) ?_
 refine SQ [] [none, none] fun _ _ g r => ?_
 try simp
 and_intros <;> first | exact g _ (by kernel_rfl) | refine r _ _ _ ?_ | omega | (simp [maxLen] <;> omega)
 refine WK [(1, Lz v2), (2, Iz v3), (3, AV.ptr 0 0)] [(0, .cells [Iz v0, AV.lst false false (List.map api_Arc.av v1)])] 1 (by simp) (by simp) ?_
 refine SQ [] [none, none, none, none, some (10, true), some (10, true), some (10, true), some (10, true), some (10, true), none, none] fun _ _ g r => ?_
 try simp
 and_intros
 try any_goals first | omega | (simp [maxLen] <;> omega)
 obtain ⟨v5, h1, hF⟩ := bnd1_elim hF
 refine AC (w_ref16_Valid k _ _ _ _ h1) (.cons (.same (by simp)) (.cons (.same (by simp)) .nil)) ?_
 by_cases h2 : v5 = true
 ·replace hF := ite_t h2 hF
  have h2_ := h2
  try simp at h2_
  try simp [h2, h2_]
  and_intros
  try any_goals first | omega | (simp [h2, h2_, maxLen] <;> omega)
  obtain ⟨v6, h3, hF⟩ := bnd1_elim hF
  refine AC (w_ref16_Capacity k _ _ _ _ h3) (.cons (.same (by simp [h2, h2_])) (.cons (.same (by simp [h2, h2_])) .nil)) ?_
  try simp [h2, h2_]
  and_intros <;> first | exact g _ (by kernel_rfl) | refine r _ _ _ ?_ | omega | (simp [h2, h2_, maxLen] <;> omega)
  refine WK [(6, AV.bool (decide (v6 ≤ v3)))] [] 1 (by simp [h2, h2_]) (by simp [h2, h2_]) ?_
  simp only [Option.some.injEq] at hF
  subst hF
  refine AW.ret (hQ _ _ _ ?_ (matchO_0 ?_)).1
  ·simp [Try.f47, h2, h2_]
  ·simp [h2, h2_]
 ·replace hF := ite_f h2 hF
  have h2_ := h2
  try simp at h2_
  try simp [h2, h2_]
  and_intros <;> first | exact g _ (by kernel_rfl) | refine r _ _ _ ?_ | omega | (simp [h2, h2_, maxLen] <;> omega)
  refine WK [(6, AV.bool false)] [] 1 (by simp [h2, h2_]) (by simp [h2, h2_]) ?_
  simp only [Option.some.injEq] at hF
  subst hF
  refine AW.ret (hQ _ _ _ ?_ (matchO_0 ?_)).1
  ·simp [Try.f47, h2, h2_]
  ·simp [h2, h2_]
theorem w_law16_agree (k : Nat) (v0 : Int) (v1 : (List api_Arc)) (v2 : (List Int)) (v3 : Int) (v4 : Bool) (hF : law16_agree k v0 v1 v2 v3 = some v4) :
  FCall Try.prog 28 [AV.agg [AV.int .i64 v0, AV.lst false false (List.map api_Arc.av v1)], AV.lst false false (List.map (AV.int .i64) v2), AV.int .i64 v3] [] (AV.bool v4) [] := by
 unfold law16_agree at hF
 refine EN Try.func28 ?_
 intro c0 w0 Q h0 hQ
 refine WK [(0, AV.agg [Iz v0, AV.lst false false (List.map api_Arc.av v1)]), (1, Lz v2), (2, Iz v3)] [] 0 (by simp) (by simp) ?_
 refine SQ [] [none, none] fun _ _ g r => ?_
 try simp
 and_intros <;> first | exact g _ (by kernel_rfl) | refine r _ _ _ ?_ | omega | (simp [maxLen] <;> omega)
 refine WK [(1, Lz v2), (2, Iz v3), (3, AV.ptr 0 0)] [(0, .cells [Iz v0, AV.lst false false (List.map api_Arc.av v1)])] 1 (by simp) (by simp) ?_
 refine SQ [] [none, none, none, none, none, none, none] fun _ _ g r => ?_
 try simp
 and_intros
 try any_goals first | omega | (simp [maxLen] <;> omega)
 obtain ⟨v5, v6, h1, hF⟩ := bnd2_elim hF
 refine AC (w_cut_Nearest k _ _ _ _ h1) (.cons (.same (by simp)) .nil) ?_
 try simp
 and_intros <;> first | exact g _ (by kernel_rfl) | refine r _ _ _ ?_ | omega | (simp [maxLen] <;> omega)
 refine WK [(1, Lz v2), (2, Iz v3), (3, AV.ptr 0 0), (7, AV.slc 1 0 1 v5.length false), (8, Iz v6)] [(0, .cells [Iz v0, AV.lst false false (List.map api_Arc.av v1)]), (1, .grow (List.map (AV.int .i64) v5))] 2 (by simp) (by simp) ?_
 refine AW.frz 1 (o := .grow (List.map (AV.int .i64) v5)) (by simp) rfl [(7, Lz v5)] [] ⟨(.l (by simp) (by simp) (by simp) (by simp)), trivial⟩ trivial ?_
 refine WK [(1, Lz v2), (2, Iz v3), (3, AV.ptr 0 0), (7, Lz v5), (8, Iz v6)] [(0, .cells [Iz v0, AV.lst false false (List.map api_Arc.av v1)])] 2 (by simp) (by simp) ?_
 refine SQ [] [none, none, none, none, none, none, none] fun _ _ g r => ?_
 try simp
 and_intros
 try any_goals first | omega | (simp [maxLen] <;> omega)
 obtain ⟨v7, v8, h2, hF⟩ := bnd2_elim hF
 refine AC (w_ref16_Nearest k _ _ _ _ h2) (.cons (.same (by simp)) .nil) ?_
 try simp
 and_intros <;> first | exact g _ (by kernel_rfl) | refine r _ _ _ ?_ | omega | (simp [maxLen] <;> omega)
 refine WK [(1, Lz v2), (2, Iz v3), (3, AV.ptr 0 0), (7, Lz v5), (8, Iz v6), (9, Lz v7), (10, Iz v8)] [(0, .cells [Iz v0, AV.lst false false (List.map api_Arc.av v1)])] 2 (by simp) (by simp) ?_
 refine SQ [] [none, none, none, none, some (24, true), some (24, true), some (24, true), none, none, some (29, true), some (29, true), some (29, true), some (29, true), some (29, true), some (29, true), some (29, true), none, none, some (38, true), some (38, true), some (38, true), some (38, true), some (38, true), some (38, true), some (38, true), none, none, some (47, true), some (47, true), some (47, true), some (47, true), some (47, true), some (47, true), some (47, true), some (47, true), some (47, true), none, none] fun _ _ g r => ?_
 by_cases h3 : v6 = v8
 ·replace hF := ite_t h3 hF
  have h3q : v6 = v8 := h3
  have h3_ := eqb_t h3q
  have h3__ := neb_f h3q
  try simp [h3_, h3__]
  and_intros
  try any_goals first | omega | (simp [h3_, h3__, maxLen] <;> omega)
  obtain ⟨v9, h4, hF⟩ := bnd1_elim hF
  refine AC (w_ref03_SameInts k _ _ _ h4) (.cons (.same (by simp [h3_, h3__])) (.cons (.same (by simp [h3_, h3__])) .nil)) ?_
  by_cases h5 : v9 = true
  ·replace hF := ite_t h5 hF
   have h5_ := h5
   try simp at h5_
   have F1 := And.intro h3_ (And.intro h3__ (And.intro h5 h5_))
   try simp [F1]
   and_intros
   try any_goals first | omega | (simp [maxLen, F1] <;> omega)
   obtain ⟨v10, h6, hF⟩ := bnd1_elim hF
   refine AC (w_cut_Valid k _ _ _ _ h6) (.cons (.same (by simp [F1])) (.cons (.same (by simp [F1])) .nil)) ?_
   try simp [F1]
   and_intros
   try any_goals first | omega | (simp [maxLen, F1] <;> omega)
   obtain ⟨v11, h7, hF⟩ := bnd1_elim hF
   refine AC (w_ref16_Valid k _ _ _ _ h7) (.cons (.same (by simp [F1])) (.cons (.same (by simp [F1])) .nil)) ?_
   by_cases h8 : (v10 == v11) = true
   ·replace hF := ite_t h8 hF
    have h8_ := h8
    try simp at h8_
    have F2 := And.intro F1 (And.intro h8 h8_)
    try simp [F2]
    and_intros
    try any_goals first | omega | (simp [maxLen, F2] <;> omega)
    obtain ⟨v12, h9, hF⟩ := bnd1_elim hF
    refine AC (w_cut_Capacity k _ _ _ _ h9) (.cons (.same (by simp [F2])) (.cons (.same (by simp [F2])) .nil)) ?_
    try simp [F2]
    and_intros
    try any_goals first | omega | (simp [maxLen, F2] <;> omega)
    obtain ⟨v13, h10, hF⟩ := bnd1_elim hF
    refine AC (w_ref16_Capacity k _ _ _ _ h10) (.cons (.same (by simp [F2])) (.cons (.same (by simp [F2])) .nil)) ?_
    by_cases h11 : v12 = v13
    ·replace hF := ite_t h11 hF
     have h11q : v12 = v13 := h11
     have h11_ := eqb_t h11q
     have h11__ := neb_f h11q
     have F3 := And.intro F2 (And.intro h11_ h11__)
     try simp [F3]
     and_intros
     try any_goals first | omega | (simp [maxLen, F3] <;> omega)
     obtain ⟨v14, h12, hF⟩ := bnd1_elim hF
     refine AC (w_cut_Proves k _ _ _ _ _ h12) (.cons (.same (by simp [F3])) (.cons (.same (by simp [F3])) (.cons (.same (by simp [F3])) .nil))) ?_
     try simp [F3]
     and_intros
     try any_goals first | omega | (simp [maxLen, F3] <;> omega)
     obtain ⟨v15, h13, hF⟩ := bnd1_elim hF
     refine AC (w_ref16_Proves k _ _ _ _ _ h13) (.cons (.same (by simp [F3])) (.cons (.same (by simp [F3])) (.cons (.same (by simp [F3])) .nil))) ?_
     try simp [F3]
     and_intros <;> first | exact g _ (by kernel_rfl) | refine r _ _ _ ?_ | omega | (simp [maxLen, F3] <;> omega)
     refine WK [(6, AV.bool (v14 == v15))] [] 2 (by simp [F3]) (by simp [F3]) ?_
     simp only [Option.some.injEq] at hF
     subst hF
     refine AW.ret (hQ _ _ _ ?_ (matchO_0 ?_)).1
     ·simp [Try.f28, F3]
     ·simp [F3]
    ·replace hF := ite_f h11 hF
     have h11_ := eqb_f h11
     have h11__ := neb_t h11
     have F4 := And.intro F2 (And.intro h11 (And.intro h11_ h11__))
     try simp [F4]
     and_intros <;> first | exact g _ (by kernel_rfl) | refine r _ _ _ ?_ | omega | (simp [maxLen, F4] <;> omega)
     refine WK [(6, AV.bool false)] [] 2 (by simp [F4]) (by simp [F4]) ?_
     simp only [Option.some.injEq] at hF
     subst hF
     refine AW.ret (hQ _ _ _ ?_ (matchO_0 ?_)).1
     ·simp [Try.f28, F4]
     ·simp [F4]
   ·replace hF := ite_f h8 hF
    have h8_ := h8
    try simp at h8_
    have F5 := And.intro F1 (And.intro h8 h8_)
    try simp [F5]
    and_intros <;> first | exact g _ (by kernel_rfl) | refine r _ _ _ ?_ | omega | (simp [maxLen, F5] <;> omega)
    refine WK [(6, AV.bool false)] [] 2 (by simp [F5]) (by simp [F5]) ?_
    simp only [Option.some.injEq] at hF
    subst hF
    refine AW.ret (hQ _ _ _ ?_ (matchO_0 ?_)).1
    ·simp [Try.f28, F5]
    ·simp [F5]
  ·replace hF := ite_f h5 hF
   have h5_ := h5
   try simp at h5_
   have F6 := And.intro h3_ (And.intro h3__ (And.intro h5 h5_))
   try simp [F6]
   and_intros <;> first | exact g _ (by kernel_rfl) | refine r _ _ _ ?_ | omega | (simp [maxLen, F6] <;> omega)
   refine WK [(6, AV.bool false)] [] 2 (by simp [F6]) (by simp [F6]) ?_
   simp only [Option.some.injEq] at hF
   subst hF
   refine AW.ret (hQ _ _ _ ?_ (matchO_0 ?_)).1
   ·simp [Try.f28, F6]
   ·simp [F6]
 ·replace hF := ite_f h3 hF
  have h3_ := eqb_f h3
  have h3__ := neb_t h3
  have F7 := And.intro h3 (And.intro h3_ h3__)
  try simp [F7]
  and_intros <;> first | exact g _ (by kernel_rfl) | refine r _ _ _ ?_ | omega | (simp [maxLen, F7] <;> omega)
  refine WK [(6, AV.bool false)] [] 2 (by simp [F7]) (by simp [F7]) ?_
  simp only [Option.some.injEq] at hF
  subst hF
  refine AW.ret (hQ _ _ _ ?_ (matchO_0 ?_)).1
  ·simp [Try.f28, F7]
  ·simp [F7]
theorem w_law16_CutRaw (k : Nat) (v0 : Int) (v1 : (List api_Arc)) (v2 : (List Int)) (v3 : Int) (v4 : Bool) (hF : law16_CutRaw k v0 v1 v2 v3 = some v4) :
  FCall Try.prog 8 [AV.agg [AV.int .i64 v0, AV.lst false false (List.map api_Arc.av v1)], AV.lst false false (List.map (AV.int .i64) v2), AV.int .i64 v3] [] (AV.bool v4) [] := by
 unfold law16_CutRaw at hF
 refine EN Try.func8 ?_
 intro c0 w0 Q h0 hQ
 refine WK [(0, AV.agg [Iz v0, AV.lst false false (List.map api_Arc.av v1)]), (1, Lz v2), (2, Iz v3)] [] 0 (by simp) (by simp) ?_
 refine SQ [] [none, none] fun _ _ g r => ?_
 try simp
 and_intros <;> first | exact g _ (by kernel_rfl) | refine r _ _ _ ?_ | omega | (simp [maxLen] <;> omega)
 refine WK [(1, Lz v2), (2, Iz v3), (3, AV.ptr 0 0)] [(0, .cells [Iz v0, AV.lst false false (List.map api_Arc.av v1)])] 1 (by simp) (by simp) ?_
 refine AW.seq fun K14 hK14 => ?_
 refine SQ [] [none, none, none, none, none, some (11, false), some (11, false), some (11, false), none] fun _ _ g r => ?_
 by_cases h1 : 40 < (v1.length : Int)
 ·replace hF := ite_t h1 hF
  have h1_ := h1
  try simp at h1_
  try simp [h1, h1_]
  and_intros <;> first | exact g _ (by kernel_rfl) | refine r _ _ _ ?_ | omega | (simp [h1, h1_, maxLen] <;> omega)
  refine WK [(1, Lz v2), (2, Iz v3), (3, AV.ptr 0 0), (15, AV.bool true)] [(0, .cells [Iz v0, AV.lst false false (List.map api_Arc.av v1)])] 1 (by simp [h1, h1_]) (by simp [h1, h1_]) ?_
  refine CT (by simp [h1, h1_]) ?_
  refine SQ [] [none, none] fun _ _ g r => ?_
  try simp [h1, h1_]
  and_intros
  try any_goals first | omega | (simp [h1, h1_, maxLen] <;> omega)
  obtain ⟨v5, h2, hF⟩ := bnd1_elim hF
  refine AC (w_law16_awake k _ h2) .nil ?_
  try simp [h1, h1_]
  and_intros <;> first | exact g _ (by kernel_rfl) | refine r _ _ _ ?_ | omega | (simp [h1, h1_, maxLen] <;> omega)
  refine WK [(6, AV.bool v5)] [] 1 (by simp [h1, h1_]) (by simp [h1, h1_]) ?_
  simp only [Option.some.injEq] at hF
  subst hF
  refine AW.ret (hQ _ _ _ ?_ (matchO_0 ?_)).1
  ·simp [Try.f8, h1, h1_]
  ·simp [h1, h1_]
 ·replace hF := ite_f h1 hF
  have h1_ := h1
  try simp at h1_
  try simp [h1, h1_]
  and_intros <;> first | exact g _ (by kernel_rfl) | refine r _ _ _ ?_ | omega | (simp [h1, h1_, maxLen] <;> omega)
  refine WK [(1, Lz v2), (2, Iz v3), (3, AV.ptr 0 0), (15, AV.bool (decide (140 < (v2.length : Int))))] [(0, .cells [Iz v0, AV.lst false false (List.map api_Arc.av v1)])] 1 (by simp [h1, h1_]) (by simp [h1, h1_]) ?_
  by_cases h3 : 140 < (v2.length : Int)
  ·replace hF := ite_t h3 hF
   have h3_ := h3
   try simp at h3_
   have F1 := And.intro h1 (And.intro h1_ (And.intro h3 h3_))
   refine CT (by simp [F1] <;> omega) ?_
   refine SQ [] [none, none] fun _ _ g r => ?_
   try simp [F1]
   and_intros
   try any_goals first | omega | (simp [maxLen, F1] <;> omega)
   obtain ⟨v6, h4, hF⟩ := bnd1_elim hF
   refine AC (w_law16_awake k _ h4) .nil ?_
   try simp [F1]
   and_intros <;> first | exact g _ (by kernel_rfl) | refine r _ _ _ ?_ | omega | (simp [maxLen, F1] <;> omega)
   refine WK [(6, AV.bool v6)] [] 1 (by simp [F1]) (by simp [F1]) ?_
   simp only [Option.some.injEq] at hF
   subst hF
   refine AW.ret (hQ _ _ _ ?_ (matchO_0 ?_)).1
   ·simp [Try.f8, F1]
   ·simp [F1]
  ·replace hF := ite_f h3 hF
   have h3_ := h3
   try simp at h3_
   have F2 := And.intro h1 (And.intro h1_ (And.intro h3 h3_))
   refine CF (by simp [F2] <;> omega) ?_
   refine AW.skip ?_
   refine hK14 _ _ _ ?_
   refine SQ [] [none, none, some (18, true), some (18, true), some (18, true), some (18, true), none, none] fun _ _ g r => ?_
   try simp [F2]
   and_intros
   try any_goals first | omega | (simp [maxLen, F2] <;> omega)
   obtain ⟨v7, h5, hF⟩ := bnd1_elim hF
   refine AC (w_law16_awake k _ h5) .nil ?_
   by_cases h6 : v7 = true
   ·replace hF := ite_t h6 hF
    have h6_ := h6
    try simp at h6_
    have F3 := And.intro F2 (And.intro h6 h6_)
    try simp [F3]
    and_intros
    try any_goals first | omega | (simp [maxLen, F3] <;> omega)
    obtain ⟨v8, h7, hF⟩ := bnd1_elim hF
    refine AC (w_law16_agree k _ _ _ _ _ h7) (.cons (.same (by simp [F3])) (.cons (.same (by simp [F3])) (.cons (.same (by simp [F3])) .nil))) ?_
    try simp [F3]
    and_intros <;> first | exact g _ (by kernel_rfl) | refine r _ _ _ ?_ | omega | (simp [maxLen, F3] <;> omega)
    refine WK [(6, AV.bool v8)] [] 1 (by simp [F3]) (by simp [F3]) ?_
    simp only [Option.some.injEq] at hF
    subst hF
    refine AW.ret (hQ _ _ _ ?_ (matchO_0 ?_)).1
    ·simp [Try.f8, F3]
    ·simp [F3]
   ·replace hF := ite_f h6 hF
    have h6_ := h6
    try simp at h6_
    have F4 := And.intro F2 (And.intro h6 h6_)
    try simp [F4]
    and_intros <;> first | exact g _ (by kernel_rfl) | refine r _ _ _ ?_ | omega | (simp [maxLen, F4] <;> omega)
    refine WK [(6, AV.bool false)] [] 1 (by simp [F4]) (by simp [F4]) ?_
    simp only [Option.some.injEq] at hF
    subst hF
    refine AW.ret (hQ _ _ _ ?_ (matchO_0 ?_)).1
    ·simp [Try.f8, F4]
    ·simp [F4]
end Go.TF
