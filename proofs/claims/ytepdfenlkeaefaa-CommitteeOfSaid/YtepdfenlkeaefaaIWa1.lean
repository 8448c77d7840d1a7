/- Walks: the Go text computes the Lean functions (printed by a program of our own). -/
import Derived.Test.YtepdfenlkeaefaaIPu
import Derived.Test.YtepdfenlkeaefaaIAbsT
import Derived.Test.YtepdfenlkeaefaaIWa0
set_option linter.unusedVariables false
set_option linter.unusedSimpArgs false
set_option maxRecDepth 100000
set_option maxHeartbeats 4000000
namespace Go.TF
open Go Go.Abs Go.Proofs Go.Proofs.YtepdfenlkeaefaaIT
theorem w_mill_Light (k : Nat) (v0 : (List Int)) (v1 : Bool) (hF : mill_Light k v0 = some v1) :
  FCall Try.prog 16 [AV.lst false false (List.map (AV.int .i64) v0)] [] (AV.bool v1) [] := by
 unfold mill_Light at hF
 refine EN Try.func16 ?_
 intro c0 w0 Q h0 hQ
 refine WK [(0, Lz v0)] [] 0 (by simp) (by simp) ?_
 refine SQ [] [none] fun _ _ g r => ?_
 try simp
 and_intros <;> first | exact g _ (by kernel_rfl) | refine r _ _ _ ?_ | omega | (simp [maxLen] <;> omega)
 refine WK [(0, Lz v0)] [] 0 (by simp) (by simp) ?_
 refine SQ [] [none, none, none, none] fun _ _ g r => ?_
 try simp
 and_intros <;> first | exact g _ (by kernel_rfl) | refine r _ _ _ ?_ | omega | (simp [maxLen] <;> omega)
 refine WK [(2, AV.bool (decide ((v0.length : Int) ≤ 400)))] [] 0 (by simp) (by simp) ?_
 simp only [Option.some.injEq] at hF
 subst hF
 refine AW.ret (hQ _ _ _ ?_ (matchO_0 ?_)).1
 ·simp [Try.f16]
 ·simp
theorem w_roster_key (k : Nat) (v0 : Int) (v1 : Bool) (hF : roster_key k v0 = some v1) :
  FCall Try.prog 97 [AV.int .i64 v0] [] (AV.bool v1) [] := by
 unfold roster_key at hF
 refine EN Try.func97 ?_
 intro c0 w0 Q h0 hQ
 refine WK [(0, Iz v0)] [] 0 (by simp) (by simp) ?_
 refine SQ [] [none] fun _ _ g r => ?_
 try simp
 and_intros <;> first | exact g _ (by kernel_rfl) | refine r _ _ _ ?_ | omega | (simp [maxLen] <;> omega)
 refine WK [(0, Iz v0)] [] 0 (by simp) (by simp) ?_
 refine SQ [] [none, none, none, some (5, true), some (5, true), none, none] fun _ _ g r => ?_
 by_cases h1 : 0 ≤ v0
 ·replace hF := ite_t h1 hF
  have h1_ := h1
  try simp at h1_
  try simp [h1, h1_]
  and_intros <;> first | exact g _ (by kernel_rfl) | refine r _ _ _ ?_ | omega | (simp [h1, h1_, maxLen] <;> omega)
  refine WK [(2, AV.bool (decide (v0 < 64)))] [] 0 (by simp [h1, h1_]) (by simp [h1, h1_]) ?_
  simp only [Option.some.injEq] at hF
  subst hF
  refine AW.ret (hQ _ _ _ ?_ (matchO_0 ?_)).1
  ·simp [Try.f97, h1, h1_]
  ·simp [h1, h1_]
 ·replace hF := ite_f h1 hF
  have h1_ := h1
  try simp at h1_
  try simp [h1, h1_]
  and_intros <;> first | exact g _ (by kernel_rfl) | refine r _ _ _ ?_ | omega | (simp [h1, h1_, maxLen] <;> omega)
  refine WK [(2, AV.bool false)] [] 0 (by simp [h1, h1_]) (by simp [h1, h1_]) ?_
  simp only [Option.some.injEq] at hF
  subst hF
  refine AW.ret (hQ _ _ _ ?_ (matchO_0 ?_)).1
  ·simp [Try.f97, h1, h1_]
  ·simp [h1, h1_]
theorem w_roster_of (k : Nat) (v0 : (List Int)) (v1 : (List Bool)) (hF : roster_of k v0 = some v1) :
  FCall Try.prog 98 [AV.lst false false (List.map (AV.int .i64) v0)] [] (AV.agg (List.map AV.bool v1)) [] := by
 unfold roster_of at hF
 refine EN Try.func98 ?_
 intro c0 w0 Q h0 hQ
 refine WK [(0, Lz v0)] [] 0 (by simp) (by simp) ?_
 refine SQ [] [none] fun _ _ g r => ?_
 try simp
 and_intros <;> first | exact g _ (by kernel_rfl) | refine r _ _ _ ?_ | omega | (simp [maxLen] <;> omega)
 refine WK [(0, Lz v0), (2, AV.ptr 0 0)] [(0, .cells (List.map AV.bool (List.replicate 64 false)))] 1 (by simp) (by simp) ?_
 refine SQ [] [none] fun _ _ g r => ?_
 try simp
 and_intros <;> first | exact g _ (by kernel_rfl) | refine r _ _ _ ?_ | omega | (simp [maxLen] <;> omega)
 refine WK [(0, Lz v0), (2, AV.ptr 0 0), (3, AV.ptr 1 0)] [(0, .cells (List.map AV.bool (List.replicate 64 false))), (1, .cells (List.map AV.bool (List.replicate 64 false)))] 2 (by simp) (by simp) ?_
 refine AW.seq fun K133 hK133 => ?_
 refine SQ [] [none, none, none] fun _ _ g r => ?_
 try simp
 and_intros <;> first | exact g _ (by kernel_rfl) | refine r _ _ _ ?_ | omega | (simp [maxLen] <;> omega)
 refine WK [(2, AV.ptr 0 0), (3, AV.ptr 1 0), (6, Lz v0), (7, Iz (v0.length : Int)), (8, Iz 0)] [(0, .cells (List.map AV.bool (List.replicate 64 false))), (1, .cells (List.map AV.bool (List.replicate 64 false)))] 2 (by simp) (by simp) ?_
 refine AW.block ?_
 refine AW.loopF (α := (Int × (List Bool))) (fun n (v2, v3) => roster_of.L1 k v0 n v2 v3 = some v1) (fun (v2, v3) => [(2, AV.ptr 0 0), (3, AV.ptr 1 0), (6, Lz v0), (7, Iz (v0.length : Int)), (8, Iz v2)]) (fun (v2, v3) => [(0, .cells (List.map AV.bool (List.replicate 64 false))), (1, .cells (List.map AV.bool v3))]) 2 k ((0, (List.replicate 64 false))) hF (by simp) (by simp) (by simp) ?_
 rintro (_|n1) ⟨v2, v3⟩ hF K165 hK165
 ·try dsimp only at hF
  rw [roster_of.L1] at hF; cases hF
 try dsimp only at hF
 rw [roster_of.L1] at hF
 refine SQ [] [none] fun _ _ g r => ?_
 try simp
 and_intros <;> first | exact g _ (by kernel_rfl) | refine r _ _ _ ?_ | omega | (simp [maxLen] <;> omega)
 refine WK [(2, AV.ptr 0 0), (3, AV.ptr 1 0), (6, Lz v0), (7, Iz (v0.length : Int)), (8, Iz v2), (9, AV.bool (decide (v2 < (v0.length : Int))))] [(0, .cells (List.map AV.bool (List.replicate 64 false))), (1, .cells (List.map AV.bool v3))] 2 (by simp) (by simp) ?_
 refine AW.seq fun K167 hK167 => ?_
 by_cases h1 : v2 < (v0.length : Int)
 ·replace hF := ite_t h1 hF
  have h1_ := h1
  try simp at h1_
  refine CT (by simp [h1, h1_] <;> omega) ?_
  refine AW.skip ?_
  refine hK167 _ _ _ ?_
  refine AW.midF (α := (List Bool)) (fun v4 => roster_of.J2 k v2 (fun v2_ v3_ => roster_of.L1 k v0 n1 v2_ v3_) v4 = some v1) (fun v4 => [(2, AV.ptr 0 0), (3, AV.ptr 1 0), (6, Lz v0), (7, Iz (v0.length : Int)), (8, Iz v2)]) (fun v4 => [(0, .cells (List.map AV.bool (List.replicate 64 false))), (1, .cells (List.map AV.bool v4))]) 2 (fun K172 hK172 => ?_) ?_
  ·refine AW.block ?_
   refine SQ [] [none, none, none] fun _ _ g r => ?_
   obtain ⟨v5, h2, h3, h4, hF⟩ := idx_elim hF
   have h4_ := get_of h4
   try simp at h4_
   have h3_ := h3
   try simp at h3_
   have F1 := And.intro h1 (And.intro h1_ (And.intro h2 (And.intro h3 (And.intro h4 (And.intro h4_ h3_)))))
   try simp [F1]
   and_intros <;> first | exact g _ (by kernel_rfl) | refine r _ _ _ ?_ | omega | (simp [maxLen, F1] <;> omega)
   refine WK [(2, AV.ptr 0 0), (3, AV.ptr 1 0), (5, Iz v5), (6, Lz v0), (7, Iz (v0.length : Int)), (8, Iz v2)] [(0, .cells (List.map AV.bool (List.replicate 64 false))), (1, .cells (List.map AV.bool v3))] 2 (by simp [F1]) (by simp [F1]) ?_
   refine SQ [] [none, none] fun _ _ g r => ?_
   try simp [F1]
   and_intros
   try any_goals first | omega | (simp [maxLen, F1] <;> omega)
   obtain ⟨v6, h5, hF⟩ := bnd1_elim hF
   refine AC (w_roster_key k _ _ h5) (.cons (.same (by simp [F1])) .nil) ?_
   try simp [F1]
   and_intros <;> first | exact g _ (by kernel_rfl) | refine r _ _ _ ?_ | omega | (simp [maxLen, F1] <;> omega)
   refine WK [(2, AV.ptr 0 0), (3, AV.ptr 1 0), (5, Iz v5), (6, Lz v0), (7, Iz (v0.length : Int)), (8, Iz v2), (13, AV.bool v6)] [(0, .cells (List.map AV.bool (List.replicate 64 false))), (1, .cells (List.map AV.bool v3))] 2 (by simp [F1]) (by simp [F1]) ?_
   by_cases h6 : v6 = true
   ·replace hF := ite_t h6 hF
    have h6_ := h6
    try simp at h6_
    have F2 := And.intro F1 (And.intro h6 h6_)
    refine CT (by simp [F2] <;> omega) ?_
    refine RG [] [none, none, none] fun _ _ g r => ?_
    obtain ⟨⟨h7, h9, h8⟩, hF⟩ := chk_elim hF
    have h8_ := ne_of_lt h8
    have F3 := And.intro F2 (And.intro h7 (And.intro h8 (And.intro h9 h8_)))
    try simp [F3]
    and_intros <;> first | exact g _ (by kernel_rfl) | refine r _ _ _ ?_ | omega | (simp [maxLen, F3] <;> omega)
    refine hK172 _ _ _ ?_
    exact JN (v3.set (v5).toNat true) hF (by simp [F3]) (by simp [F3])
   ·replace hF := ite_f h6 hF
    have h6_ := h6
    try simp at h6_
    have F4 := And.intro F1 (And.intro h6 h6_)
    refine CF (by simp [F4] <;> omega) ?_
    refine AW.skip ?_
    refine hK172 _ _ _ ?_
    exact JN (v3) hF (by simp [F4]) (by simp [F4])
  ·rintro v4 hF
   try dsimp only at hF
   unfold roster_of.J2 at hF
   refine RG [] [none, none] fun _ _ g r => ?_
   try simp [h1, h1_]
   and_intros <;> first | exact g _ (by kernel_rfl) | refine r _ _ _ ?_ | omega | (simp [h1, h1_, maxLen] <;> omega)
   refine hK165 _ _ _ ?_
   exact NX (k' := n1) ((IntKind.wrap .i64 (v2 + 1), v4)) hF (by simp [h1, h1_]) (by simp [h1, h1_])
 ·replace hF := ite_f h1 hF
  have h1_ := h1
  try simp at h1_
  refine CF (by simp [h1, h1_] <;> omega) ?_
  refine AW.exit ?_
  try simp
  refine hK133 _ _ _ ?_
  refine SQ [] [none, none] fun _ _ g r => ?_
  -- array load
  obtain ⟨h10, hF⟩ := chk_elim hF
  have h10_ := ne_of_len h10 (by decide)
  obtain ⟨h11, hF⟩ := chk_elim hF
  have F5 := And.intro h1 (And.intro h1_ (And.intro h10 (And.intro h10_ h11)))
  try simp [F5]
  and_intros <;> first | exact g _ (by kernel_rfl) | refine r _ _ _ ?_ | omega | (simp [maxLen, F5] <;> omega)
  refine WK [(2, AV.ptr 0 0)] [(0, .cells (List.map AV.bool v3))] 2 (by simp [F5]) (by simp [F5]) ?_
  obtain ⟨h12, hF⟩ := chk_elim hF
  have h12_ := ne_of_len h12 (by decide)
  simp only [Option.some.injEq] at hF
  subst hF
  refine AW.ret (hQ _ _ _ ?_ (matchO_0 ?_)).1
  ·have F6 := And.intro F5 (And.intro h12 h12_)
   simp [Try.f98, F6]
  ·have F7 := And.intro F5 (And.intro h12 h12_)
   simp [F7]
theorem w_roster_Valid (k : Nat) (v0 : (List Int)) (v1 : Bool) (hF : roster_Valid k v0 = some v1) :
  FCall Try.prog 67 [AV.lst false false (List.map (AV.int .i64) v0)] [] (AV.bool v1) [] := by
 unfold roster_Valid at hF
 refine EN Try.func67 ?_
 intro c0 w0 Q h0 hQ
 refine WK [(0, Lz v0)] [] 0 (by simp) (by simp) ?_
 refine SQ [] [none] fun _ _ g r => ?_
 try simp
 and_intros <;> first | exact g _ (by kernel_rfl) | refine r _ _ _ ?_ | omega | (simp [maxLen] <;> omega)
 refine WK [(0, Lz v0)] [] 0 (by simp) (by simp) ?_
 refine AW.seq fun K143 hK143 => ?_
 refine SQ [] [none, none, none] fun _ _ g r => ?_
 try simp
 and_intros <;> first | exact g _ (by kernel_rfl) | refine r _ _ _ ?_ | omega | (simp [maxLen] <;> omega)
 refine WK [(0, Lz v0), (5, Lz v0), (6, Iz (v0.length : Int)), (7, Iz 0)] [] 0 (by simp) (by simp) ?_
 refine AW.block ?_
 refine AW.loopF (α := Int) (fun n v2 => roster_Valid.L1 k v0 n v2 = some v1) (fun v2 => [(0, Lz v0), (5, Lz v0), (6, Iz (v0.length : Int)), (7, Iz v2)]) (fun v2 => []) 0 k (0) hF (by simp) (by simp) (by simp) ?_
 rintro (_|n1) v2 hF K177 hK177
 ·try dsimp only at hF
  rw [roster_Valid.L1] at hF; cases hF
 try dsimp only at hF
 rw [roster_Valid.L1] at hF
 refine SQ [] [none] fun _ _ g r => ?_
 try simp
 and_intros <;> first | exact g _ (by kernel_rfl) | refine r _ _ _ ?_ | omega | (simp [maxLen] <;> omega)
 refine WK [(0, Lz v0), (5, Lz v0), (6, Iz (v0.length : Int)), (7, Iz v2), (8, AV.bool (decide (v2 < (v0.length : Int))))] [] 0 (by simp) (by simp) ?_
 refine AW.seq fun K179 hK179 => ?_
 by_cases h1 : v2 < (v0.length : Int)
 ·replace hF := ite_t h1 hF
  have h1_ := h1
  try simp at h1_
  refine CT (by simp [h1, h1_] <;> omega) ?_
  refine AW.skip ?_
  refine hK179 _ _ _ ?_
  refine AW.midF (α := Unit) (fun _ => roster_Valid.J2 k v2 (fun v2_ => roster_Valid.L1 k v0 n1 v2_) = some v1) (fun _ => [(0, Lz v0), (5, Lz v0), (6, Iz (v0.length : Int)), (7, Iz v2)]) (fun _ => []) 0 (fun K185 hK185 => ?_) ?_
  ·refine AW.block ?_
   refine SQ [] [none, none, none, none, none] fun _ _ g r => ?_
   obtain ⟨v3, h2, h3, h4, hF⟩ := idx_elim hF
   have h4_ := get_of h4
   try simp at h4_
   have h3_ := h3
   try simp at h3_
   have F1 := And.intro h1 (And.intro h1_ (And.intro h2 (And.intro h3 (And.intro h4 (And.intro h4_ h3_)))))
   try simp [F1]
   and_intros <;> first | exact g _ (by kernel_rfl) | refine r _ _ _ ?_ | omega | (simp [maxLen, F1] <;> omega)
   refine WK [(0, Lz v0), (3, Iz v2), (4, Iz v3), (5, Lz v0), (6, Iz (v0.length : Int)), (7, Iz v2)] [] 0 (by simp [F1]) (by simp [F1]) ?_
   refine SQ [] [none, none, none, none, some (15, false), some (15, false), some (15, false), some (18, true), some (18, true), some (18, true), some (18, true), some (18, true), some (18, true), some (18, true), some (15, false), none] fun _ _ g r => ?_
   try simp [F1]
   and_intros
   try any_goals first | omega | (simp [maxLen, F1] <;> omega)
   obtain ⟨v4, h5, hF⟩ := bnd1_elim hF
   refine AC (w_roster_key k _ _ h5) (.cons (.same (by simp [F1])) .nil) ?_
   by_cases h6 : (!v4) = true
   ·replace hF := ite_t h6 hF
    have h6_ := h6
    try simp at h6_
    have F2 := And.intro F1 (And.intro h6 h6_)
    try simp [F2]
    and_intros <;> first | exact g _ (by kernel_rfl) | refine r _ _ _ ?_ | omega | (simp [maxLen, F2] <;> omega)
    refine WK [(0, Lz v0), (5, Lz v0), (6, Iz (v0.length : Int)), (7, Iz v2), (27, AV.bool true)] [] 0 (by simp [F2]) (by simp [F2]) ?_
    refine CT (by simp [F2]) ?_
    refine SQ [] [none] fun _ _ g r => ?_
    try simp [F2]
    and_intros <;> first | exact g _ (by kernel_rfl) | refine r _ _ _ ?_ | omega | (simp [maxLen, F2] <;> omega)
    refine WK [(2, AV.bool false)] [] 0 (by simp [F2]) (by simp [F2]) ?_
    simp only [Option.some.injEq] at hF
    subst hF
    refine AW.ret (hQ _ _ _ ?_ (matchO_0 ?_)).1
    ·simp [Try.f67, F2]
    ·simp [F2]
   ·replace hF := ite_f h6 hF
    have h6_ := h6
    try simp at h6_
    by_cases h7 : 0 < v2
    ·replace hF := ite_t h7 hF
     have h7_ := h7
     try simp at h7_
     obtain ⟨v5, h8, h9, h10, hF⟩ := idx_elim hF
     have h10_ := get_of h10
     try simp at h10_
     have h9_ := h9
     try simp at h9_
     have F3 := And.intro F1 (And.intro h6 (And.intro h6_ (And.intro h7 (And.intro h7_ (And.intro h8 (And.intro h9 (And.intro h10 (And.intro h10_ h9_))))))))
     try simp [F3]
     and_intros <;> first | exact g _ (by kernel_rfl) | refine r _ _ _ ?_ | omega | (simp [maxLen, F3] <;> omega)
     refine WK [(0, Lz v0), (5, Lz v0), (6, Iz (v0.length : Int)), (7, Iz v2), (27, AV.bool (decide (v3 ≤ v5)))] [] 0 (by simp [F3]) (by simp [F3]) ?_
     by_cases h11 : v3 ≤ v5
     ·replace hF := ite_t h11 hF
      have h11_ := h11
      try simp at h11_
      have F4 := And.intro F3 (And.intro h11 h11_)
      refine CT (by simp [F4] <;> omega) ?_
      refine SQ [] [none] fun _ _ g r => ?_
      try simp [F4]
      and_intros <;> first | exact g _ (by kernel_rfl) | refine r _ _ _ ?_ | omega | (simp [maxLen, F4] <;> omega)
      refine WK [(2, AV.bool false)] [] 0 (by simp [F4]) (by simp [F4]) ?_
      simp only [Option.some.injEq] at hF
      subst hF
      refine AW.ret (hQ _ _ _ ?_ (matchO_0 ?_)).1
      ·simp [Try.f67, F4]
      ·simp [F4]
     ·replace hF := ite_f h11 hF
      have h11_ := h11
      try simp at h11_
      have F5 := And.intro F3 (And.intro h11 h11_)
      refine CF (by simp [F5] <;> omega) ?_
      refine AW.skip ?_
      refine hK185 _ _ _ ?_
      exact JN (()) hF (by simp [F5]) (by simp [F5])
    ·replace hF := ite_f h7 hF
     have h7_ := h7
     try simp at h7_
     have F6 := And.intro F1 (And.intro h6 (And.intro h6_ (And.intro h7 h7_)))
     try simp [F6]
     and_intros <;> first | exact g _ (by kernel_rfl) | refine r _ _ _ ?_ | omega | (simp [maxLen, F6] <;> omega)
     refine WK [(0, Lz v0), (5, Lz v0), (6, Iz (v0.length : Int)), (7, Iz v2), (27, AV.bool false)] [] 0 (by simp [F6]) (by simp [F6]) ?_
     refine CF (by simp [F6]) ?_
     refine AW.skip ?_
     refine hK185 _ _ _ ?_
     exact JN (()) hF (by simp [F6]) (by simp [F6])
  ·rintro ⟨⟩ hF
   try dsimp only at hF
   unfold roster_Valid.J2 at hF
   refine RG [] [none, none] fun _ _ g r => ?_
   try simp [h1, h1_]
   and_intros <;> first | exact g _ (by kernel_rfl) | refine r _ _ _ ?_ | omega | (simp [h1, h1_, maxLen] <;> omega)
   refine hK177 _ _ _ ?_
   exact NX (k' := n1) (IntKind.wrap .i64 (v2 + 1)) hF (by simp [h1, h1_]) (by simp [h1, h1_])
 ·replace hF := ite_f h1 hF
  have h1_ := h1
  try simp at h1_
  refine CF (by simp [h1, h1_] <;> omega) ?_
  refine AW.exit ?_
  try simp
  refine hK143 _ _ _ ?_
  refine SQ [] [none, none, none, none, none] fun _ _ g r => ?_
  try simp [h1, h1_]
  and_intros
  try any_goals first | omega | (simp [h1, h1_, maxLen] <;> omega)
  obtain ⟨v6, h12, hF⟩ := bnd1_elim hF
  refine AC (w_roster_of k _ _ h12) (.cons (.same (by simp [h1, h1_])) .nil) ?_
  obtain ⟨h13, hF⟩ := chk_elim hF
  have F7 := And.intro h1 (And.intro h1_ h13)
  try simp [F7]
  and_intros <;> first | exact g _ (by kernel_rfl) | refine r _ _ _ ?_ | omega | (simp [maxLen, F7] <;> omega)
  refine WK [(2, AV.bool (v6 != (List.replicate 64 false)))] [] 0 (by simp [F7]) (by simp [F7]) ?_
  simp only [Option.some.injEq] at hF
  subst hF
  refine AW.ret (hQ _ _ _ ?_ (matchO_0 ?_)).1
  ·simp [Try.f67, F7]
  ·simp [F7]
theorem w_slices_Clone_int_int (k : Nat) (v0 : (List Int)) (v1 : (List Int)) (hF : slices_Clone_int_int k v0 = some v1) :
  FCall Try.prog 72 [AV.lst false false (List.map (AV.int .i64) v0)] [] (AV.slc 0 0 1 v1.length false) [some (.grow (List.map (AV.int .i64) v1))] := by
 unfold slices_Clone_int_int at hF
 obtain ⟨h1, hF⟩ := chk_elim hF
 simp only [Option.some.injEq] at hF
 subst hF
 refine EN Try.func72 ?_
 intro c0 w0 Q h0 hQ
 refine WK [(0, Lz v0)] [] 0 (by simp) (by simp) ?_
 refine SQ [] [none] fun _ _ g r => ?_
 simp
 refine ⟨g _ (by kernel_rfl), r _ _ _ ?_⟩
 refine WK [(0, Lz v0)] [] 0 (by simp) (by simp) ?_
 refine AW.nilSplit (fl := false) (xs := List.map (AV.int .i64) v0) 0 (by decide) (by simp) (fun hx => ?_) ?_
 ·simp at hx
  subst hx
  refine WK [(0, AV.lst true false [])] [] 0 (by simp) (by simp) ?_
  refine AW.seq fun K2 hK2 => ?_
  refine SQ [] [none, none] fun _ _ g r => ?_
  simp
  refine ⟨g _ (by kernel_rfl), r _ _ _ ?_⟩
  refine WK [(4, AV.bool true)] [] 0 (by simp) (by simp) ?_
  refine CT (by simp) ?_
  refine SQ [] [none] fun _ _ g r => ?_
  simp
  refine ⟨g _ (by kernel_rfl), r _ _ _ ?_⟩
  refine WK [(2, AV.lst true true [])] [] 0 (by simp) (by simp) ?_
  refine AW.own' 2 1 true (by simp) (by decide) ?_
  refine AW.ret (hQ _ _ _ ?_ (matchO_0 ?_)).1
  ·simp [Try.f72]
  ·simp
 ·refine WK [(0, AV.nn (Lz v0))] [] 0 (by simp) (by simp) ?_
  refine AW.seq fun K2 hK2 => ?_
  refine SQ [] [none, none] fun _ _ g r => ?_
  simp
  refine ⟨g _ (by kernel_rfl), r _ _ _ ?_⟩
  refine WK [(0, AV.nn (Lz v0)), (4, AV.bool false)] [] 0 (by simp) (by simp) ?_
  refine AW.flg [(0, Lz v0)] [] ⟨.nn, trivial⟩ trivial (by decide) ?_
  refine WK [(0, Lz v0), (4, AV.bool false)] [] 0 (by simp) (by simp) ?_
  refine CF (by simp) ?_
  refine AW.skip ?_
  refine hK2 _ _ _ ?_
  refine SQ [7] [none, none, none, none] fun _ _ g r => ?_
  simp
  and_intros <;> first | exact g _ (by kernel_rfl) | refine r _ _ _ ?_ | omega | (unfold maxLen; omega)
  refine WK [(2, AV.slc 0 0 1 v0.length false)] [(0, .grow (List.map (AV.int .i64) v0))] 1 (by simp) (by simp) ?_
  refine AW.ret (hQ _ _ _ ?_ (matchO_0 ?_)).1
  ·simp [Try.f72]
  ·simp
theorem w_committee_Draw (k : Nat) (v0 : (List Int)) (v1 : (List Int)) (v2 : Int) (v3 : (List Int)) (v4 : Int) (hF : committee_Draw k v0 v1 v2 = some (v3, v4)) :
  FCall Try.prog 85 [AV.lst false false (List.map (AV.int .i64) v0), AV.lst false false (List.map (AV.int .i64) v1), AV.int .i64 v2] [] (AV.tup [AV.slc 0 0 1 v3.length false, AV.int .i64 v4]) [some (.grow (List.map (AV.int .i64) v3))] := by
 unfold committee_Draw at hF
 refine EN Try.func85 ?_
 intro c0 w0 Q h0 hQ
 refine WK [(0, Lz v0), (1, Lz v1), (2, Iz v2)] [] 0 (by simp) (by simp) ?_
 refine SQ [] [none, none] fun _ _ g r => ?_
 try simp
 and_intros <;> first | exact g _ (by kernel_rfl) | refine r _ _ _ ?_ | omega | (simp [maxLen] <;> omega)
 refine WK [(0, Lz v0), (1, Lz v1), (2, Iz v2)] [] 0 (by simp) (by simp) ?_
 refine AW.seq fun K204 hK204 => ?_
 refine SQ [] [none, none, none] fun _ _ g r => ?_
 try simp
 and_intros
 try any_goals first | omega | (simp [maxLen] <;> omega)
 obtain ⟨v5, h1, hF⟩ := bnd1_elim hF
 refine AC (w_roster_Valid k _ _ h1) (.cons (.same (by simp)) .nil) ?_
 try simp
 and_intros <;> first | exact g _ (by kernel_rfl) | refine r _ _ _ ?_ | omega | (simp [maxLen] <;> omega)
 refine WK [(0, Lz v0), (1, Lz v1), (2, Iz v2), (16, AV.bool (!v5))] [] 0 (by simp) (by simp) ?_
 by_cases h2 : (!v5) = true
 ·replace hF := ite_t h2 hF
  have h2_ := h2
  try simp at h2_
  refine CT (by simp [h2, h2_] <;> omega) ?_
  refine SQ [] [none, none] fun _ _ g r => ?_
  try simp [h2, h2_]
  and_intros <;> first | exact g _ (by kernel_rfl) | refine r _ _ _ ?_ | omega | (simp [h2, h2_, maxLen] <;> omega)
  refine WK [(6, AV.lst true true (List.map (AV.int .i64) ([] : List Int))), (7, Iz 43)] [] 0 (by simp [h2, h2_]) (by simp [h2, h2_]) ?_
  refine AW.own' 6 1 true (by simp [h2, h2_]) (by decide) ?_
  simp only [Option.some.injEq, Prod.mk.injEq] at hF
  obtain ⟨e0, e1⟩ := hF
  subst e0 e1
  refine AW.ret (hQ _ _ _ ?_ (matchO_0 ?_)).1
  ·simp [Try.f85, h2, h2_]
  ·simp [h2, h2_]
 ·replace hF := ite_f h2 hF
  have h2_ := h2
  try simp at h2_
  refine CF (by simp [h2, h2_] <;> omega) ?_
  refine AW.skip ?_
  refine hK204 _ _ _ ?_
  refine SQ [] [none, none, none, none, none] fun _ _ g r => ?_
  obtain ⟨v6, h3, hF⟩ := let1_elim hF
  have h3_ := h3
  try simp at h3_
  have F1 := And.intro h2 (And.intro h2_ (And.intro h3 h3_))
  try simp [F1]
  and_intros <;> first | exact g _ (by kernel_rfl) | refine r _ _ _ ?_ | omega | (simp [maxLen, F1] <;> omega)
  refine WK [(0, Lz v0), (1, Lz v1), (2, Iz v2), (8, Iz v6)] [] 0 (by simp [F1]) (by simp [F1]) ?_
  refine AW.seq fun K212 hK212 => ?_
  refine SQ [] [none, none, none, some (23, false), some (23, false), none, none, some (27, false), some (27, false), some (27, false), some (27, false), none] fun _ _ g r => ?_
  by_cases h4 : v2 < 1
  ·replace hF := ite_t h4 hF
   have h4_ := h4
   try simp at h4_
   have F2 := And.intro F1 (And.intro h4 h4_)
   try simp [F2]
   and_intros <;> first | exact g _ (by kernel_rfl) | refine r _ _ _ ?_ | omega | (simp [maxLen, F2] <;> omega)
   refine WK [(0, Lz v0), (1, Lz v1), (8, Iz v6), (32, AV.bool true)] [] 0 (by simp [F2]) (by simp [F2]) ?_
   refine CT (by simp [F2]) ?_
   refine SQ [] [none, none] fun _ _ g r => ?_
   try simp [F2]
   and_intros <;> first | exact g _ (by kernel_rfl) | refine r _ _ _ ?_ | omega | (simp [maxLen, F2] <;> omega)
   refine WK [(6, AV.lst true true (List.map (AV.int .i64) ([] : List Int))), (7, Iz 44)] [] 0 (by simp [F2]) (by simp [F2]) ?_
   refine AW.own' 6 1 true (by simp [F2]) (by decide) ?_
   simp only [Option.some.injEq, Prod.mk.injEq] at hF
   obtain ⟨e0, e1⟩ := hF
   subst e0 e1
   refine AW.ret (hQ _ _ _ ?_ (matchO_0 ?_)).1
   ·simp [Try.f85, F2]
   ·simp [F2]
  ·replace hF := ite_f h4 hF
   have h4_ := h4
   try simp at h4_
   by_cases h5 : 9 < v2
   ·replace hF := ite_t h5 hF
    have h5_ := h5
    try simp at h5_
    have F3 := And.intro F1 (And.intro h4 (And.intro h4_ (And.intro h5 h5_)))
    try simp [F3]
    and_intros <;> first | exact g _ (by kernel_rfl) | refine r _ _ _ ?_ | omega | (simp [maxLen, F3] <;> omega)
    refine WK [(0, Lz v0), (1, Lz v1), (8, Iz v6), (32, AV.bool true)] [] 0 (by simp [F3]) (by simp [F3]) ?_
    refine CT (by simp [F3]) ?_
    refine SQ [] [none, none] fun _ _ g r => ?_
    try simp [F3]
    and_intros <;> first | exact g _ (by kernel_rfl) | refine r _ _ _ ?_ | omega | (simp [maxLen, F3] <;> omega)
    refine WK [(6, AV.lst true true (List.map (AV.int .i64) ([] : List Int))), (7, Iz 44)] [] 0 (by simp [F3]) (by simp [F3]) ?_
    refine AW.own' 6 1 true (by simp [F3]) (by decide) ?_
    simp only [Option.some.injEq, Prod.mk.injEq] at hF
    obtain ⟨e0, e1⟩ := hF
    subst e0 e1
    refine AW.ret (hQ _ _ _ ?_ (matchO_0 ?_)).1
    ·simp [Try.f85, F3]
    ·simp [F3]
   ·replace hF := ite_f h5 hF
    have h5_ := h5
    try simp at h5_
    have F4 := And.intro F1 (And.intro h4 (And.intro h4_ (And.intro h5 h5_)))
    try simp [F4]
    and_intros <;> first | exact g _ (by kernel_rfl) | refine r _ _ _ ?_ | omega | (simp [maxLen, F4] <;> omega)
    refine WK [(0, Lz v0), (1, Lz v1), (8, Iz v6), (32, AV.bool (decide ((v1.length : Int) < v6)))] [] 0 (by simp [F4]) (by simp [F4]) ?_
    by_cases h6 : (v1.length : Int) < v6
    ·replace hF := ite_t h6 hF
     have h6_ := h6
     try simp at h6_
     have F5 := And.intro F4 (And.intro h6 h6_)
     refine CT (by simp [F5] <;> omega) ?_
     refine SQ [] [none, none] fun _ _ g r => ?_
     try simp [F5]
     and_intros <;> first | exact g _ (by kernel_rfl) | refine r _ _ _ ?_ | omega | (simp [maxLen, F5] <;> omega)
     refine WK [(6, AV.lst true true (List.map (AV.int .i64) ([] : List Int))), (7, Iz 44)] [] 0 (by simp [F5]) (by simp [F5]) ?_
     refine AW.own' 6 1 true (by simp [F5]) (by decide) ?_
     simp only [Option.some.injEq, Prod.mk.injEq] at hF
     obtain ⟨e0, e1⟩ := hF
     subst e0 e1
     refine AW.ret (hQ _ _ _ ?_ (matchO_0 ?_)).1
     ·simp [Try.f85, F5]
     ·simp [F5]
    ·replace hF := ite_f h6 hF
     have h6_ := h6
     try simp at h6_
     have F6 := And.intro F4 (And.intro h6 h6_)
     refine CF (by simp [F6] <;> omega) ?_
     refine AW.skip ?_
     refine hK212 _ _ _ ?_
     refine SQ [] [none, none, none] fun _ _ g r => ?_
     try simp [F6]
     and_intros
     try any_goals first | omega | (simp [maxLen, F6] <;> omega)
     obtain ⟨v7, h7, hF⟩ := bnd1_elim hF
     refine AC (w_slices_Clone_int_int k _ _ h7) (.cons (.same (by simp [F6])) .nil) ?_
     try simp [F6]
     and_intros <;> first | exact g _ (by kernel_rfl) | refine r _ _ _ ?_ | omega | (simp [maxLen, F6] <;> omega)
     refine WK [(1, Lz v1), (8, Iz v6), (9, AV.slc 0 0 1 v7.length false)] [(0, .grow (List.map (AV.int .i64) v7))] 1 (by simp [F6]) (by simp [F6]) ?_
     refine AW.frz 0 (o := .grow (List.map (AV.int .i64) v7)) (by simp [F6]) rfl [(9, Lz v7)] [] ⟨(.l (by simp) (by simp) (by simp) (by simp)), trivial⟩ trivial ?_
     refine WK [(1, Lz v1), (8, Iz v6), (9, Lz v7)] [] 1 (by simp [F6]) (by simp [F6]) ?_
     refine SQ [] [none] fun _ _ g r => ?_
     try simp [F6]
     and_intros <;> first | exact g _ (by kernel_rfl) | refine r _ _ _ ?_ | omega | (simp [maxLen, F6] <;> omega)
     refine WK [(1, Lz v1), (8, Iz v6), (9, Lz v7), (10, AV.lst true true (List.map (AV.int .i64) ([] : List Int)))] [] 1 (by simp [F6]) (by simp [F6]) ?_
     refine AW.seq fun K309 hK309 => ?_
     refine SQ [] [none, none, none, none, none] fun _ _ g r => ?_
     obtain ⟨⟨h8, h9⟩, hF⟩ := chk_elim hF
     have h8_ := h8
     try simp at h8_
     have h9_ := h9
     try simp at h9_
     have F7 := And.intro F6 (And.intro h8 (And.intro h9 (And.intro h8_ h9_)))
     try simp [F7]
     and_intros <;> first | exact g _ (by kernel_rfl) | refine r _ _ _ ?_ | omega | (simp [maxLen, F7] <;> omega)
     refine WK [(9, Lz v7), (10, AV.lst true true (List.map (AV.int .i64) ([] : List Int))), (37, Lz (v1.take (v6).toNat)), (38, Iz ((v1.take (v6).toNat).length : Int)), (39, Iz 0)] [] 1 (by simp [F7]) (by simp [F7]) ?_
     refine AW.block ?_
     refine AW.own' 10 1 true (by simp [F7]) (by decide) ?_
     refine RM h0 [(0, 1)] [(9, Lz v7), (10, AV.slc 0 0 1 (([] : List Int).length) false), (37, Lz (v1.take (v6).toNat)), (38, Iz ((v1.take (v6).toNat).length : Int)), (39, Iz 0)] [(0, .grow (List.map (AV.int .i64) ([] : List Int)))] 1 (by simp [F7]) (by simp [F7]) ?_
     refine AW.loopF (α := ((List Int) × Int × (List Int))) (fun n (v8, v9, v10) => committee_Draw.L1 k v1 v6 n v8 v9 v10 = some (v3, v4)) (fun (v8, v9, v10) => [(9, Lz v8), (10, AV.slc 0 0 1 v10.length false), (37, Lz (v1.take (v6).toNat)), (38, Iz ((v1.take (v6).toNat).length : Int)), (39, Iz v9)]) (fun (v8, v9, v10) => [(0, .grow (List.map (AV.int .i64) v10))]) 1 k ((v7, 0, ([] : List Int))) hF (by simp [F7]) (by simp [F7]) (by simp) ?_
     rintro (_|n1) ⟨v8, v9, v10⟩ hF K377 hK377
     ·try dsimp only at hF
      rw [committee_Draw.L1] at hF; cases hF
     try dsimp only at hF
     rw [committee_Draw.L1] at hF
     refine SQ [] [none] fun _ _ g r => ?_
     try simp [F7]
     and_intros <;> first | exact g _ (by kernel_rfl) | refine r _ _ _ ?_ | omega | (simp [maxLen, F7] <;> omega)
     refine WK [(9, Lz v8), (10, AV.slc 0 0 1 v10.length false), (37, Lz (v1.take (v6).toNat)), (38, Iz ((v1.take (v6).toNat).length : Int)), (39, Iz v9), (40, AV.bool (decide (v9 < ((v1.take (v6).toNat).length : Int))))] [(0, .grow (List.map (AV.int .i64) v10))] 1 (by simp [F7]) (by simp [F7]) ?_
     refine AW.seq fun K379 hK379 => ?_
     by_cases h10 : v9 < ((v1.take (v6).toNat).length : Int)
     ·replace hF := ite_t h10 hF
      have h10_ := h10
      try simp at h10_
      have F8 := And.intro F7 (And.intro h10 h10_)
      refine CT (by simp [F8] <;> omega) ?_
      refine AW.skip ?_
      refine hK379 _ _ _ ?_
      refine AW.seq fun K389 hK389 => ?_
      refine AW.block ?_
      refine SQ [] [none, none, none] fun _ _ g r => ?_
      obtain ⟨v11, h11, h12, h13, hF⟩ := idx_elim hF
      have h13_ := get_of h13
      try simp at h13_
      have h12_ := h12
      try simp at h12_
      have h12t := h12
      rw [List.length_take] at h12t
      have h12u := (Nat.lt_min.1 h12t).1
      have h12v := (Nat.lt_min.1 h12t).2
      have F9 := And.intro F8 (And.intro h11 (And.intro h12 (And.intro h13 (And.intro h13_ (And.intro h12_ (And.intro h12u h12v))))))
      try simp [F9]
      and_intros <;> first | exact g _ (by kernel_rfl) | refine r _ _ _ ?_ | omega | (simp [maxLen, F9] <;> omega)
      refine WK [(9, Lz v8), (10, AV.slc 0 0 1 v10.length false), (12, Iz v11), (37, Lz (v1.take (v6).toNat)), (38, Iz ((v1.take (v6).toNat).length : Int)), (39, Iz v9)] [(0, .grow (List.map (AV.int .i64) v10))] 1 (by simp [F9]) (by simp [F9]) ?_
      refine AW.seq fun K393 hK393 => ?_
      refine SQ [] [none, none] fun _ _ g r => ?_
      try simp [F9]
      and_intros <;> first | exact g _ (by kernel_rfl) | refine r _ _ _ ?_ | omega | (simp [maxLen, F9] <;> omega)
      refine WK [(9, Lz v8), (10, AV.slc 0 0 1 v10.length false), (12, Iz v11), (37, Lz (v1.take (v6).toNat)), (38, Iz ((v1.take (v6).toNat).length : Int)), (39, Iz v9), (44, AV.bool (decide (v11 < 0)))] [(0, .grow (List.map (AV.int .i64) v10))] 1 (by simp [F9]) (by simp [F9]) ?_
      by_cases h14 : v11 < 0
      ·replace hF := ite_t h14 hF
       have h14_ := h14
       try simp at h14_
       have F10 := And.intro F9 (And.intro h14 h14_)
       refine CT (by simp [F10] <;> omega) ?_
       refine SQ [] [none, none] fun _ _ g r => ?_
       try simp [F10]
       and_intros <;> first | exact g _ (by kernel_rfl) | refine r _ _ _ ?_ | omega | (simp [maxLen, F10] <;> omega)
       refine WK [(6, AV.lst true true (List.map (AV.int .i64) ([] : List Int))), (7, Iz 44)] [] 1 (by simp [F10]) (by simp [F10]) ?_
       refine AW.own' 6 1 true (by simp [F10]) (by decide) ?_
       refine RM h0 [(0, 1)] [(6, AV.slc 0 0 1 (([] : List Int).length) false), (7, Iz 44)] [(0, .grow (List.map (AV.int .i64) ([] : List Int)))] 1 (by simp [F10]) (by simp [F10]) ?_
       simp only [Option.some.injEq, Prod.mk.injEq] at hF
       obtain ⟨e0, e1⟩ := hF
       subst e0 e1
       refine AW.ret (hQ _ _ _ ?_ (matchO_0 ?_)).1
       ·simp [Try.f85, F10]
       ·simp [F10]
      ·replace hF := ite_f h14 hF
       have h14_ := h14
       try simp at h14_
       have F11 := And.intro F9 (And.intro h14 h14_)
       refine CF (by simp [F11] <;> omega) ?_
       refine AW.skip ?_
       refine hK393 _ _ _ ?_
       refine SQ [] [none, none, none, none, none] fun _ _ g r => ?_
       obtain ⟨h15, hF⟩ := chk_elim hF
       have h15_ := h15
       try simp at h15_
       have F12 := And.intro F11 (And.intro h15 h15_)
       try simp [F12]
       and_intros <;> first | exact g _ (by kernel_rfl) | refine r _ _ _ ?_ | omega | (simp [maxLen, F12] <;> omega)
       refine WK [(9, Lz v8), (10, AV.slc 0 0 1 v10.length false), (13, Iz (Int.tmod v11 (v8.length : Int))), (37, Lz (v1.take (v6).toNat)), (38, Iz ((v1.take (v6).toNat).length : Int)), (39, Iz v9)] [(0, .grow (List.map (AV.int .i64) v10))] 1 (by simp [F12]) (by simp [F12]) ?_
       refine SQ [] [none, none, none, none, none, none, none, none] fun _ _ g r => ?_
       obtain ⟨v12, h16, h17, h18, hF⟩ := idx_elim hF
       have h18_ := get_of h18
       try simp at h18_
       have h17_ := h17
       try simp at h17_
       obtain ⟨h19, hF⟩ := chk_elim hF
       have h19_ := h19
       try simp at h19_
       have F13 := And.intro F12 (And.intro h16 (And.intro h17 (And.intro h18 (And.intro h18_ (And.intro h17_ h19)))))
       try simp [F13]
       and_intros <;> first | exact g _ (by kernel_rfl) | refine r _ _ _ ?_ | omega | (simp [maxLen, F13] <;> omega)
       refine WK [(9, Lz v8), (10, AV.slc 1 0 1 ((v10 ++ ([v12] : List Int)).length) false), (13, Iz (Int.tmod v11 (v8.length : Int))), (37, Lz (v1.take (v6).toNat)), (38, Iz ((v1.take (v6).toNat).length : Int)), (39, Iz v9)] [(1, .grow (List.map (AV.int .i64) (v10 ++ ([v12] : List Int))))] 2 (by simp [F13] <;> omega) (by simp [F13]) ?_
       refine RG [] [none, none, none, none, none, none, none, none, none, none] fun _ _ g r => ?_
       obtain ⟨⟨h20, h21⟩, hF⟩ := chk_elim hF
       have h20_ := h20
       try simp at h20_
       have h21_ := h21
       try simp at h21_
       obtain ⟨⟨h22, h23⟩, hF⟩ := chk_elim hF
       have h22_ := h22
       try simp at h22_
       have h23_ := h23
       try simp at h23_
       obtain ⟨h24, hF⟩ := chk_elim hF
       have h24_ := h24
       try simp at h24_
       have F14 := And.intro F13 (And.intro h20 (And.intro h21 (And.intro h20_ (And.intro h21_ (And.intro h22 (And.intro h23 (And.intro h22_ (And.intro h23_ h24))))))))
       try simp [F14]
       and_intros <;> first | exact g _ (by kernel_rfl) | refine r _ _ _ ?_ | omega | (simp [maxLen, F14] <;> omega)
       refine hK389 _ _ _ ?_
       refine WK [(9, Lz ((v8.take (Int.tmod v11 (v8.length : Int)).toNat) ++ (v8.drop (IntKind.wrap .i64 (Int.tmod v11 (v8.length : Int) + 1)).toNat))), (10, AV.slc 1 0 1 ((v10 ++ ([v12] : List Int)).length) false), (37, Lz (v1.take (v6).toNat)), (38, Iz ((v1.take (v6).toNat).length : Int)), (39, Iz v9)] [(1, .grow (List.map (AV.int .i64) (v10 ++ ([v12] : List Int))))] 2 (by simp [F14] <;> omega) (by simp [F14]) ?_
       refine RG [] [none, none] fun _ _ g r => ?_
       try simp [F14]
       and_intros <;> first | exact g _ (by kernel_rfl) | refine r _ _ _ ?_ | omega | (simp [maxLen, F14] <;> omega)
       refine hK377 _ _ _ ?_
       refine RN h0 [(0, 1)] [(9, Lz ((v8.take (Int.tmod v11 (v8.length : Int)).toNat) ++ (v8.drop (IntKind.wrap .i64 (Int.tmod v11 (v8.length : Int) + 1)).toNat))), (10, AV.slc 0 0 1 ((v10 ++ ([v12] : List Int)).length) false), (37, Lz (v1.take (v6).toNat)), (38, Iz ((v1.take (v6).toNat).length : Int)), (39, Iz (IntKind.wrap .i64 (v9 + 1)))] [(0, .grow (List.map (AV.int .i64) (v10 ++ ([v12] : List Int))))] 1 (by simp [F14] <;> omega) (by simp [F14]) ?_
       exact NX (k' := n1) (((v8.take (Int.tmod v11 (v8.length : Int)).toNat) ++ (v8.drop (IntKind.wrap .i64 (Int.tmod v11 (v8.length : Int) + 1)).toNat), IntKind.wrap .i64 (v9 + 1), v10 ++ ([v12] : List Int))) hF (by simp [F14]) (by simp [F14])
     ·replace hF := ite_f h10 hF
      have h10_ := h10
      try simp at h10_
      have F15 := And.intro F7 (And.intro h10 h10_)
      refine CF (by simp [F15] <;> omega) ?_
      refine AW.exit ?_
      try simp
      refine hK309 _ _ _ ?_
      refine SQ [] [none, none, none] fun _ _ g r => ?_
      try simp [F15]
      and_intros <;> first | exact g _ (by kernel_rfl) | refine r _ _ _ ?_ | omega | (simp [maxLen, F15] <;> omega)
      refine WK [(6, AV.slc 0 0 1 v10.length false), (7, Iz 0)] [(0, .grow (List.map (AV.int .i64) v10))] 1 (by simp [F15]) (by simp [F15]) ?_
      simp only [Option.some.injEq, Prod.mk.injEq] at hF
      obtain ⟨e0, e1⟩ := hF
      subst e0 e1
      refine AW.ret (hQ _ _ _ ?_ (matchO_0 ?_)).1
      ·simp [Try.f85, F15]
      ·simp [F15]
theorem w_ref23_SameInts (k : Nat) (v0 : (List Int)) (v1 : (List Int)) (v2 : Bool) (hF : ref23_SameInts k v0 v1 = some v2) :
  FCall Try.prog 32 [AV.lst false false (List.map (AV.int .i64) v0), AV.lst false false (List.map (AV.int .i64) v1)] [] (AV.bool v2) [] := by
 unfold ref23_SameInts at hF
 refine EN Try.func32 ?_
 intro c0 w0 Q h0 hQ
 refine WK [(0, Lz v0), (1, Lz v1)] [] 0 (by simp) (by simp) ?_
 refine SQ [] [none] fun _ _ g r => ?_
 try simp
 and_intros <;> first | exact g _ (by kernel_rfl) | refine r _ _ _ ?_ | omega | (simp [maxLen] <;> omega)
 refine WK [(0, Lz v0), (1, Lz v1)] [] 0 (by simp) (by simp) ?_
 refine AW.seq fun K88 hK88 => ?_
 refine SQ [] [none, none, none, none, none] fun _ _ g r => ?_
 try simp
 and_intros <;> first | exact g _ (by kernel_rfl) | refine r _ _ _ ?_ | omega | (simp [maxLen] <;> omega)
 refine WK [(0, Lz v0), (1, Lz v1), (10, AV.bool ((v0.length : Int) != (v1.length : Int)))] [] 0 (by simp) (by simp) ?_
 by_cases h1 : (v0.length : Int) ≠ (v1.length : Int)
 ·replace hF := ite_t h1 hF
  have h1_ := eqb_f h1
  have h1__ := neb_t h1
  have F1 := And.intro h1 (And.intro h1_ h1__)
  refine CT (by simp [F1] <;> omega) ?_
  refine SQ [] [none] fun _ _ g r => ?_
  try simp [F1]
  and_intros <;> first | exact g _ (by kernel_rfl) | refine r _ _ _ ?_ | omega | (simp [maxLen, F1] <;> omega)
  refine WK [(4, AV.bool false)] [] 0 (by simp [F1]) (by simp [F1]) ?_
  simp only [Option.some.injEq] at hF
  subst hF
  refine AW.ret (hQ _ _ _ ?_ (matchO_0 ?_)).1
  ·simp [Try.f32, F1]
  ·simp [F1]
 ·replace hF := ite_f h1 hF
  have h1q : (v0.length : Int) = (v1.length : Int) := Classical.not_not.1 h1
  have h1_ := eqb_t h1q
  have h1__ := neb_f h1q
  refine CF (by simp [h1_, h1__] <;> omega) ?_
  refine AW.skip ?_
  refine hK88 _ _ _ ?_
  refine AW.seq fun K129 hK129 => ?_
  refine SQ [] [none] fun _ _ g r => ?_
  try simp [h1_, h1__]
  and_intros <;> first | exact g _ (by kernel_rfl) | refine r _ _ _ ?_ | omega | (simp [h1_, h1__, maxLen] <;> omega)
  refine WK [(0, Lz v0), (1, Lz v1), (5, Iz 0)] [] 0 (by simp [h1_, h1__]) (by simp [h1_, h1__]) ?_
  refine AW.block ?_
  refine AW.loopF (α := Int) (fun n v3 => ref23_SameInts.L1 k v0 v1 n v3 = some v2) (fun v3 => [(0, Lz v0), (1, Lz v1), (5, Iz v3)]) (fun v3 => []) 0 k (0) hF (by simp [h1_, h1__]) (by simp [h1_, h1__]) (by simp) ?_
  rintro (_|n1) v3 hF K158 hK158
  ·try dsimp only at hF
   rw [ref23_SameInts.L1] at hF; cases hF
  try dsimp only at hF
  rw [ref23_SameInts.L1] at hF
  refine AW.seq fun K160 hK160 => ?_
  refine SQ [] [none, none, none, none] fun _ _ g r => ?_
  try simp [h1_, h1__]
  and_intros <;> first | exact g _ (by kernel_rfl) | refine r _ _ _ ?_ | omega | (simp [h1_, h1__, maxLen] <;> omega)
  refine WK [(0, Lz v0), (1, Lz v1), (5, Iz v3), (14, AV.bool (decide (v3 < (v0.length : Int))))] [] 0 (by simp [h1_, h1__]) (by simp [h1_, h1__]) ?_
  by_cases h2 : v3 < (v0.length : Int)
  ·replace hF := ite_t h2 hF
   have h2_ := h2
   try simp at h2_
   have F2 := And.intro h1_ (And.intro h1__ (And.intro h2 h2_))
   refine CT (by simp [F2] <;> omega) ?_
   refine AW.skip ?_
   refine hK160 _ _ _ ?_
   refine AW.seq fun K164 hK164 => ?_
   refine AW.block ?_
   refine SQ [] [none, none, none, none, none, none, none, none, none] fun _ _ g r => ?_
   obtain ⟨v4, h3, h4, h5, hF⟩ := idx_elim hF
   have h5_ := get_of h5
   try simp at h5_
   have h4_ := h4
   try simp at h4_
   obtain ⟨v5, h6, h7, h8, hF⟩ := idx_elim hF
   have h8_ := get_of h8
   try simp at h8_
   have h7_ := h7
   try simp at h7_
   have F3 := And.intro F2 (And.intro h3 (And.intro h4 (And.intro h5 (And.intro h5_ (And.intro h4_ (And.intro h6 (And.intro h7 (And.intro h8 (And.intro h8_ h7_)))))))))
   try simp [F3]
   and_intros <;> first | exact g _ (by kernel_rfl) | refine r _ _ _ ?_ | omega | (simp [maxLen, F3] <;> omega)
   refine WK [(0, Lz v0), (1, Lz v1), (5, Iz v3), (25, AV.bool (v4 != v5))] [] 0 (by simp [F3]) (by simp [F3]) ?_
   by_cases h9 : v4 ≠ v5
   ·replace hF := ite_t h9 hF
    have h9_ := eqb_f h9
    have h9__ := neb_t h9
    have F4 := And.intro F3 (And.intro h9 (And.intro h9_ h9__))
    refine CT (by simp [F4] <;> omega) ?_
    refine SQ [] [none] fun _ _ g r => ?_
    try simp [F4]
    and_intros <;> first | exact g _ (by kernel_rfl) | refine r _ _ _ ?_ | omega | (simp [maxLen, F4] <;> omega)
    refine WK [(4, AV.bool false)] [] 0 (by simp [F4]) (by simp [F4]) ?_
    simp only [Option.some.injEq] at hF
    subst hF
    refine AW.ret (hQ _ _ _ ?_ (matchO_0 ?_)).1
    ·simp [Try.f32, F4]
    ·simp [F4]
   ·replace hF := ite_f h9 hF
    have h9q : v4 = v5 := Classical.not_not.1 h9
    have h9_ := eqb_t h9q
    have h9__ := neb_f h9q
    have F5 := And.intro F3 (And.intro h9_ h9__)
    refine CF (by simp [F5] <;> omega) ?_
    refine AW.skip ?_
    refine hK164 _ _ _ ?_
    refine RG [] [none, none, none] fun _ _ g r => ?_
    try simp [F5]
    and_intros <;> first | exact g _ (by kernel_rfl) | refine r _ _ _ ?_ | omega | (simp [maxLen, F5] <;> omega)
    refine hK158 _ _ _ ?_
    exact NX (k' := n1) (IntKind.wrap .i64 (v3 + 1)) hF (by simp [F5]) (by simp [F5])
  ·replace hF := ite_f h2 hF
   have h2_ := h2
   try simp at h2_
   have F6 := And.intro h1_ (And.intro h1__ (And.intro h2 h2_))
   refine CF (by simp [F6] <;> omega) ?_
   refine AW.exit ?_
   try simp
   refine hK129 _ _ _ ?_
   refine SQ [] [none] fun _ _ g r => ?_
   try simp [F6]
   and_intros <;> first | exact g _ (by kernel_rfl) | refine r _ _ _ ?_ | omega | (simp [maxLen, F6] <;> omega)
   refine WK [(4, AV.bool true)] [] 0 (by simp [F6]) (by simp [F6]) ?_
   simp only [Option.some.injEq] at hF
   subst hF
   refine AW.ret (hQ _ _ _ ?_ (matchO_0 ?_)).1
   ·simp [Try.f32, F6]
   ·simp [F6]
theorem w_committee_Quorum (k : Nat) (v0 : Int) (v1 : Int) (hF : committee_Quorum k v0 = some v1) :
  FCall Try.prog 55 [AV.int .i64 v0] [] (AV.int .i64 v1) [] := by
 unfold committee_Quorum at hF
 refine EN Try.func55 ?_
 intro c0 w0 Q h0 hQ
 refine WK [(0, Iz v0)] [] 0 (by simp) (by simp) ?_
 refine SQ [] [none] fun _ _ g r => ?_
 try simp
 and_intros <;> first | exact g _ (by kernel_rfl) | refine r _ _ _ ?_ | omega | (simp [maxLen] <;> omega)
 refine WK [(0, Iz v0)] [] 0 (by simp) (by simp) ?_
 refine AW.seq fun K14 hK14 => ?_
 refine SQ [] [none, none, none, some (5, false), some (5, false), none] fun _ _ g r => ?_
 by_cases h1 : v0 < 1
 ·replace hF := ite_t h1 hF
  have h1_ := h1
  try simp at h1_
  try simp [h1, h1_]
  and_intros <;> first | exact g _ (by kernel_rfl) | refine r _ _ _ ?_ | omega | (simp [h1, h1_, maxLen] <;> omega)
  refine WK [(0, Iz v0), (8, AV.bool true)] [] 0 (by simp [h1, h1_]) (by simp [h1, h1_]) ?_
  refine CT (by simp [h1, h1_]) ?_
  refine SQ [] [none] fun _ _ g r => ?_
  try simp [h1, h1_]
  and_intros <;> first | exact g _ (by kernel_rfl) | refine r _ _ _ ?_ | omega | (simp [h1, h1_, maxLen] <;> omega)
  refine WK [(2, Iz 0)] [] 0 (by simp [h1, h1_]) (by simp [h1, h1_]) ?_
  simp only [Option.some.injEq] at hF
  subst hF
  refine AW.ret (hQ _ _ _ ?_ (matchO_0 ?_)).1
  ·simp [Try.f55, h1, h1_]
  ·simp [h1, h1_]
 ·replace hF := ite_f h1 hF
  have h1_ := h1
  try simp at h1_
  try simp [h1, h1_]
  and_intros <;> first | exact g _ (by kernel_rfl) | refine r _ _ _ ?_ | omega | (simp [h1, h1_, maxLen] <;> omega)
  refine WK [(0, Iz v0), (8, AV.bool (decide (9 < v0)))] [] 0 (by simp [h1, h1_]) (by simp [h1, h1_]) ?_
  by_cases h2 : 9 < v0
  ·replace hF := ite_t h2 hF
   have h2_ := h2
   try simp at h2_
   have F1 := And.intro h1 (And.intro h1_ (And.intro h2 h2_))
   refine CT (by simp [F1] <;> omega) ?_
   refine SQ [] [none] fun _ _ g r => ?_
   try simp [F1]
   and_intros <;> first | exact g _ (by kernel_rfl) | refine r _ _ _ ?_ | omega | (simp [maxLen, F1] <;> omega)
   refine WK [(2, Iz 0)] [] 0 (by simp [F1]) (by simp [F1]) ?_
   simp only [Option.some.injEq] at hF
   subst hF
   refine AW.ret (hQ _ _ _ ?_ (matchO_0 ?_)).1
   ·simp [Try.f55, F1]
   ·simp [F1]
  ·replace hF := ite_f h2 hF
   have h2_ := h2
   try simp at h2_
   have F2 := And.intro h1 (And.intro h1_ (And.intro h2 h2_))
   refine CF (by simp [F2] <;> omega) ?_
   refine AW.skip ?_
   refine hK14 _ _ _ ?_
   refine SQ [] [none, none, none, none, none] fun _ _ g r => ?_
   try simp [F2]
   and_intros <;> first | exact g _ (by kernel_rfl) | refine r _ _ _ ?_ | omega | (simp [maxLen, F2] <;> omega)
   refine WK [(2, Iz (IntKind.wrap .i64 (IntKind.wrap .i64 (Int.tdiv (IntKind.wrap .i64 (3 * v0)) 4) + 1)))] [] 0 (by simp [F2]) (by simp [F2]) ?_
   simp only [Option.some.injEq] at hF
   subst hF
   refine AW.ret (hQ _ _ _ ?_ (matchO_0 ?_)).1
   ·simp [Try.f55, F2]
   ·simp [F2]
theorem w_law26_awake (k : Nat) (v0 : Bool) (hF : law26_awake k = some v0) :
  FCall Try.prog 48 [] [] (AV.bool v0) [] := by
 unfold law26_awake at hF
 refine EN Try.func48 ?_
 intro c0 w0 Q h0 hQ
 refine WK [] [] 0 (by simp) (by simp) ?_
 refine SQ [] [none] fun _ _ g r => ?_
 try simp
 and_intros <;> first | exact g _ (by kernel_rfl) | refine r _ _ _ ?_ | omega | (simp [maxLen] <;> omega)
 refine WK [] [] 0 (by simp) (by simp) ?_
 refine SQ [] [none, none, none, none, none, none, none, none] fun _ _ g r => ?_
 try simp
 and_intros
 try any_goals first | omega | (simp [maxLen] <;> omega)
 obtain ⟨v1, v2, h1, hF⟩ := bnd2_elim hF
 refine AC (w_committee_Draw k _ _ _ _ _ h1) (.cons (Coe.fl (by simp)) (.cons (Coe.fl (by simp)) (.cons (.same (by simp)) .nil))) ?_
 try simp
 and_intros <;> first | exact g _ (by kernel_rfl) | refine r _ _ _ ?_ | omega | (simp [maxLen] <;> omega)
 refine WK [(1, AV.slc 0 0 1 v1.length false), (2, Iz v2)] [(0, .grow (List.map (AV.int .i64) v1))] 1 (by simp) (by simp) ?_
 refine AW.frz 0 (o := .grow (List.map (AV.int .i64) v1)) (by simp) rfl [(1, Lz v1)] [] ⟨(.l (by simp) (by simp) (by simp) (by simp)), trivial⟩ trivial ?_
 refine WK [(1, Lz v1), (2, Iz v2)] [] 1 (by simp) (by simp) ?_
 refine SQ [] [none, none, none, some (11, true), some (11, true), some (11, true), none, none, some (16, true), some (16, true), none, none, some (20, true), some (20, true), none, none, some (24, true), some (24, true), none, none] fun _ _ g r => ?_
 by_cases h2 : v2 = 0
 ·replace hF := ite_t h2 hF
  have h2q : v2 = 0 := h2
  have h2_ := eqb_t h2q
  have h2__ := neb_f h2q
  have F1 := And.intro h2_ (And.intro h2__ h2q)
  try simp [F1]
  and_intros
  try any_goals first | omega | (simp [maxLen, F1] <;> omega)
  obtain ⟨v3, h3, hF⟩ := bnd1_elim hF
  refine AC (w_ref23_SameInts k _ _ _ h3) (.cons (.same (by simp [F1])) (.cons (Coe.fl (by simp [F1])) .nil)) ?_
  by_cases h4 : v3 = true
  ·replace hF := ite_t h4 hF
   have h4_ := h4
   try simp at h4_
   have F2 := And.intro F1 (And.intro h4 h4_)
   try simp [F2]
   and_intros
   try any_goals first | omega | (simp [maxLen, F2] <;> omega)
   obtain ⟨v4, h5, hF⟩ := bnd1_elim hF
   refine AC (w_committee_Quorum k _ _ h5) (.cons (.same (by simp [F2])) .nil) ?_
   by_cases h6 : v4 = 4
   ·replace hF := ite_t h6 hF
    have h6q : v4 = 4 := h6
    have h6_ := eqb_t h6q
    have h6__ := neb_f h6q
    have F3 := And.intro F2 (And.intro h6_ (And.intro h6__ h6q))
    try simp [F3]
    and_intros
    try any_goals first | omega | (simp [maxLen, F3] <;> omega)
    obtain ⟨v5, h7, hF⟩ := bnd1_elim hF
    refine AC (w_committee_Quorum k _ _ h7) (.cons (.same (by simp [F3])) .nil) ?_
    by_cases h8 : v5 = 4
    ·replace hF := ite_t h8 hF
     have h8q : v5 = 4 := h8
     have h8_ := eqb_t h8q
     have h8__ := neb_f h8q
     have F4 := And.intro F3 (And.intro h8_ (And.intro h8__ h8q))
     try simp [F4]
     and_intros
     try any_goals first | omega | (simp [maxLen, F4] <;> omega)
     obtain ⟨v6, h9, hF⟩ := bnd1_elim hF
     refine AC (w_committee_Quorum k _ _ h9) (.cons (.same (by simp [F4])) .nil) ?_
     try simp [F4]
     and_intros <;> first | exact g _ (by kernel_rfl) | refine r _ _ _ ?_ | omega | (simp [maxLen, F4] <;> omega)
     refine WK [(0, AV.bool (v6 == 6))] [] 1 (by simp [F4]) (by simp [F4]) ?_
     simp only [Option.some.injEq] at hF
     subst hF
     refine AW.ret (hQ _ _ _ ?_ (matchO_0 ?_)).1
     ·simp [Try.f48, F4]
     ·simp [F4]
    ·replace hF := ite_f h8 hF
     have h8_ := eqb_f h8
     have h8__ := neb_t h8
     have F5 := And.intro F3 (And.intro h8 (And.intro h8_ h8__))
     try simp [F5]
     and_intros <;> first | exact g _ (by kernel_rfl) | refine r _ _ _ ?_ | omega | (simp [maxLen, F5] <;> omega)
     refine WK [(0, AV.bool false)] [] 1 (by simp [F5]) (by simp [F5]) ?_
     simp only [Option.some.injEq] at hF
     subst hF
     refine AW.ret (hQ _ _ _ ?_ (matchO_0 ?_)).1
     ·simp [Try.f48, F5]
     ·simp [F5]
   ·replace hF := ite_f h6 hF
    have h6_ := eqb_f h6
    have h6__ := neb_t h6
    have F6 := And.intro F2 (And.intro h6 (And.intro h6_ h6__))
    try simp [F6]
    and_intros <;> first | exact g _ (by kernel_rfl) | refine r _ _ _ ?_ | omega | (simp [maxLen, F6] <;> omega)
    refine WK [(0, AV.bool false)] [] 1 (by simp [F6]) (by simp [F6]) ?_
    simp only [Option.some.injEq] at hF
    subst hF
    refine AW.ret (hQ _ _ _ ?_ (matchO_0 ?_)).1
    ·simp [Try.f48, F6]
    ·simp [F6]
  ·replace hF := ite_f h4 hF
   have h4_ := h4
   try simp at h4_
   have F7 := And.intro F1 (And.intro h4 h4_)
   try simp [F7]
   and_intros <;> first | exact g _ (by kernel_rfl) | refine r _ _ _ ?_ | omega | (simp [maxLen, F7] <;> omega)
   refine WK [(0, AV.bool false)] [] 1 (by simp [F7]) (by simp [F7]) ?_
   simp only [Option.some.injEq] at hF
   subst hF
   refine AW.ret (hQ _ _ _ ?_ (matchO_0 ?_)).1
   ·simp [Try.f48, F7]
   ·simp [F7]
 ·replace hF := ite_f h2 hF
  have h2_ := eqb_f h2
  have h2__ := neb_t h2
  have F8 := And.intro h2 (And.intro h2_ h2__)
  try simp [F8]
  and_intros <;> first | exact g _ (by kernel_rfl) | refine r _ _ _ ?_ | omega | (simp [maxLen, F8] <;> omega)
  refine WK [(0, AV.bool false)] [] 1 (by simp [F8]) (by simp [F8]) ?_
  simp only [Option.some.injEq] at hF
  subst hF
  refine AW.ret (hQ _ _ _ ?_ (matchO_0 ?_)).1
  ·simp [Try.f48, F8]
  ·simp [F8]
theorem w_made_Roll (k : Nat) (v0 : (List Int)) (v1 : (List Int)) (v2 : Int) (hF : made_Roll k v0 = some (v1, v2)) :
  FCall Try.prog 64 [AV.lst false false (List.map (AV.int .i64) v0)] [] (AV.ptr 0 0) [some (.cells [AV.lst false false (List.map (AV.int .i64) v1), AV.int .i64 v2])] := by
 unfold made_Roll at hF
 refine EN Try.func64 ?_
 intro c0 w0 Q h0 hQ
 refine WK [(0, Lz v0)] [] 0 (by simp) (by simp) ?_
 refine SQ [] [none] fun _ _ g r => ?_
 try simp
 and_intros <;> first | exact g _ (by kernel_rfl) | refine r _ _ _ ?_ | omega | (simp [maxLen] <;> omega)
 refine WK [(0, Lz v0)] [] 0 (by simp) (by simp) ?_
 refine SQ [] [none, none, none, none] fun _ _ g r => ?_
 try simp
 and_intros <;> first | exact g _ (by kernel_rfl) | refine r _ _ _ ?_ | omega | (simp [maxLen] <;> omega)
 refine WK [(2, AV.ptr 0 0)] [(0, .cells [Lz v0, Iz 0])] 1 (by simp) (by simp) ?_
 simp only [Option.some.injEq, Prod.mk.injEq] at hF
 obtain ⟨e0, e1⟩ := hF
 subst e0 e1
 refine AW.ret (hQ _ _ _ ?_ (matchO_0 ?_)).1
 ·simp [Try.f64]
 ·simp
theorem w_mill_Roll (k : Nat) (v0 : (List Int)) (v1 : (List Int)) (v2 : Int) (hF : mill_Roll k v0 = some (v1, v2)) :
  FCall Try.prog 18 [AV.lst false false (List.map (AV.int .i64) v0)] [] (AV.ptr 0 0) [some (.cells [AV.lst false false (List.map (AV.int .i64) v1), AV.int .i64 v2])] := by
 unfold mill_Roll at hF
 refine EN Try.func18 ?_
 intro c0 w0 Q h0 hQ
 refine WK [(0, Lz v0)] [] 0 (by simp) (by simp) ?_
 refine SQ [] [none] fun _ _ g r => ?_
 try simp
 and_intros <;> first | exact g _ (by kernel_rfl) | refine r _ _ _ ?_ | omega | (simp [maxLen] <;> omega)
 refine WK [(0, Lz v0)] [] 0 (by simp) (by simp) ?_
 refine SQ [] [none, none, none] fun _ _ g r => ?_
 try simp
 and_intros
 try any_goals first | omega | (simp [maxLen] <;> omega)
 obtain ⟨v3, v4, h1, hF⟩ := bnd2_elim hF
 refine AC (w_made_Roll k _ _ _ h1) (.cons (.same (by simp)) .nil) ?_
 try simp
 and_intros <;> first | exact g _ (by kernel_rfl) | refine r _ _ _ ?_ | omega | (simp [maxLen] <;> omega)
 refine WK [(2, AV.ptr 0 0)] [(0, .cells [Lz v3, Iz v4])] 1 (by simp) (by simp) ?_
 simp only [Option.some.injEq, Prod.mk.injEq] at hF
 obtain ⟨e0, e1⟩ := hF
 subst e0 e1
 refine AW.ret (hQ _ _ _ ?_ (matchO_0 ?_)).1
 ·simp [Try.f18]
 ·simp
theorem w_made_Mod (k : Nat) (v0 : Int) (v1 : Int) (v2 : Int) (hF : made_Mod k v0 v1 = some v2) :
  FCall Try.prog 12 [AV.int .i64 v0, AV.int .i64 v1] [] (AV.int .i64 v2) [] := by
 unfold made_Mod at hF
 refine EN Try.func12 ?_
 intro c0 w0 Q h0 hQ
 refine WK [(0, Iz v0), (1, Iz v1)] [] 0 (by simp) (by simp) ?_
 refine SQ [] [none] fun _ _ g r => ?_
 try simp
 and_intros <;> first | exact g _ (by kernel_rfl) | refine r _ _ _ ?_ | omega | (simp [maxLen] <;> omega)
 refine WK [(0, Iz v0), (1, Iz v1)] [] 0 (by simp) (by simp) ?_
 refine AW.seq fun K17 hK17 => ?_
 refine SQ [] [none, none] fun _ _ g r => ?_
 try simp
 and_intros <;> first | exact g _ (by kernel_rfl) | refine r _ _ _ ?_ | omega | (simp [maxLen] <;> omega)
 refine WK [(0, Iz v0), (1, Iz v1), (6, AV.bool (decide (v1 < 1)))] [] 0 (by simp) (by simp) ?_
 by_cases h1 : v1 < 1
 ·replace hF := ite_t h1 hF
  have h1_ := h1
  try simp at h1_
  refine CT (by simp [h1, h1_] <;> omega) ?_
  refine SQ [] [none] fun _ _ g r => ?_
  try simp [h1, h1_]
  and_intros <;> first | exact g _ (by kernel_rfl) | refine r _ _ _ ?_ | omega | (simp [h1, h1_, maxLen] <;> omega)
  refine WK [(4, Iz 0)] [] 0 (by simp [h1, h1_]) (by simp [h1, h1_]) ?_
  simp only [Option.some.injEq] at hF
  subst hF
  refine AW.ret (hQ _ _ _ ?_ (matchO_0 ?_)).1
  ·simp [Try.f12, h1, h1_]
  ·simp [h1, h1_]
 ·replace hF := ite_f h1 hF
  have h1_ := h1
  try simp at h1_
  refine CF (by simp [h1, h1_] <;> omega) ?_
  refine AW.skip ?_
  refine hK17 _ _ _ ?_
  refine SQ [] [none, none, none, none] fun _ _ g r => ?_
  obtain ⟨h2, hF⟩ := chk_elim hF
  have h2_ := h2
  try simp at h2_
  have F1 := And.intro h1 (And.intro h1_ (And.intro h2 h2_))
  try simp [F1]
  and_intros <;> first | exact g _ (by kernel_rfl) | refine r _ _ _ ?_ | omega | (simp [maxLen, F1] <;> omega)
  refine WK [(0, Iz (Int.tmod v0 v1)), (1, Iz v1)] [] 0 (by simp [F1]) (by simp [F1]) ?_
  refine AW.midF (α := Int) (fun v3 => made_Mod.J1 k v3 = some v2) (fun v3 => [(0, Iz v3)]) (fun v3 => []) 0 (fun K24 hK24 => ?_) ?_
  ·refine SQ [] [none, none] fun _ _ g r => ?_
   try simp [F1]
   and_intros <;> first | exact g _ (by kernel_rfl) | refine r _ _ _ ?_ | omega | (simp [maxLen, F1] <;> omega)
   refine WK [(0, Iz (Int.tmod v0 v1)), (1, Iz v1), (11, AV.bool (decide (Int.tmod v0 v1 < 0)))] [] 0 (by simp [F1]) (by simp [F1]) ?_
   by_cases h3 : Int.tmod v0 v1 < 0
   ·replace hF := ite_t h3 hF
    have h3_ := h3
    try simp at h3_
    have F2 := And.intro F1 (And.intro h3 h3_)
    refine CT (by simp [F2] <;> omega) ?_
    refine RG [] [none, none, none, none] fun _ _ g r => ?_
    try simp [F2]
    and_intros <;> first | exact g _ (by kernel_rfl) | refine r _ _ _ ?_ | omega | (simp [maxLen, F2] <;> omega)
    refine hK24 _ _ _ ?_
    exact JN (IntKind.wrap .i64 (Int.tmod v0 v1 + v1)) hF (by simp [F2]) (by simp [F2])
   ·replace hF := ite_f h3 hF
    have h3_ := h3
    try simp at h3_
    have F3 := And.intro F1 (And.intro h3 h3_)
    refine CF (by simp [F3] <;> omega) ?_
    refine AW.skip ?_
    refine hK24 _ _ _ ?_
    exact JN (Int.tmod v0 v1) hF (by simp [F3]) (by simp [F3])
  ·rintro v3 hF
   try dsimp only at hF
   unfold made_Mod.J1 at hF
   refine SQ [] [none, none] fun _ _ g r => ?_
   try simp [F1]
   and_intros <;> first | exact g _ (by kernel_rfl) | refine r _ _ _ ?_ | omega | (simp [maxLen, F1] <;> omega)
   refine WK [(4, Iz v3)] [] 0 (by simp [F1]) (by simp [F1]) ?_
   simp only [Option.some.injEq] at hF
   subst hF
   refine AW.ret (hQ _ _ _ ?_ (matchO_0 ?_)).1
   ·simp [Try.f12, F1]
   ·simp [F1]
theorem w_made_Dice_Next (k : Nat) (v0 : (List Int)) (v1 : Int) (v2 : Int) (v3 : Int) (v4 : Int) (hF : made_Dice_Next k v0 v1 v2 = some (v3, v4)) :
  FCall Try.prog 22 [AV.ptr 0 0, AV.int .i64 v2] [.cells [AV.lst false false (List.map (AV.int .i64) v0), AV.int .i64 v1]] (AV.int .i64 v3) [some (.cells [AV.lst false false (List.map (AV.int .i64) v0), AV.int .i64 v4])] := by
 unfold made_Dice_Next at hF
 refine EN Try.func22 ?_
 intro c0 w0 Q h0 hQ
 refine WK [(0, AV.ptr 0 0), (1, Iz v2)] [(0, .cells [Lz v0, Iz v1])] 1 (by simp) (by simp) ?_
 refine SQ [] [none] fun _ _ g r => ?_
 try simp
 and_intros <;> first | exact g _ (by kernel_rfl) | refine r _ _ _ ?_ | omega | (simp [maxLen] <;> omega)
 refine WK [(0, AV.ptr 0 0), (1, Iz v2)] [(0, .cells [Lz v0, Iz v1])] 1 (by simp) (by simp) ?_
 refine AW.seq fun K12 hK12 => ?_
 refine SQ [] [none, none, none, none, none, none, none, none, none, none] fun _ _ g r => ?_
 try simp
 and_intros <;> first | exact g _ (by kernel_rfl) | refine r _ _ _ ?_ | omega | (simp [maxLen] <;> omega)
 refine WK [(0, AV.ptr 0 0), (1, Iz v2), (14, AV.bool (decide ((v0.length : Int) ≤ v1)))] [(0, .cells [Lz v0, Iz v1])] 1 (by simp) (by simp) ?_
 by_cases h1 : (v0.length : Int) ≤ v1
 ·replace hF := ite_t h1 hF
  have h1_ := h1
  try simp at h1_
  refine CT (by simp [h1, h1_] <;> omega) ?_
  refine SQ [] [none] fun _ _ g r => ?_
  try simp [h1, h1_]
  and_intros <;> first | exact g _ (by kernel_rfl) | refine r _ _ _ ?_ | omega | (simp [h1, h1_, maxLen] <;> omega)
  refine WK [(4, Iz 0)] [(0, .cells [Lz v0, Iz v1])] 1 (by simp [h1, h1_]) (by simp [h1, h1_]) ?_
  simp only [Option.some.injEq, Prod.mk.injEq] at hF
  obtain ⟨e0, e1⟩ := hF
  subst e0 e1
  refine AW.ret (hQ _ _ _ ?_ (matchO_0 ?_)).1
  ·simp [Try.f22, h1, h1_]
  ·simp [h1, h1_]
 ·replace hF := ite_f h1 hF
  have h1_ := h1
  try simp at h1_
  refine CF (by simp [h1, h1_] <;> omega) ?_
  refine AW.skip ?_
  refine hK12 _ _ _ ?_
  refine SQ [] [none, none, none, none, none, none, none, none] fun _ _ g r => ?_
  try simp [h1, h1_]
  and_intros <;> first | exact g _ (by kernel_rfl) | refine r _ _ _ ?_ | omega | (simp [h1, h1_, maxLen] <;> omega)
  refine WK [(0, AV.ptr 0 0), (1, Iz v2)] [(0, .cells [Lz v0, Iz (IntKind.wrap .i64 (v1 + 1))])] 1 (by simp [h1, h1_]) (by simp [h1, h1_]) ?_
  refine SQ [] [none, none, none, none, none, none, none, none, none, none, none, none, none, none] fun _ _ g r => ?_
  obtain ⟨v5, h2, h3, h4, hF⟩ := idx_elim hF
  have h4_ := get_of h4
  try simp at h4_
  have h3_ := h3
  try simp at h3_
  have F1 := And.intro h1 (And.intro h1_ (And.intro h2 (And.intro h3 (And.intro h4 (And.intro h4_ h3_)))))
  try simp [F1]
  and_intros
  try any_goals first | omega | (simp [maxLen, F1] <;> omega)
  obtain ⟨v6, h5, hF⟩ := bnd1_elim hF
  refine AC (w_made_Mod k _ _ _ h5) (.cons (.same (by simp [F1])) (.cons (.same (by simp [F1])) .nil)) ?_
  try simp [F1]
  and_intros <;> first | exact g _ (by kernel_rfl) | refine r _ _ _ ?_ | omega | (simp [maxLen, F1] <;> omega)
  refine WK [(4, Iz v6)] [(0, .cells [Lz v0, Iz (IntKind.wrap .i64 (v1 + 1))])] 1 (by simp [F1]) (by simp [F1]) ?_
  simp only [Option.some.injEq, Prod.mk.injEq] at hF
  obtain ⟨e0, e1⟩ := hF
  subst e0 e1
  refine AW.ret (hQ _ _ _ ?_ (matchO_0 ?_)).1
  ·simp [Try.f22, F1]
  ·simp [F1]
theorem w_made_Dice_Of (k : Nat) (v0 : (List Int)) (v1 : Int) (v2 : (List Int)) (v3 : Int) (v4 : Int) (hF : made_Dice_Of k v0 v1 v2 = some (v3, v4)) :
  FCall Try.prog 65 [AV.ptr 0 0, AV.lst false false (List.map (AV.int .i64) v2)] [.cells [AV.lst false false (List.map (AV.int .i64) v0), AV.int .i64 v1]] (AV.int .i64 v3) [some (.cells [AV.lst false false (List.map (AV.int .i64) v0), AV.int .i64 v4])] := by
 unfold made_Dice_Of at hF
 refine EN Try.func65 ?_
 intro c0 w0 Q h0 hQ
 refine WK [(0, AV.ptr 0 0), (1, Lz v2)] [(0, .cells [Lz v0, Iz v1])] 1 (by simp) (by simp) ?_
 refine SQ [] [none] fun _ _ g r => ?_
 try simp
 and_intros <;> first | exact g _ (by kernel_rfl) | refine r _ _ _ ?_ | omega | (simp [maxLen] <;> omega)
 refine WK [(0, AV.ptr 0 0), (1, Lz v2)] [(0, .cells [Lz v0, Iz v1])] 1 (by simp) (by simp) ?_
 refine SQ [] [none, none, none, none, none, none, none, none] fun _ _ g r => ?_
 try simp
 and_intros
 try any_goals first | omega | (simp [maxLen] <;> omega)
 obtain ⟨v5, v6, h1, hF⟩ := bnd2_elim hF
 refine aCall_l (w_made_Dice_Next k _ _ _ _ _ h1) (by simp) [0] [] [0] rfl (.cons (.same (by simp)) (.cons (.same (by simp)) .nil)) (by simp) (by decide) (by simp) (by simp) (.inl rfl) (by simp) (by simp) ?_
 obtain ⟨v7, h2, h3, h4, hF⟩ := idx_elim hF
 have h4_ := get_of h4
 try simp at h4_
 have h3_ := h3
 try simp at h3_
 have F1 := And.intro h2 (And.intro h3 (And.intro h4 (And.intro h4_ h3_)))
 try simp [F1]
 and_intros <;> first | exact g _ (by kernel_rfl) | refine r _ _ _ ?_ | omega | (simp [maxLen, F1] <;> omega)
 refine WK [(4, Iz v7)] [(0, .cells [Lz v0, Iz v6])] 1 (by simp [F1]) (by simp [F1]) ?_
 simp only [Option.some.injEq, Prod.mk.injEq] at hF
 obtain ⟨e0, e1⟩ := hF
 subst e0 e1
 refine AW.ret (hQ _ _ _ ?_ (matchO_0 ?_)).1
 ·simp [Try.f65, F1]
 ·simp [F1]
theorem w_made_Dice_One (k : Nat) (v0 : (List Int)) (v1 : Int) (v2 : Int) (v3 : Bool) (v4 : Int) (hF : made_Dice_One k v0 v1 v2 = some (v3, v4)) :
  FCall Try.prog 66 [AV.ptr 0 0, AV.int .i64 v2] [.cells [AV.lst false false (List.map (AV.int .i64) v0), AV.int .i64 v1]] (AV.bool v3) [some (.cells [AV.lst false false (List.map (AV.int .i64) v0), AV.int .i64 v4])] := by
 unfold made_Dice_One at hF
 refine EN Try.func66 ?_
 intro c0 w0 Q h0 hQ
 refine WK [(0, AV.ptr 0 0), (1, Iz v2)] [(0, .cells [Lz v0, Iz v1])] 1 (by simp) (by simp) ?_
 refine SQ [] [none] fun _ _ g r => ?_
 try simp
 and_intros <;> first | exact g _ (by kernel_rfl) | refine r _ _ _ ?_ | omega | (simp [maxLen] <;> omega)
 refine WK [(0, AV.ptr 0 0), (1, Iz v2)] [(0, .cells [Lz v0, Iz v1])] 1 (by simp) (by simp) ?_
 refine SQ [] [none, none, none, none, none, none, none] fun _ _ g r => ?_
 try simp
 and_intros
 try any_goals first | omega | (simp [maxLen] <;> omega)
 obtain ⟨v5, v6, h1, hF⟩ := bnd2_elim hF
 refine aCall_l (w_made_Dice_Next k _ _ _ _ _ h1) (by simp) [0] [] [0] rfl (.cons (.same (by simp)) (.cons (.same (by simp)) .nil)) (by simp) (by decide) (by simp) (by simp) (.inl rfl) (by simp) (by simp) ?_
 try simp
 and_intros <;> first | exact g _ (by kernel_rfl) | refine r _ _ _ ?_ | omega | (simp [maxLen] <;> omega)
 refine WK [(4, AV.bool (v5 == (IntKind.wrap .i64 (v2 - 1))))] [(0, .cells [Lz v0, Iz v6])] 1 (by simp) (by simp) ?_
 simp only [Option.some.injEq, Prod.mk.injEq] at hF
 obtain ⟨e0, e1⟩ := hF
 subst e0 e1
 refine AW.ret (hQ _ _ _ ?_ (matchO_0 ?_)).1
 ·simp [Try.f66]
 ·simp
abbrev c_mill_Rules  : AObj := .cells [AV.lst true true (List.map (AV.int .i64) ([] : List Int)), AV.lst true true (List.map (AV.int .i64) ([] : List Int)), AV.lst true true (List.map (AV.int .i64) ([] : List Int)), Iz 0, Iz 0, Iz 0, Iz 0]
theorem w_mill_Rules (k : Nat) (v0 : (List Int)) (v1 : Int) (v2 : (List Int)) (v3 : (List Int)) (v4 : (List Int)) (v5 : Int) (v6 : Int) (v7 : Int) (v8 : Int) (v9 : Int) (hF : mill_Rules k v0 v1 = some (v2, v3, v4, v5, v6, v7, v8, v9)) :
  FCall Try.prog 19 [AV.ptr 0 0] [.cells [AV.lst false false (List.map (AV.int .i64) v0), AV.int .i64 v1]] (AV.agg [AV.lst false false (List.map (AV.int .i64) v2), AV.lst false false (List.map (AV.int .i64) v3), AV.slc 1 0 1 v4.length false, AV.int .i64 v5, AV.int .i64 v6, AV.int .i64 v7, AV.int .i64 v8]) [some (.cells [AV.lst false false (List.map (AV.int .i64) v0), AV.int .i64 v9]), some (.cells (List.map (AV.int .i64) v4))] := by
 unfold mill_Rules at hF
 refine EN Try.func19 ?_
 intro c0 w0 Q h0 hQ
 refine WK [(0, AV.ptr 0 0)] [(0, .cells [Lz v0, Iz v1])] 1 (by simp) (by simp) ?_
 refine SQ [] [none] fun _ _ g r => ?_
 try simp
 and_intros <;> first | exact g _ (by kernel_rfl) | refine r _ _ _ ?_ | omega | (simp [maxLen] <;> omega)
 refine WK [(0, AV.ptr 0 0), (2, AV.ptr 1 0)] [(0, .cells [Lz v0, Iz v1]), (1, c_mill_Rules )] 2 (by simp) (by simp) ?_
 refine SQ [] [none, none, none, none, none, none, none, none, none, none, none, none] fun _ _ g r => ?_
 try simp
 and_intros
 try any_goals first | omega | (simp [maxLen] <;> omega)
 obtain ⟨v10, v11, h1, hF⟩ := bnd2_elim hF
 refine aCall_l (w_made_Dice_Of k _ _ _ _ _ h1) (by simp) [0] [] [0] rfl (.cons (.same (by simp)) (.cons (Coe.fl (by simp)) .nil)) (by simp) (by decide) (by simp) (by simp) (.inl rfl) (by simp) (by simp) ?_
 try simp
 and_intros
 try any_goals first | omega | (simp [maxLen] <;> omega)
 obtain ⟨v12, v13, h2, hF⟩ := bnd2_elim hF
 refine aCall_l (w_made_Dice_Of k _ _ _ _ _ h2) (by simp) [0] [] [0] rfl (.cons (.same (by simp)) (.cons (Coe.fl (by simp)) .nil)) (by simp) (by decide) (by simp) (by simp) (.inl rfl) (by simp) (by simp) ?_
 try simp
 and_intros
 try any_goals first | omega | (simp [maxLen] <;> omega)
 obtain ⟨v14, v15, h3, hF⟩ := bnd2_elim hF
 refine aCall_l (w_made_Dice_Of k _ _ _ _ _ h3) (by simp) [0] [] [0] rfl (.cons (.same (by simp)) (.cons (Coe.fl (by simp)) .nil)) (by simp) (by decide) (by simp) (by simp) (.inl rfl) (by simp) (by simp) ?_
 try simp
 and_intros <;> first | exact g _ (by kernel_rfl) | refine r _ _ _ ?_ | omega | (simp [maxLen] <;> omega)
 refine WK [(0, AV.ptr 0 0), (2, AV.ptr 1 0), (3, AV.ptr 2 0)] [(0, .cells [Lz v0, Iz v15]), (1, c_mill_Rules ), (2, .cells [AV.lst true true (List.map (AV.int .i64) ([] : List Int)), AV.lst true true (List.map (AV.int .i64) ([] : List Int)), AV.lst true true (List.map (AV.int .i64) ([] : List Int)), Iz 0, Iz v10, Iz v12, Iz v14])] 3 (by simp) (by simp) ?_
 refine SQ [] [none, none, none, none, none, none, none] fun _ _ g r => ?_
 try simp
 and_intros
 try any_goals first | omega | (simp [maxLen] <;> omega)
 obtain ⟨v16, v17, h4, hF⟩ := bnd2_elim hF
 refine aCall_l (w_made_Dice_Next k _ _ _ _ _ h4) (by simp) [0] [] [0] rfl (.cons (.same (by simp)) (.cons (.same (by simp)) .nil)) (by simp) (by decide) (by simp) (by simp) (.inl rfl) (by simp) (by simp) ?_
 obtain ⟨⟨h5, h6⟩, hF⟩ := chk_elim hF
 have h5_ := h5
 try simp at h5_
 have h6_ := h6
 try simp at h6_
 have F1 := And.intro h5 (And.intro h6 (And.intro h5_ h6_))
 try simp [F1]
 and_intros <;> first | exact g _ (by kernel_rfl) | refine r _ _ _ ?_ | omega | (simp [maxLen, F1] <;> omega)
 refine WK [(0, AV.ptr 0 0), (2, AV.ptr 1 0), (3, AV.ptr 2 0)] [(0, .cells [Lz v0, Iz v17]), (1, c_mill_Rules ), (2, .cells [Lz (([0, 1, 2, 3, 4, 5, 6] : List Int).take (IntKind.wrap .i64 (2 + v16)).toNat), AV.lst true true (List.map (AV.int .i64) ([] : List Int)), AV.lst true true (List.map (AV.int .i64) ([] : List Int)), Iz 0, Iz v10, Iz v12, Iz v14])] 3 (by simp [F1]) (by simp [F1]) ?_
 refine SQ [29] [none, none, none, none, none, none, none, none, none, none, none, none, none, none, none, none] fun _ _ g r => ?_
 try simp [F1]
 and_intros
 try any_goals first | omega | (simp [maxLen, F1] <;> omega)
 obtain ⟨v18, v19, h7, hF⟩ := bnd2_elim hF
 refine aCall_l (w_made_Dice_Of k _ _ _ _ _ h7) (by simp) [0] [] [0] rfl (.cons (.same (by simp [F1])) (.cons (Coe.fl (by simp [F1])) .nil)) (by simp [F1]) (by decide) (by simp) (by simp) (.inl rfl) (by simp) (by simp) ?_
 try simp [F1]
 and_intros
 try any_goals first | omega | (simp [maxLen, F1] <;> omega)
 obtain ⟨v20, v21, h8, hF⟩ := bnd2_elim hF
 refine aCall_l (w_made_Dice_Of k _ _ _ _ _ h8) (by simp) [0] [] [0] rfl (.cons (.same (by simp [F1])) (.cons (Coe.fl (by simp [F1])) .nil)) (by simp [F1]) (by decide) (by simp) (by simp) (.inl rfl) (by simp) (by simp) ?_
 try simp [F1]
 and_intros
 try any_goals first | omega | (simp [maxLen, F1] <;> omega)
 obtain ⟨v22, v23, h9, hF⟩ := bnd2_elim hF
 refine aCall_l (w_made_Dice_Of k _ _ _ _ _ h9) (by simp) [0] [] [0] rfl (.cons (.same (by simp [F1])) (.cons (Coe.fl (by simp [F1])) .nil)) (by simp [F1]) (by decide) (by simp) (by simp) (.inl rfl) (by simp) (by simp) ?_
 try simp [F1]
 and_intros <;> first | exact g _ (by kernel_rfl) | refine r _ _ _ ?_ | omega | (simp [maxLen, F1] <;> omega)
 refine WK [(0, AV.ptr 0 0), (2, AV.ptr 1 0), (3, AV.ptr 2 0)] [(0, .cells [Lz v0, Iz v23]), (1, c_mill_Rules ), (2, .cells [Lz (([0, 1, 2, 3, 4, 5, 6] : List Int).take (IntKind.wrap .i64 (2 + v16)).toNat), AV.lst false true (List.map (AV.int .i64) ([0] : List Int)), AV.slc 3 0 1 (([IntKind.wrap .i64 (1 + v18), IntKind.wrap .i64 (1 + v20)] : List Int).length) true, Iz v22, Iz v10, Iz v12, Iz v14]), (3, .cells (List.map (AV.int .i64) ([IntKind.wrap .i64 (1 + v18), IntKind.wrap .i64 (1 + v20)] : List Int)))] 4 (by simp [F1]) (by simp [F1]) ?_
 refine AW.midF (α := ((List Int) × Int)) (fun (v24, v25) => mill_Rules.J1 k v10 v12 v14 v16 v18 v20 v22 v24 v25 = some (v2, v3, v4, v5, v6, v7, v8, v9)) (fun (v24, v25) => [(2, AV.ptr 1 0), (3, AV.ptr 2 0)]) (fun (v24, v25) => [(0, .cells [Lz v0, Iz v25]), (1, c_mill_Rules ), (2, .cells [Lz (([0, 1, 2, 3, 4, 5, 6] : List Int).take (IntKind.wrap .i64 (2 + v16)).toNat), Lz v24, AV.slc 3 0 1 (([IntKind.wrap .i64 (1 + v18), IntKind.wrap .i64 (1 + v20)] : List Int).length) true, Iz v22, Iz v10, Iz v12, Iz v14]), (3, .cells (List.map (AV.int .i64) ([IntKind.wrap .i64 (1 + v18), IntKind.wrap .i64 (1 + v20)] : List Int)))]) 4 (fun K20 hK20 => ?_) ?_
 ·refine SQ [] [none, none] fun _ _ g r => ?_
  try simp [F1]
  and_intros
  try any_goals first | omega | (simp [maxLen, F1] <;> omega)
  obtain ⟨v29, v30, h23, hF⟩ := bnd2_elim hF
  refine aCall_l (w_made_Dice_One k _ _ _ _ _ h23) (by simp) [0] [] [0] rfl (.cons (.same (by simp [F1])) (.cons (.same (by simp [F1])) .nil)) (by simp [F1]) (by decide) (by simp) (by simp) (.inl rfl) (by simp) (by simp) ?_
  try simp [F1]
  and_intros <;> first | exact g _ (by kernel_rfl) | refine r _ _ _ ?_ | omega | (simp [maxLen, F1] <;> omega)
  refine WK [(2, AV.ptr 1 0), (3, AV.ptr 2 0), (36, AV.bool v29)] [(0, .cells [Lz v0, Iz v30]), (1, c_mill_Rules ), (2, .cells [Lz (([0, 1, 2, 3, 4, 5, 6] : List Int).take (IntKind.wrap .i64 (2 + v16)).toNat), AV.lst false true (List.map (AV.int .i64) ([0] : List Int)), AV.slc 3 0 1 (([IntKind.wrap .i64 (1 + v18), IntKind.wrap .i64 (1 + v20)] : List Int).length) true, Iz v22, Iz v10, Iz v12, Iz v14]), (3, .cells (List.map (AV.int .i64) ([IntKind.wrap .i64 (1 + v18), IntKind.wrap .i64 (1 + v20)] : List Int)))] 4 (by simp [F1]) (by simp [F1]) ?_
  by_cases h24 : v29 = true
  ·replace hF := ite_t h24 hF
   have h24_ := h24
   try simp at h24_
   have F2 := And.intro F1 (And.intro h24 h24_)
   refine CT (by simp [F2] <;> omega) ?_
   refine RG [] [none, none, none, none] fun _ _ g r => ?_
   try simp [F2]
   and_intros <;> first | exact g _ (by kernel_rfl) | refine r _ _ _ ?_ | omega | (simp [maxLen, F2] <;> omega)
   refine hK20 _ _ _ ?_
   refine Can.weak [(2, AV.ptr 1 0), (3, AV.ptr 2 0)] [(0, .cells [Lz v0, Iz v30]), (1, c_mill_Rules ), (2, .cells [Lz (([0, 1, 2, 3, 4, 5, 6] : List Int).take (IntKind.wrap .i64 (2 + v16)).toNat), AV.lst false true (List.map (AV.int .i64) ([0, 1] : List Int)), AV.slc 3 0 1 (([IntKind.wrap .i64 (1 + v18), IntKind.wrap .i64 (1 + v20)] : List Int).length) true, Iz v22, Iz v10, Iz v12, Iz v14]), (3, .cells (List.map (AV.int .i64) ([IntKind.wrap .i64 (1 + v18), IntKind.wrap .i64 (1 + v20)] : List Int)))] 4 (by simp [F2]) (by simp [F2]) (by simp) ?_
   refine Can.flg [] [(2, .cells [Lz (([0, 1, 2, 3, 4, 5, 6] : List Int).take (IntKind.wrap .i64 (2 + v16)).toNat), Lz ([0, 1] : List Int), AV.slc 3 0 1 (([IntKind.wrap .i64 (1 + v18), IntKind.wrap .i64 (1 + v20)] : List Int).length) true, Iz v22, Iz v10, Iz v12, Iz v14])] trivial ⟨⟨AObj.cells [Lz (([0, 1, 2, 3, 4, 5, 6] : List Int).take (IntKind.wrap .i64 (2 + v16)).toNat), AV.lst false true (List.map (AV.int .i64) ([0, 1] : List Int)), AV.slc 3 0 1 (([IntKind.wrap .i64 (1 + v18), IntKind.wrap .i64 (1 + v20)] : List Int).length) true, Iz v22, Iz v10, Iz v12, Iz v14], by simp [F2], (.mk (.cons (.same _) (.cons (.lst (by simp)) (.cons (.same _) (.cons (.same _) (.cons (.same _) (.cons (.same _) (.cons (.same _) .nil))))))))⟩, trivial⟩ (by simp) ?_
   exact JN ((([0, 1] : List Int), v30)) hF (by simp [F2]) (by simp [F2])
  ·replace hF := ite_f h24 hF
   have h24_ := h24
   try simp at h24_
   have F3 := And.intro F1 (And.intro h24 h24_)
   refine CF (by simp [F3] <;> omega) ?_
   refine AW.skip ?_
   refine hK20 _ _ _ ?_
   refine Can.flg [] [(2, .cells [Lz (([0, 1, 2, 3, 4, 5, 6] : List Int).take (IntKind.wrap .i64 (2 + v16)).toNat), Lz ([0] : List Int), AV.slc 3 0 1 (([IntKind.wrap .i64 (1 + v18), IntKind.wrap .i64 (1 + v20)] : List Int).length) true, Iz v22, Iz v10, Iz v12, Iz v14])] trivial ⟨⟨AObj.cells [Lz (([0, 1, 2, 3, 4, 5, 6] : List Int).take (IntKind.wrap .i64 (2 + v16)).toNat), AV.lst false true (List.map (AV.int .i64) ([0] : List Int)), AV.slc 3 0 1 (([IntKind.wrap .i64 (1 + v18), IntKind.wrap .i64 (1 + v20)] : List Int).length) true, Iz v22, Iz v10, Iz v12, Iz v14], by simp [F3], (.mk (.cons (.same _) (.cons (.lst (by simp)) (.cons (.same _) (.cons (.same _) (.cons (.same _) (.cons (.same _) (.cons (.same _) .nil))))))))⟩, trivial⟩ (by simp) ?_
   exact JN ((([0] : List Int), v30)) hF (by simp [F3]) (by simp [F3])
 ·rintro ⟨v24, v25⟩ hF
  try dsimp only at hF
  unfold mill_Rules.J1 at hF
  refine SQ [] [none, none, none, none, none, none, none, none, none, none, none, none, none, none, none, none] fun _ _ g r => ?_
  obtain ⟨⟨h10, h11⟩, hF⟩ := chk_elim hF
  have h11_ := ne_of_lt h11
  obtain ⟨v26, h12, h13, h14, hF⟩ := idx_elim hF
  have h14_ := get_of h14
  try simp at h14_
  have h13_ := h13
  try simp at h13_
  have h14z := head_of h14
  have h14__ := get_of (map_get ((AV.int .i64)) h14)
  try simp at h14__
  obtain ⟨⟨h15, h16⟩, hF⟩ := chk_elim hF
  have h16_ := ne_of_lt h16
  obtain ⟨v27, h17, h18, h19, hF⟩ := idx_elim hF
  have h19_ := get_of h19
  try simp at h19_
  have h18_ := h18
  try simp at h18_
  have h19__ := get_of (map_get ((AV.int .i64)) h19)
  try simp at h19__
  obtain ⟨v28, h20, hF⟩ := let1_elim hF
  have h20_ := h20
  try simp at h20_
  obtain ⟨⟨h21, h22⟩, hF⟩ := chk_elim hF
  have h22_ := ne_of_lt h22
  have F4 := And.intro F1 (And.intro h10 (And.intro h11 (And.intro h11_ (And.intro h12 (And.intro h13 (And.intro h14 (And.intro h14_ (And.intro h13_ (And.intro h14z (And.intro h14__ (And.intro h15 (And.intro h16 (And.intro h16_ (And.intro h17 (And.intro h18 (And.intro h19 (And.intro h19_ (And.intro h18_ (And.intro h19__ (And.intro h20 (And.intro h20_ (And.intro h21 (And.intro h22 h22_)))))))))))))))))))))))
  try simp [F4]
  and_intros <;> first | exact g _ (by kernel_rfl) | refine r _ _ _ ?_ | omega | (simp [maxLen, F4] <;> omega)
  refine WK [(2, AV.ptr 1 0), (3, AV.ptr 2 0)] [(0, .cells [Lz v0, Iz v25]), (1, c_mill_Rules ), (2, .cells [Lz (([0, 1, 2, 3, 4, 5, 6] : List Int).take (IntKind.wrap .i64 (2 + v16)).toNat), Lz v24, AV.slc 3 0 1 ((([IntKind.wrap .i64 (1 + v18), IntKind.wrap .i64 (1 + v20)] : List Int).set (1 : Int).toNat v28).length) true, Iz v22, Iz v10, Iz v12, Iz v14]), (3, .cells (List.map (AV.int .i64) (([IntKind.wrap .i64 (1 + v18), IntKind.wrap .i64 (1 + v20)] : List Int).set (1 : Int).toNat v28)))] 4 (by simp [F4]) (by simp [F4]) ?_
  refine SQ [] [none, none] fun _ _ g r => ?_
  try simp [F4]
  and_intros <;> first | exact g _ (by kernel_rfl) | refine r _ _ _ ?_ | omega | (simp [maxLen, F4] <;> omega)
  refine WK [(2, AV.ptr 1 0)] [(0, .cells [Lz v0, Iz v25]), (1, .cells [Lz (([0, 1, 2, 3, 4, 5, 6] : List Int).take (IntKind.wrap .i64 (2 + v16)).toNat), Lz v24, AV.slc 3 0 1 ((([IntKind.wrap .i64 (1 + v18), IntKind.wrap .i64 (1 + v20)] : List Int).set (1 : Int).toNat v28).length) true, Iz v22, Iz v10, Iz v12, Iz v14]), (3, .cells (List.map (AV.int .i64) (([IntKind.wrap .i64 (1 + v18), IntKind.wrap .i64 (1 + v20)] : List Int).set (1 : Int).toNat v28)))] 4 (by simp [F4]) (by simp [F4]) ?_
  refine AW.rnm (m := 1) h0 [(0, 0), (1, 3), (2, 1)] [(2, AV.ptr 2 0)] [(0, .cells [Lz v0, Iz v25]), (1, .cells (List.map (AV.int .i64) (([IntKind.wrap .i64 (1 + v18), IntKind.wrap .i64 (1 + v20)] : List Int).set (1 : Int).toNat v28))), (2, .cells [Lz (([0, 1, 2, 3, 4, 5, 6] : List Int).take (IntKind.wrap .i64 (2 + v16)).toNat), Lz v24, AV.slc 1 0 1 ((([IntKind.wrap .i64 (1 + v18), IntKind.wrap .i64 (1 + v20)] : List Int).set (1 : Int).toNat v28).length) true, Iz v22, Iz v10, Iz v12, Iz v14])] 3 (by decide) (by decide) (by decide) rfl (by simp [F4]) (by simp [F4]) ?_
  refine AW.flg [] [(2, .cells [Lz (([0, 1, 2, 3, 4, 5, 6] : List Int).take (IntKind.wrap .i64 (2 + v16)).toNat), Lz v24, AV.slc 1 0 1 ((([IntKind.wrap .i64 (1 + v18), IntKind.wrap .i64 (1 + v20)] : List Int).set (1 : Int).toNat v28).length) false, Iz v22, Iz v10, Iz v12, Iz v14])] trivial ⟨⟨AObj.cells [Lz (([0, 1, 2, 3, 4, 5, 6] : List Int).take (IntKind.wrap .i64 (2 + v16)).toNat), Lz v24, AV.slc 1 0 1 ((([IntKind.wrap .i64 (1 + v18), IntKind.wrap .i64 (1 + v20)] : List Int).set (1 : Int).toNat v28).length) true, Iz v22, Iz v10, Iz v12, Iz v14], by simp [F4], (.mk (.cons (.same _) (.cons (.same _) (.cons .slc (.cons (.same _) (.cons (.same _) (.cons (.same _) (.cons (.same _) .nil))))))))⟩, trivial⟩ (by simp) ?_
  simp only [Option.some.injEq, Prod.mk.injEq] at hF
  obtain ⟨e0, e1, e2, e3, e4, e5, e6, e7⟩ := hF
  subst e0 e1 e2 e3 e4 e5 e6 e7
  refine AW.ret (hQ _ _ _ ?_ (matchO_0 ?_)).1
  ·simp [Try.f19, F4]
  ·simp [F4]
theorem w_made_Dice_Some (k : Nat) (v0 : (List Int)) (v1 : Int) (v2 : Int) (v3 : (List Int)) (v4 : Int) (hF : made_Dice_Some k v0 v1 v2 = some (v3, v4)) :
  FCall Try.prog 33 [AV.ptr 0 0, AV.int .i64 v2] [.cells [AV.lst false false (List.map (AV.int .i64) v0), AV.int .i64 v1]] (AV.slc 1 0 1 v3.length false) [some (.cells [AV.lst false false (List.map (AV.int .i64) v0), AV.int .i64 v4]), some (.grow (List.map (AV.int .i64) v3))] := by
 unfold made_Dice_Some at hF
 refine EN Try.func33 ?_
 intro c0 w0 Q h0 hQ
 refine WK [(0, AV.ptr 0 0), (1, Iz v2)] [(0, .cells [Lz v0, Iz v1])] 1 (by simp) (by simp) ?_
 refine SQ [] [none] fun _ _ g r => ?_
 try simp
 and_intros <;> first | exact g _ (by kernel_rfl) | refine r _ _ _ ?_ | omega | (simp [maxLen] <;> omega)
 refine WK [(0, AV.ptr 0 0), (1, Iz v2)] [(0, .cells [Lz v0, Iz v1])] 1 (by simp) (by simp) ?_
 refine SQ [] [none] fun _ _ g r => ?_
 try simp
 and_intros <;> first | exact g _ (by kernel_rfl) | refine r _ _ _ ?_ | omega | (simp [maxLen] <;> omega)
 refine WK [(0, AV.ptr 0 0), (1, Iz v2), (5, AV.lst true true (List.map (AV.int .i64) ([] : List Int)))] [(0, .cells [Lz v0, Iz v1])] 1 (by simp) (by simp) ?_
 refine AW.seq fun K121 hK121 => ?_
 refine SQ [] [none] fun _ _ g r => ?_
 try simp
 and_intros <;> first | exact g _ (by kernel_rfl) | refine r _ _ _ ?_ | omega | (simp [maxLen] <;> omega)
 refine WK [(0, AV.ptr 0 0), (1, Iz v2), (5, AV.lst true true (List.map (AV.int .i64) ([] : List Int))), (6, Iz 0)] [(0, .cells [Lz v0, Iz v1])] 1 (by simp) (by simp) ?_
 refine AW.block ?_
 refine AW.own' 5 1 true (by simp) (by decide) ?_
 refine AW.loopF (α := (Int × Int × (List Int))) (fun n (v5, v6, v7) => made_Dice_Some.L1 k v0 v2 n v5 v6 v7 = some (v3, v4)) (fun (v5, v6, v7) => [(0, AV.ptr 0 0), (1, Iz v2), (5, AV.slc 1 0 1 v7.length false), (6, Iz v5)]) (fun (v5, v6, v7) => [(0, .cells [Lz v0, Iz v6]), (1, .grow (List.map (AV.int .i64) v7))]) 2 k ((0, v1, ([] : List Int))) hF (by simp) (by simp) (by simp) ?_
 rintro (_|n1) ⟨v5, v6, v7⟩ hF K150 hK150
 ·try dsimp only at hF
  rw [made_Dice_Some.L1] at hF; cases hF
 try dsimp only at hF
 rw [made_Dice_Some.L1] at hF
 refine AW.seq fun K152 hK152 => ?_
 refine SQ [] [none, none, none] fun _ _ g r => ?_
 try simp
 and_intros <;> first | exact g _ (by kernel_rfl) | refine r _ _ _ ?_ | omega | (simp [maxLen] <;> omega)
 refine WK [(0, AV.ptr 0 0), (1, Iz v2), (5, AV.slc 1 0 1 v7.length false), (6, Iz v5), (9, AV.bool (decide (v5 < v2)))] [(0, .cells [Lz v0, Iz v6]), (1, .grow (List.map (AV.int .i64) v7))] 2 (by simp) (by simp) ?_
 by_cases h1 : v5 < v2
 ·replace hF := ite_t h1 hF
  have h1_ := h1
  try simp at h1_
  refine CT (by simp [h1, h1_] <;> omega) ?_
  refine AW.skip ?_
  refine hK152 _ _ _ ?_
  refine AW.midF (α := (Int × (List Int))) (fun (v8, v9) => made_Dice_Some.J2 k v5 (fun v5_ v6_ v7_ => made_Dice_Some.L1 k v0 v2 n1 v5_ v6_ v7_) v8 v9 = some (v3, v4)) (fun (v8, v9) => [(0, AV.ptr 0 0), (1, Iz v2), (5, AV.slc 1 0 1 v9.length false), (6, Iz v5)]) (fun (v8, v9) => [(0, .cells [Lz v0, Iz v8]), (1, .grow (List.map (AV.int .i64) v9))]) 2 (fun K157 hK157 => ?_) ?_
  ·refine AW.block ?_
   refine SQ [] [none, none, none] fun _ _ g r => ?_
   try simp [h1, h1_]
   and_intros
   try any_goals first | omega | (simp [h1, h1_, maxLen] <;> omega)
   obtain ⟨v10, v11, h2, hF⟩ := bnd2_elim hF
   refine aCall_l (w_made_Dice_Next k _ _ _ _ _ h2) (by simp) [0] [] [0] rfl (.cons (.same (by simp [h1, h1_])) (.cons (.same (by simp [h1, h1_])) .nil)) (by simp [h1, h1_]) (by decide) (by simp) (by simp) (.inl rfl) (by simp) (by simp) ?_
   try simp [h1, h1_]
   and_intros <;> first | exact g _ (by kernel_rfl) | refine r _ _ _ ?_ | omega | (simp [h1, h1_, maxLen] <;> omega)
   refine WK [(0, AV.ptr 0 0), (1, Iz v2), (5, AV.slc 1 0 1 v7.length false), (6, Iz v5), (14, AV.bool (v10 == 0))] [(0, .cells [Lz v0, Iz v11]), (1, .grow (List.map (AV.int .i64) v7))] 2 (by simp [h1, h1_]) (by simp [h1, h1_]) ?_
   by_cases h3 : v10 = 0
   ·replace hF := ite_t h3 hF
    have h3q : v10 = 0 := h3
    have h3_ := eqb_t h3q
    have h3__ := neb_f h3q
    refine CT (by simp [h1, h1_, h3_, h3__, h3q] <;> omega) ?_
    refine RG [] [none, none, none, none, none] fun _ _ g r => ?_
    obtain ⟨h4, hF⟩ := chk_elim hF
    have h4_ := h4
    try simp at h4_
    have F1 := And.intro h1 (And.intro h1_ (And.intro h3_ (And.intro h3__ (And.intro h3q h4))))
    try simp [F1]
    and_intros <;> first | exact g _ (by kernel_rfl) | refine r _ _ _ ?_ | omega | (simp [maxLen, F1] <;> omega)
    refine hK157 _ _ _ ?_
    refine Can.weak [(0, AV.ptr 0 0), (1, Iz v2), (5, AV.slc 2 0 1 ((v7 ++ ([v5] : List Int)).length) false), (6, Iz v5)] [(0, .cells [Lz v0, Iz v11]), (2, .grow (List.map (AV.int .i64) (v7 ++ ([v5] : List Int))))] 3 (by simp [F1] <;> omega) (by simp [F1]) (by simp) ?_
    refine Can.ren (m := 1) h0 [(0, 0), (1, 2)] [(0, AV.ptr 0 0), (1, Iz v2), (5, AV.slc 1 0 1 ((v7 ++ ([v5] : List Int)).length) false), (6, Iz v5)] [(0, .cells [Lz v0, Iz v11]), (1, .grow (List.map (AV.int .i64) (v7 ++ ([v5] : List Int))))] 2 (by decide) (by decide) (by decide) rfl (by simp [F1]) (by simp [F1]) ?_
    exact JN ((v11, v7 ++ ([v5] : List Int))) hF (by simp [F1]) (by simp [F1])
   ·replace hF := ite_f h3 hF
    have h3_ := eqb_f h3
    have h3__ := neb_t h3
    have F2 := And.intro h1 (And.intro h1_ (And.intro h3 (And.intro h3_ h3__)))
    refine CF (by simp [F2] <;> omega) ?_
    refine AW.skip ?_
    refine hK157 _ _ _ ?_
    exact JN ((v11, v7)) hF (by simp [F2]) (by simp [F2])
  ·rintro ⟨v8, v9⟩ hF
   try dsimp only at hF
   unfold made_Dice_Some.J2 at hF
   refine RG [] [none, none, none] fun _ _ g r => ?_
   try simp [h1, h1_]
   and_intros <;> first | exact g _ (by kernel_rfl) | refine r _ _ _ ?_ | omega | (simp [h1, h1_, maxLen] <;> omega)
   refine hK150 _ _ _ ?_
   exact NX (k' := n1) ((IntKind.wrap .i64 (v5 + 1), v8, v9)) hF (by simp [h1, h1_]) (by simp [h1, h1_])
 ·replace hF := ite_f h1 hF
  have h1_ := h1
  try simp at h1_
  refine CF (by simp [h1, h1_] <;> omega) ?_
  refine AW.exit ?_
  try simp
  refine hK121 _ _ _ ?_
  refine SQ [] [none, none] fun _ _ g r => ?_
  try simp [h1, h1_]
  and_intros <;> first | exact g _ (by kernel_rfl) | refine r _ _ _ ?_ | omega | (simp [h1, h1_, maxLen] <;> omega)
  refine WK [(4, AV.slc 1 0 1 v7.length false)] [(0, .cells [Lz v0, Iz v6]), (1, .grow (List.map (AV.int .i64) v7))] 2 (by simp [h1, h1_]) (by simp [h1, h1_]) ?_
  simp only [Option.some.injEq, Prod.mk.injEq] at hF
  obtain ⟨e0, e1⟩ := hF
  subst e0 e1
  refine AW.ret (hQ _ _ _ ?_ (matchO_0 ?_)).1
  ·simp [Try.f33, h1, h1_]
  ·simp [h1, h1_]
theorem w_mill_Keys (k : Nat) (v0 : (List Int)) (v1 : Int) (v2 : Int) (v3 : (List Int)) (v4 : Int) (hF : mill_Keys k v0 v1 v2 = some (v3, v4)) :
  FCall Try.prog 49 [AV.ptr 0 0, AV.int .i64 v2] [.cells [AV.lst false false (List.map (AV.int .i64) v0), AV.int .i64 v1]] (AV.lst false false (List.map (AV.int .i64) v3)) [some (.cells [AV.lst false false (List.map (AV.int .i64) v0), AV.int .i64 v4])] := by
 unfold mill_Keys at hF
 refine EN Try.func49 ?_
 intro c0 w0 Q h0 hQ
 refine WK [(0, AV.ptr 0 0), (1, Iz v2)] [(0, .cells [Lz v0, Iz v1])] 1 (by simp) (by simp) ?_
 refine SQ [] [none] fun _ _ g r => ?_
 try simp
 and_intros <;> first | exact g _ (by kernel_rfl) | refine r _ _ _ ?_ | omega | (simp [maxLen] <;> omega)
 refine WK [(0, AV.ptr 0 0), (1, Iz v2)] [(0, .cells [Lz v0, Iz v1])] 1 (by simp) (by simp) ?_
 refine SQ [] [none, none, none, none] fun _ _ g r => ?_
 try simp
 and_intros
 try any_goals first | omega | (simp [maxLen] <;> omega)
 obtain ⟨v5, v6, h1, hF⟩ := bnd2_elim hF
 refine aCall_l (w_made_Dice_Some k _ _ _ _ _ h1) (by simp) [0] [] [0] rfl (.cons (.same (by simp)) (.cons (.same (by simp)) .nil)) (by simp) (by decide) (by simp) (by simp) (.inl rfl) (by simp) (by simp) ?_
 try simp
 and_intros <;> first | exact g _ (by kernel_rfl) | refine r _ _ _ ?_ | omega | (simp [maxLen] <;> omega)
 refine WK [(0, AV.ptr 0 0), (1, Iz v2), (5, AV.slc 1 0 1 v5.length false)] [(0, .cells [Lz v0, Iz v6]), (1, .grow (List.map (AV.int .i64) v5))] 2 (by simp) (by simp) ?_
 refine AW.midF (α := ((List Int) × Int)) (fun (v7, v8) => mill_Keys.J1 k v7 v8 = some (v3, v4)) (fun (v7, v8) => [(5, Lz v7)]) (fun (v7, v8) => [(0, .cells [Lz v0, Iz v8])]) 1 (fun K14 hK14 => ?_) ?_
 ·refine SQ [] [none, none, none] fun _ _ g r => ?_
  try simp
  and_intros <;> first | exact g _ (by kernel_rfl) | refine r _ _ _ ?_ | omega | (simp [maxLen] <;> omega)
  refine WK [(0, AV.ptr 0 0), (1, Iz v2), (5, AV.slc 1 0 1 v5.length false), (11, AV.bool ((v5.length : Int) == 0))] [(0, .cells [Lz v0, Iz v6]), (1, .grow (List.map (AV.int .i64) v5))] 2 (by simp) (by simp) ?_
  by_cases h2 : (v5.length : Int) = 0
  ·replace hF := ite_t h2 hF
   have h2q : (v5.length : Int) = 0 := h2
   have h2_ := eqb_t h2q
   have h2__ := neb_f h2q
   have F1 := And.intro h2_ (And.intro h2__ h2q)
   refine CT (by simp [F1] <;> omega) ?_
   refine RG [] [none, none, none, none, none] fun _ _ g r => ?_
   try simp [F1]
   and_intros
   try any_goals first | omega | (simp [maxLen, F1] <;> omega)
   obtain ⟨v9, v10, h3, hF⟩ := bnd2_elim hF
   refine aCall_l (w_made_Dice_Next k _ _ _ _ _ h3) (by simp) [0] [] [0] rfl (.cons (.same (by simp [F1])) (.cons (.same (by simp [F1])) .nil)) (by simp [F1]) (by decide) (by simp) (by simp) (.inl rfl) (by simp) (by simp) ?_
   try simp [F1]
   and_intros <;> first | exact g _ (by kernel_rfl) | refine r _ _ _ ?_ | omega | (simp [maxLen, F1] <;> omega)
   refine hK14 _ _ _ ?_
   refine Can.weak [(5, AV.lst false true (List.map (AV.int .i64) ([v9] : List Int)))] [(0, .cells [Lz v0, Iz v10])] 2 (by simp [F1]) (by simp [F1]) (by simp) ?_
   refine Can.ren (m := 1) h0 [(0, 0)] [(5, AV.lst false true (List.map (AV.int .i64) ([v9] : List Int)))] [(0, .cells [Lz v0, Iz v10])] 1 (by decide) (by decide) (by decide) rfl (by simp [F1]) (by simp [F1]) ?_
   refine Can.flg [(5, Lz ([v9] : List Int))] [] ⟨(.lst (by simp)), trivial⟩ trivial (by simp) ?_
   exact JN ((([v9] : List Int), v10)) hF (by simp [F1]) (by simp [F1])
  ·replace hF := ite_f h2 hF
   have h2_ := eqb_f h2
   have h2__ := neb_t h2
   have F2 := And.intro h2 (And.intro h2_ h2__)
   refine CF (by simp [F2] <;> omega) ?_
   refine AW.skip ?_
   refine hK14 _ _ _ ?_
   refine Can.freeze 1 (o := .grow (List.map (AV.int .i64) v5)) (by simp [F2]) rfl [(5, Lz v5)] [] ⟨(.l (by simp) (by simp) (by simp) (by simp)), trivial⟩ trivial ?_
   refine Can.ren (m := 1) h0 [(0, 0)] [(5, Lz v5)] [(0, .cells [Lz v0, Iz v6])] 1 (by decide) (by decide) (by decide) rfl (by simp [F2]) (by simp [F2]) ?_
   exact JN ((v5, v6)) hF (by simp [F2]) (by simp [F2])
 ·rintro ⟨v7, v8⟩ hF
  try dsimp only at hF
  unfold mill_Keys.J1 at hF
  refine SQ [] [none, none] fun _ _ g r => ?_
  try simp
  and_intros <;> first | exact g _ (by kernel_rfl) | refine r _ _ _ ?_ | omega | (simp [maxLen] <;> omega)
  refine WK [(4, Lz v7)] [(0, .cells [Lz v0, Iz v8])] 1 (by simp) (by simp) ?_
  simp only [Option.some.injEq, Prod.mk.injEq] at hF
  obtain ⟨e0, e1⟩ := hF
  subst e0 e1
  refine AW.ret (hQ _ _ _ ?_ (matchO_0 ?_)).1
  ·simp [Try.f49]
  ·simp
theorem w_mill_Keys_o (k : Nat) (v0 : (List Int)) (v1 : Int) (v2 : Int) (v3 : (List Int)) (v4 : Int) (hF : mill_Keys_o k v0 v1 v2 = some (v3, v4)) :
  FCall Try.prog 49 [AV.ptr 0 0, AV.int .i64 v2] [.cells [AV.lst false false (List.map (AV.int .i64) v0), AV.int .i64 v1]] (AV.slc 1 0 1 v3.length false) [some (.cells [AV.lst false false (List.map (AV.int .i64) v0), AV.int .i64 v4]), some (.grow (List.map (AV.int .i64) v3))] := by
 unfold mill_Keys_o at hF
 refine EN Try.func49 ?_
 intro c0 w0 Q h0 hQ
 refine WK [(0, AV.ptr 0 0), (1, Iz v2)] [(0, .cells [Lz v0, Iz v1])] 1 (by simp) (by simp) ?_
 refine SQ [] [none] fun _ _ g r => ?_
 try simp
 and_intros <;> first | exact g _ (by kernel_rfl) | refine r _ _ _ ?_ | omega | (simp [maxLen] <;> omega)
 refine WK [(0, AV.ptr 0 0), (1, Iz v2)] [(0, .cells [Lz v0, Iz v1])] 1 (by simp) (by simp) ?_
 refine SQ [] [none, none, none, none] fun _ _ g r => ?_
 try simp
 and_intros
 try any_goals first | omega | (simp [maxLen] <;> omega)
 obtain ⟨v5, v6, h1, hF⟩ := bnd2_elim hF
 refine aCall_l (w_made_Dice_Some k _ _ _ _ _ h1) (by simp) [0] [] [0] rfl (.cons (.same (by simp)) (.cons (.same (by simp)) .nil)) (by simp) (by decide) (by simp) (by simp) (.inl rfl) (by simp) (by simp) ?_
 try simp
 and_intros <;> first | exact g _ (by kernel_rfl) | refine r _ _ _ ?_ | omega | (simp [maxLen] <;> omega)
 refine WK [(0, AV.ptr 0 0), (1, Iz v2), (5, AV.slc 1 0 1 v5.length false)] [(0, .cells [Lz v0, Iz v6]), (1, .grow (List.map (AV.int .i64) v5))] 2 (by simp) (by simp) ?_
 refine AW.midF (α := ((List Int) × Int)) (fun (v7, v8) => mill_Keys_o.J1 k v7 v8 = some (v3, v4)) (fun (v7, v8) => [(5, AV.slc 1 0 1 v7.length false)]) (fun (v7, v8) => [(0, .cells [Lz v0, Iz v8]), (1, .grow (List.map (AV.int .i64) v7))]) 2 (fun K14 hK14 => ?_) ?_
 ·refine SQ [] [none, none, none] fun _ _ g r => ?_
  try simp
  and_intros <;> first | exact g _ (by kernel_rfl) | refine r _ _ _ ?_ | omega | (simp [maxLen] <;> omega)
  refine WK [(0, AV.ptr 0 0), (1, Iz v2), (5, AV.slc 1 0 1 v5.length false), (11, AV.bool ((v5.length : Int) == 0))] [(0, .cells [Lz v0, Iz v6]), (1, .grow (List.map (AV.int .i64) v5))] 2 (by simp) (by simp) ?_
  by_cases h2 : (v5.length : Int) = 0
  ·replace hF := ite_t h2 hF
   have h2q : (v5.length : Int) = 0 := h2
   have h2_ := eqb_t h2q
   have h2__ := neb_f h2q
   have F1 := And.intro h2_ (And.intro h2__ h2q)
   refine CT (by simp [F1] <;> omega) ?_
   refine RG [15] [none, none, none, none, none] fun _ _ g r => ?_
   try simp [F1]
   and_intros
   try any_goals first | omega | (simp [maxLen, F1] <;> omega)
   obtain ⟨v9, v10, h3, hF⟩ := bnd2_elim hF
   refine aCall_l (w_made_Dice_Next k _ _ _ _ _ h3) (by simp) [0] [] [0] rfl (.cons (.same (by simp [F1])) (.cons (.same (by simp [F1])) .nil)) (by simp [F1]) (by decide) (by simp) (by simp) (.inl rfl) (by simp) (by simp) ?_
   try simp [F1]
   and_intros <;> first | exact g _ (by kernel_rfl) | refine r _ _ _ ?_ | omega | (simp [maxLen, F1] <;> omega)
   refine hK14 _ _ _ ?_
   refine Can.weak [(5, AV.slc 2 0 1 (([v9] : List Int).length) true)] [(0, .cells [Lz v0, Iz v10]), (2, .cells (List.map (AV.int .i64) ([v9] : List Int)))] 3 (by simp [F1]) (by simp [F1]) (by simp) ?_
   refine Can.ren (m := 1) h0 [(0, 0), (1, 2)] [(5, AV.slc 1 0 1 (([v9] : List Int).length) true)] [(0, .cells [Lz v0, Iz v10]), (1, .cells (List.map (AV.int .i64) ([v9] : List Int)))] 2 (by decide) (by decide) (by decide) rfl (by simp [F1]) (by simp [F1]) ?_
   refine Can.flg [(5, AV.slc 1 0 1 (([v9] : List Int).length) false)] [(1, .grow (List.map (AV.int .i64) ([v9] : List Int)))] ⟨.slc, trivial⟩ ⟨⟨AObj.cells (List.map (AV.int .i64) ([v9] : List Int)), by simp [F1], (.gr (by simp [F1]))⟩, trivial⟩ (by simp) ?_
   exact JN ((([v9] : List Int), v10)) hF (by simp [F1]) (by simp [F1])
  ·replace hF := ite_f h2 hF
   have h2_ := eqb_f h2
   have h2__ := neb_t h2
   have F2 := And.intro h2 (And.intro h2_ h2__)
   refine CF (by simp [F2] <;> omega) ?_
   refine AW.skip ?_
   refine hK14 _ _ _ ?_
   exact JN ((v5, v6)) hF (by simp [F2]) (by simp [F2])
 ·rintro ⟨v7, v8⟩ hF
  try dsimp only at hF
  unfold mill_Keys_o.J1 at hF
  refine SQ [] [none, none] fun _ _ g r => ?_
  try simp
  and_intros <;> first | exact g _ (by kernel_rfl) | refine r _ _ _ ?_ | omega | (simp [maxLen] <;> omega)
  refine WK [(4, AV.slc 1 0 1 v7.length false)] [(0, .cells [Lz v0, Iz v8]), (1, .grow (List.map (AV.int .i64) v7))] 2 (by simp) (by simp) ?_
  simp only [Option.some.injEq, Prod.mk.injEq] at hF
  obtain ⟨e0, e1⟩ := hF
  subst e0 e1
  refine AW.ret (hQ _ _ _ ?_ (matchO_0 ?_)).1
  ·simp [Try.f49]
  ·simp
theorem w_mill_Case (k : Nat) (v0 : (List Int)) (v1 : Int) (v2 : Int) (v3 : Int) (v4 : Int) (v5 : Int) (v6 : Int) (v7 : Int) (hF : mill_Case k v0 v1 v2 = some (v3, v4, v5, v6, v7)) :
  FCall Try.prog 50 [AV.ptr 0 0, AV.int .i64 v2] [.cells [AV.lst false false (List.map (AV.int .i64) v0), AV.int .i64 v1]] (AV.agg [AV.int .i64 v3, AV.int .i64 v4, AV.int .i64 v5, AV.int .i64 v6]) [some (.cells [AV.lst false false (List.map (AV.int .i64) v0), AV.int .i64 v7])] := by
 unfold mill_Case at hF
 refine EN Try.func50 ?_
 intro c0 w0 Q h0 hQ
 refine WK [(0, AV.ptr 0 0), (1, Iz v2)] [(0, .cells [Lz v0, Iz v1])] 1 (by simp) (by simp) ?_
 refine SQ [] [none] fun _ _ g r => ?_
 try simp
 and_intros <;> first | exact g _ (by kernel_rfl) | refine r _ _ _ ?_ | omega | (simp [maxLen] <;> omega)
 refine WK [(0, AV.ptr 0 0), (1, Iz v2), (4, AV.ptr 1 0)] [(0, .cells [Lz v0, Iz v1]), (1, .cells [Iz 0, Iz 0, Iz 0, Iz 0])] 2 (by simp) (by simp) ?_
 refine SQ [] [none, none, none, none, none, none, none] fun _ _ g r => ?_
 try simp
 and_intros
 try any_goals first | omega | (simp [maxLen] <;> omega)
 obtain ⟨v8, v9, h1, hF⟩ := bnd2_elim hF
 refine aCall_l (w_made_Dice_Next k _ _ _ _ _ h1) (by simp) [0] [] [0] rfl (.cons (.same (by simp)) (.cons (.same (by simp)) .nil)) (by simp) (by decide) (by simp) (by simp) (.inl rfl) (by simp) (by simp) ?_
 try simp
 and_intros <;> first | exact g _ (by kernel_rfl) | refine r _ _ _ ?_ | omega | (simp [maxLen] <;> omega)
 refine WK [(0, AV.ptr 0 0), (4, AV.ptr 1 0), (5, AV.ptr 2 0)] [(0, .cells [Lz v0, Iz v9]), (1, .cells [Iz 0, Iz 0, Iz 0, Iz 0]), (2, .cells [Iz v2, Iz (IntKind.wrap .i64 (1 + v8)), Iz 0, Iz 0])] 3 (by simp) (by simp) ?_
 refine AW.midF (α := (Int × Int × Int)) (fun (v10, v11, v12) => mill_Case.J1 k v2 v8 v10 v11 v12 = some (v3, v4, v5, v6, v7)) (fun (v10, v11, v12) => [(4, AV.ptr 1 0), (5, AV.ptr 2 0)]) (fun (v10, v11, v12) => [(0, .cells [Lz v0, Iz v12]), (1, .cells [Iz 0, Iz 0, Iz 0, Iz 0]), (2, .cells [Iz v2, Iz (IntKind.wrap .i64 (1 + v8)), Iz v10, Iz v11])]) 3 (fun K14 hK14 => ?_) ?_
 ·refine SQ [] [none, none, none] fun _ _ g r => ?_
  try simp
  and_intros <;> first | exact g _ (by kernel_rfl) | refine r _ _ _ ?_ | omega | (simp [maxLen] <;> omega)
  refine WK [(0, AV.ptr 0 0), (4, AV.ptr 1 0), (5, AV.ptr 2 0), (13, AV.bool ((IntKind.wrap .i64 (1 + v8)) != 1))] [(0, .cells [Lz v0, Iz v9]), (1, .cells [Iz 0, Iz 0, Iz 0, Iz 0]), (2, .cells [Iz v2, Iz (IntKind.wrap .i64 (1 + v8)), Iz 0, Iz 0])] 3 (by simp) (by simp) ?_
  by_cases h2 : (IntKind.wrap .i64 (1 + v8)) ≠ 1
  ·replace hF := ite_t h2 hF
   have h2_ := eqb_f h2
   have h2__ := neb_t h2
   have F1 := And.intro h2 (And.intro h2_ h2__)
   refine CT (by simp [F1] <;> omega) ?_
   refine RG [] [none, none, none, none, none, none, none, none] fun _ _ g r => ?_
   try simp [F1]
   and_intros
   try any_goals first | omega | (simp [maxLen, F1] <;> omega)
   obtain ⟨v13, v14, h3, hF⟩ := bnd2_elim hF
   refine aCall_l (w_made_Dice_Next k _ _ _ _ _ h3) (by simp) [0] [] [0] rfl (.cons (.same (by simp [F1])) (.cons (.same (by simp [F1])) .nil)) (by simp [F1]) (by decide) (by simp) (by simp) (.inl rfl) (by simp) (by simp) ?_
   try simp [F1]
   and_intros
   try any_goals first | omega | (simp [maxLen, F1] <;> omega)
   obtain ⟨v15, v16, h4, hF⟩ := bnd2_elim hF
   refine aCall_l (w_made_Dice_Next k _ _ _ _ _ h4) (by simp) [0] [] [0] rfl (.cons (.same (by simp [F1])) (.cons (.same (by simp [F1])) .nil)) (by simp [F1]) (by decide) (by simp) (by simp) (.inl rfl) (by simp) (by simp) ?_
   try simp [F1]
   and_intros <;> first | exact g _ (by kernel_rfl) | refine r _ _ _ ?_ | omega | (simp [maxLen, F1] <;> omega)
   refine hK14 _ _ _ ?_
   exact JN ((v13, v15, v16)) hF (by simp [F1]) (by simp [F1])
  ·replace hF := ite_f h2 hF
   have h2q : (IntKind.wrap .i64 (1 + v8)) = 1 := Classical.not_not.1 h2
   have h2_ := eqb_t h2q
   have h2__ := neb_f h2q
   have F2 := And.intro h2_ (And.intro h2__ h2q)
   refine CF (by simp [F2] <;> omega) ?_
   refine AW.skip ?_
   refine hK14 _ _ _ ?_
   exact JN ((0, 0, v9)) hF (by simp [F2]) (by simp [F2])
 ·rintro ⟨v10, v11, v12⟩ hF
  try dsimp only at hF
  unfold mill_Case.J1 at hF
  refine SQ [] [none, none] fun _ _ g r => ?_
  try simp
  and_intros <;> first | exact g _ (by kernel_rfl) | refine r _ _ _ ?_ | omega | (simp [maxLen] <;> omega)
  refine WK [(4, AV.ptr 1 0)] [(0, .cells [Lz v0, Iz v12]), (1, .cells [Iz v2, Iz (IntKind.wrap .i64 (1 + v8)), Iz v10, Iz v11])] 3 (by simp) (by simp) ?_
  simp only [Option.some.injEq, Prod.mk.injEq] at hF
  obtain ⟨e0, e1, e2, e3, e4⟩ := hF
  subst e0 e1 e2 e3 e4
  refine AW.ret (hQ _ _ _ ?_ (matchO_0 ?_)).1
  ·simp [Try.f50]
  ·simp
abbrev c_mill_Odd  : AObj := .cells [AV.lst true true (List.map (AV.int .i64) ([] : List Int)), AV.lst true true (List.map (AV.int .i64) ([] : List Int)), AV.lst true true (List.map (AV.int .i64) ([] : List Int)), Iz 0, Iz 0, Iz 0, Iz 0]
theorem w_mill_Odd (k : Nat) (v0 : (List Int)) (v1 : Int) (v2 : (List Int)) (v3 : (List Int)) (v4 : (List Int)) (v5 : Int) (v6 : Int) (v7 : Int) (v8 : Int) (v9 : (List Int)) (v10 : (List Int)) (v11 : (List Int)) (v12 : Int) (v13 : Int) (v14 : Int) (v15 : Int) (v16 : Int) (hF : mill_Odd k v0 v1 v2 v3 v4 v5 v6 v7 v8 = some (v9, v10, v11, v12, v13, v14, v15, v16)) :
  FCall Try.prog 51 [AV.ptr 0 0, AV.agg [AV.lst false false (List.map (AV.int .i64) v2), AV.lst false false (List.map (AV.int .i64) v3), AV.lst false false (List.map (AV.int .i64) v4), AV.int .i64 v5, AV.int .i64 v6, AV.int .i64 v7, AV.int .i64 v8]] [.cells [AV.lst false false (List.map (AV.int .i64) v0), AV.int .i64 v1]] (AV.agg [AV.lst false false (List.map (AV.int .i64) v9), AV.lst false false (List.map (AV.int .i64) v10), AV.lst false false (List.map (AV.int .i64) v11), AV.int .i64 v12, AV.int .i64 v13, AV.int .i64 v14, AV.int .i64 v15]) [some (.cells [AV.lst false false (List.map (AV.int .i64) v0), AV.int .i64 v16])] := by
 unfold mill_Odd at hF
 refine EN Try.func51 ?_
 intro c0 w0 Q h0 hQ
 refine WK [(0, AV.ptr 0 0), (1, AV.agg [Lz v2, Lz v3, Lz v4, Iz v5, Iz v6, Iz v7, Iz v8])] [(0, .cells [Lz v0, Iz v1])] 1 (by simp) (by simp) ?_
 refine SQ [] [none, none] fun _ _ g r => ?_
 try simp
 and_intros <;> first | exact g _ (by kernel_rfl) | refine r _ _ _ ?_ | omega | (simp [maxLen] <;> omega)
 refine WK [(0, AV.ptr 0 0), (3, AV.ptr 1 0), (4, AV.ptr 2 0)] [(0, .cells [Lz v0, Iz v1]), (1, .cells [Lz v2, Lz v3, Lz v4, Iz v5, Iz v6, Iz v7, Iz v8]), (2, c_mill_Odd )] 3 (by simp) (by simp) ?_
 refine AW.midF (α := ((List Int) × (List Int) × (List Int) × Int × Int × Int × Int × Int)) (fun (v17, v18, v19, v20, v21, v22, v23, v24) => mill_Odd.J1 k v17 v18 v19 v20 v21 v22 v23 v24 = some (v9, v10, v11, v12, v13, v14, v15, v16)) (fun (v17, v18, v19, v20, v21, v22, v23, v24) => [(3, AV.ptr 1 0), (4, AV.ptr 2 0)]) (fun (v17, v18, v19, v20, v21, v22, v23, v24) => [(0, .cells [Lz v0, Iz v24]), (1, .cells [Lz v17, Lz v18, Lz v19, Iz v20, Iz v21, Iz v22, Iz v23]), (2, c_mill_Odd )]) 3 (fun K48 hK48 => ?_) ?_
 ·refine SQ [] [none, none] fun _ _ g r => ?_
  try simp
  and_intros
  try any_goals first | omega | (simp [maxLen] <;> omega)
  obtain ⟨v25, v26, h1, hF⟩ := bnd2_elim hF
  refine aCall_l (w_made_Dice_Next k _ _ _ _ _ h1) (by simp) [0] [] [0] rfl (.cons (.same (by simp)) (.cons (.same (by simp)) .nil)) (by simp) (by decide) (by simp) (by simp) (.inl rfl) (by simp) (by simp) ?_
  try simp
  and_intros <;> first | exact g _ (by kernel_rfl) | refine r _ _ _ ?_ | omega | (simp [maxLen] <;> omega)
  refine WK [(0, AV.ptr 0 0), (3, AV.ptr 1 0), (4, AV.ptr 2 0), (6, Iz v25)] [(0, .cells [Lz v0, Iz v26]), (1, .cells [Lz v2, Lz v3, Lz v4, Iz v5, Iz v6, Iz v7, Iz v8]), (2, c_mill_Odd )] 3 (by simp) (by simp) ?_
  refine AW.block ?_
  refine SQ [] [none, none] fun _ _ g r => ?_
  try simp
  and_intros <;> first | exact g _ (by kernel_rfl) | refine r _ _ _ ?_ | omega | (simp [maxLen] <;> omega)
  refine WK [(0, AV.ptr 0 0), (3, AV.ptr 1 0), (4, AV.ptr 2 0), (6, Iz v25), (12, AV.bool (v25 == 0))] [(0, .cells [Lz v0, Iz v26]), (1, .cells [Lz v2, Lz v3, Lz v4, Iz v5, Iz v6, Iz v7, Iz v8]), (2, c_mill_Odd )] 3 (by simp) (by simp) ?_
  by_cases h2 : v25 = 0
  ·replace hF := ite_t h2 hF
   have h2q : v25 = 0 := h2
   have h2_ := eqb_t h2q
   have h2__ := neb_f h2q
   have F1 := And.intro h2_ (And.intro h2__ h2q)
   refine CT (by simp [F1] <;> omega) ?_
   refine RG [] [none, none, none, none, none, none, none, none, none, none, none] fun _ _ g r => ?_
   try simp [F1]
   and_intros
   try any_goals first | omega | (simp [maxLen, F1] <;> omega)
   obtain ⟨v27, v28, h3, hF⟩ := bnd2_elim hF
   refine aCall_l (w_made_Dice_Next k _ _ _ _ _ h3) (by simp) [0] [] [0] rfl (.cons (.same (by simp [F1])) (.cons (.same (by simp [F1])) .nil)) (by simp [F1]) (by decide) (by simp) (by simp) (.inl rfl) (by simp) (by simp) ?_
   by_cases h4 : v27 = 0
   ·replace hF := ite_t h4 hF
    have h4q : v27 = 0 := h4
    have h4_ := eqb_t h4q
    have h4__ := neb_f h4q
    have F2 := And.intro F1 (And.intro h4_ (And.intro h4__ h4q))
    try simp [F2]
    and_intros <;> first | exact g _ (by kernel_rfl) | refine r _ _ _ ?_ | omega | (simp [maxLen, F2] <;> omega)
    refine hK48 _ _ _ ?_
    refine Can.weak [(3, AV.ptr 1 0), (4, AV.ptr 2 0)] [(0, .cells [Lz v0, Iz v28]), (1, .cells [AV.lst true true (List.map (AV.int .i64) ([] : List Int)), Lz v3, Lz v4, Iz v5, Iz v6, Iz v7, Iz v8]), (2, c_mill_Odd )] 3 (by simp [F2]) (by simp [F2]) (by simp) ?_
    refine Can.flg [] [(1, .cells [Lz ([] : List Int), Lz v3, Lz v4, Iz v5, Iz v6, Iz v7, Iz v8])] trivial ⟨⟨AObj.cells [AV.lst true true (List.map (AV.int .i64) ([] : List Int)), Lz v3, Lz v4, Iz v5, Iz v6, Iz v7, Iz v8], by simp [F2], (.mk (.cons (.lst (by simp)) (.cons (.same _) (.cons (.same _) (.cons (.same _) (.cons (.same _) (.cons (.same _) (.cons (.same _) .nil))))))))⟩, trivial⟩ (by simp) ?_
    exact JN ((([] : List Int), v3, v4, v5, v6, v7, v8, v28)) hF (by simp [F2]) (by simp [F2])
   ·replace hF := ite_f h4 hF
    have h4_ := eqb_f h4
    have h4__ := neb_t h4
    by_cases h5 : v27 = 1
    ·replace hF := ite_t h5 hF
     have h5q : v27 = 1 := h5
     have h5_ := eqb_t h5q
     have h5__ := neb_f h5q
     have F3 := And.intro F1 (And.intro h4 (And.intro h4_ (And.intro h4__ (And.intro h5_ (And.intro h5__ h5q)))))
     try simp [F3]
     and_intros <;> first | exact g _ (by kernel_rfl) | refine r _ _ _ ?_ | omega | (simp [maxLen, F3] <;> omega)
     refine hK48 _ _ _ ?_
     refine Can.weak [(3, AV.ptr 1 0), (4, AV.ptr 2 0)] [(0, .cells [Lz v0, Iz v28]), (1, .cells [AV.lst false true (List.map (AV.int .i64) ([1, 1] : List Int)), Lz v3, Lz v4, Iz v5, Iz v6, Iz v7, Iz v8]), (2, c_mill_Odd )] 3 (by simp [F3]) (by simp [F3]) (by simp) ?_
     refine Can.flg [] [(1, .cells [Lz ([1, 1] : List Int), Lz v3, Lz v4, Iz v5, Iz v6, Iz v7, Iz v8])] trivial ⟨⟨AObj.cells [AV.lst false true (List.map (AV.int .i64) ([1, 1] : List Int)), Lz v3, Lz v4, Iz v5, Iz v6, Iz v7, Iz v8], by simp [F3], (.mk (.cons (.lst (by simp)) (.cons (.same _) (.cons (.same _) (.cons (.same _) (.cons (.same _) (.cons (.same _) (.cons (.same _) .nil))))))))⟩, trivial⟩ (by simp) ?_
     exact JN ((([1, 1] : List Int), v3, v4, v5, v6, v7, v8, v28)) hF (by simp [F3]) (by simp [F3])
    ·replace hF := ite_f h5 hF
     have h5_ := eqb_f h5
     have h5__ := neb_t h5
     by_cases h6 : v27 = 2
     ·replace hF := ite_t h6 hF
      have h6q : v27 = 2 := h6
      have h6_ := eqb_t h6q
      have h6__ := neb_f h6q
      have F4 := And.intro F1 (And.intro h4 (And.intro h4_ (And.intro h4__ (And.intro h5 (And.intro h5_ (And.intro h5__ (And.intro h6_ (And.intro h6__ h6q))))))))
      try simp [F4]
      and_intros <;> first | exact g _ (by kernel_rfl) | refine r _ _ _ ?_ | omega | (simp [maxLen, F4] <;> omega)
      refine hK48 _ _ _ ?_
      refine Can.weak [(3, AV.ptr 1 0), (4, AV.ptr 2 0)] [(0, .cells [Lz v0, Iz v28]), (1, .cells [AV.lst false true (List.map (AV.int .i64) ([-1] : List Int)), Lz v3, Lz v4, Iz v5, Iz v6, Iz v7, Iz v8]), (2, c_mill_Odd )] 3 (by simp [F4]) (by simp [F4]) (by simp) ?_
      refine Can.flg [] [(1, .cells [Lz ([-1] : List Int), Lz v3, Lz v4, Iz v5, Iz v6, Iz v7, Iz v8])] trivial ⟨⟨AObj.cells [AV.lst false true (List.map (AV.int .i64) ([-1] : List Int)), Lz v3, Lz v4, Iz v5, Iz v6, Iz v7, Iz v8], by simp [F4], (.mk (.cons (.lst (by simp)) (.cons (.same _) (.cons (.same _) (.cons (.same _) (.cons (.same _) (.cons (.same _) (.cons (.same _) .nil))))))))⟩, trivial⟩ (by simp) ?_
      exact JN ((([-1] : List Int), v3, v4, v5, v6, v7, v8, v28)) hF (by simp [F4]) (by simp [F4])
     ·replace hF := ite_f h6 hF
      have h6_ := eqb_f h6
      have h6__ := neb_t h6
      by_cases h7 : v27 = 3
      ·replace hF := ite_t h7 hF
       have h7q : v27 = 3 := h7
       have h7_ := eqb_t h7q
       have h7__ := neb_f h7q
       have F5 := And.intro F1 (And.intro h4 (And.intro h4_ (And.intro h4__ (And.intro h5 (And.intro h5_ (And.intro h5__ (And.intro h6 (And.intro h6_ (And.intro h6__ (And.intro h7_ (And.intro h7__ h7q)))))))))))
       try simp [F5]
       and_intros <;> first | exact g _ (by kernel_rfl) | refine r _ _ _ ?_ | omega | (simp [maxLen, F5] <;> omega)
       refine hK48 _ _ _ ?_
       refine Can.weak [(3, AV.ptr 1 0), (4, AV.ptr 2 0)] [(0, .cells [Lz v0, Iz v28]), (1, .cells [AV.lst false true (List.map (AV.int .i64) ([64] : List Int)), Lz v3, Lz v4, Iz v5, Iz v6, Iz v7, Iz v8]), (2, c_mill_Odd )] 3 (by simp [F5]) (by simp [F5]) (by simp) ?_
       refine Can.flg [] [(1, .cells [Lz ([64] : List Int), Lz v3, Lz v4, Iz v5, Iz v6, Iz v7, Iz v8])] trivial ⟨⟨AObj.cells [AV.lst false true (List.map (AV.int .i64) ([64] : List Int)), Lz v3, Lz v4, Iz v5, Iz v6, Iz v7, Iz v8], by simp [F5], (.mk (.cons (.lst (by simp)) (.cons (.same _) (.cons (.same _) (.cons (.same _) (.cons (.same _) (.cons (.same _) (.cons (.same _) .nil))))))))⟩, trivial⟩ (by simp) ?_
       exact JN ((([64] : List Int), v3, v4, v5, v6, v7, v8, v28)) hF (by simp [F5]) (by simp [F5])
      ·replace hF := ite_f h7 hF
       have h7_ := eqb_f h7
       have h7__ := neb_t h7
       by_cases h8 : v27 = 4
       ·replace hF := ite_t h8 hF
        have h8q : v27 = 4 := h8
        have h8_ := eqb_t h8q
        have h8__ := neb_f h8q
        have F6 := And.intro F1 (And.intro h4 (And.intro h4_ (And.intro h4__ (And.intro h5 (And.intro h5_ (And.intro h5__ (And.intro h6 (And.intro h6_ (And.intro h6__ (And.intro h7 (And.intro h7_ (And.intro h7__ (And.intro h8_ (And.intro h8__ h8q))))))))))))))
        try simp [F6]
        and_intros <;> first | exact g _ (by kernel_rfl) | refine r _ _ _ ?_ | omega | (simp [maxLen, F6] <;> omega)
        refine hK48 _ _ _ ?_
        refine Can.weak [(3, AV.ptr 1 0), (4, AV.ptr 2 0)] [(0, .cells [Lz v0, Iz v28]), (1, .cells [AV.lst false true (List.map (AV.int .i64) ([3, 2] : List Int)), Lz v3, Lz v4, Iz v5, Iz v6, Iz v7, Iz v8]), (2, c_mill_Odd )] 3 (by simp [F6]) (by simp [F6]) (by simp) ?_
        refine Can.flg [] [(1, .cells [Lz ([3, 2] : List Int), Lz v3, Lz v4, Iz v5, Iz v6, Iz v7, Iz v8])] trivial ⟨⟨AObj.cells [AV.lst false true (List.map (AV.int .i64) ([3, 2] : List Int)), Lz v3, Lz v4, Iz v5, Iz v6, Iz v7, Iz v8], by simp [F6], (.mk (.cons (.lst (by simp)) (.cons (.same _) (.cons (.same _) (.cons (.same _) (.cons (.same _) (.cons (.same _) (.cons (.same _) .nil))))))))⟩, trivial⟩ (by simp) ?_
        exact JN ((([3, 2] : List Int), v3, v4, v5, v6, v7, v8, v28)) hF (by simp [F6]) (by simp [F6])
       ·replace hF := ite_f h8 hF
        have h8_ := eqb_f h8
        have h8__ := neb_t h8
        cases hF
  ·replace hF := ite_f h2 hF
   have h2_ := eqb_f h2
   have h2__ := neb_t h2
   have F7 := And.intro h2 (And.intro h2_ h2__)
   refine CF (by simp [F7] <;> omega) ?_
   refine SQ [] [none, none] fun _ _ g r => ?_
   try simp [F7]
   and_intros <;> first | exact g _ (by kernel_rfl) | refine r _ _ _ ?_ | omega | (simp [maxLen, F7] <;> omega)
   refine WK [(0, AV.ptr 0 0), (3, AV.ptr 1 0), (4, AV.ptr 2 0), (6, Iz v25), (24, AV.bool (v25 == 1))] [(0, .cells [Lz v0, Iz v26]), (1, .cells [Lz v2, Lz v3, Lz v4, Iz v5, Iz v6, Iz v7, Iz v8]), (2, c_mill_Odd )] 3 (by simp [F7]) (by simp [F7]) ?_
   by_cases h9 : v25 = 1
   ·replace hF := ite_t h9 hF
    have h9q : v25 = 1 := h9
    have h9_ := eqb_t h9q
    have h9__ := neb_f h9q
    have F8 := And.intro F7 (And.intro h9_ (And.intro h9__ h9q))
    refine CT (by simp [F8] <;> omega) ?_
    refine RG [] [none, none, none, none, none] fun _ _ g r => ?_
    try simp [F8]
    and_intros
    try any_goals first | omega | (simp [maxLen, F8] <;> omega)
    obtain ⟨v29, v30, h10, hF⟩ := bnd2_elim hF
    refine aCall_l (w_made_Dice_Of k _ _ _ _ _ h10) (by simp) [0] [] [0] rfl (.cons (.same (by simp [F8])) (.cons (Coe.fl (by simp [F8])) .nil)) (by simp [F8]) (by decide) (by simp) (by simp) (.inl rfl) (by simp) (by simp) ?_
    try simp [F8]
    and_intros <;> first | exact g _ (by kernel_rfl) | refine r _ _ _ ?_ | omega | (simp [maxLen, F8] <;> omega)
    refine hK48 _ _ _ ?_
    exact JN ((v2, v3, v4, v5, v29, v7, v8, v30)) hF (by simp [F8]) (by simp [F8])
   ·replace hF := ite_f h9 hF
    have h9_ := eqb_f h9
    have h9__ := neb_t h9
    have F9 := And.intro F7 (And.intro h9 (And.intro h9_ h9__))
    refine CF (by simp [F9] <;> omega) ?_
    refine SQ [] [none, none] fun _ _ g r => ?_
    try simp [F9]
    and_intros <;> first | exact g _ (by kernel_rfl) | refine r _ _ _ ?_ | omega | (simp [maxLen, F9] <;> omega)
    refine WK [(0, AV.ptr 0 0), (3, AV.ptr 1 0), (4, AV.ptr 2 0), (6, Iz v25), (30, AV.bool (v25 == 2))] [(0, .cells [Lz v0, Iz v26]), (1, .cells [Lz v2, Lz v3, Lz v4, Iz v5, Iz v6, Iz v7, Iz v8]), (2, c_mill_Odd )] 3 (by simp [F9]) (by simp [F9]) ?_
    by_cases h11 : v25 = 2
    ·replace hF := ite_t h11 hF
     have h11q : v25 = 2 := h11
     have h11_ := eqb_t h11q
     have h11__ := neb_f h11q
     have F10 := And.intro F9 (And.intro h11_ (And.intro h11__ h11q))
     refine CT (by simp [F10] <;> omega) ?_
     refine RG [] [none, none, none, none, none] fun _ _ g r => ?_
     try simp [F10]
     and_intros
     try any_goals first | omega | (simp [maxLen, F10] <;> omega)
     obtain ⟨v31, v32, h12, hF⟩ := bnd2_elim hF
     refine aCall_l (w_made_Dice_Of k _ _ _ _ _ h12) (by simp) [0] [] [0] rfl (.cons (.same (by simp [F10])) (.cons (Coe.fl (by simp [F10])) .nil)) (by simp [F10]) (by decide) (by simp) (by simp) (.inl rfl) (by simp) (by simp) ?_
     try simp [F10]
     and_intros <;> first | exact g _ (by kernel_rfl) | refine r _ _ _ ?_ | omega | (simp [maxLen, F10] <;> omega)
     refine hK48 _ _ _ ?_
     exact JN ((v2, v3, v4, v5, v6, v31, v8, v32)) hF (by simp [F10]) (by simp [F10])
    ·replace hF := ite_f h11 hF
     have h11_ := eqb_f h11
     have h11__ := neb_t h11
     have F11 := And.intro F9 (And.intro h11 (And.intro h11_ h11__))
     refine CF (by simp [F11] <;> omega) ?_
     refine SQ [] [none, none] fun _ _ g r => ?_
     try simp [F11]
     and_intros <;> first | exact g _ (by kernel_rfl) | refine r _ _ _ ?_ | omega | (simp [maxLen, F11] <;> omega)
     refine WK [(0, AV.ptr 0 0), (3, AV.ptr 1 0), (4, AV.ptr 2 0), (6, Iz v25), (36, AV.bool (v25 == 3))] [(0, .cells [Lz v0, Iz v26]), (1, .cells [Lz v2, Lz v3, Lz v4, Iz v5, Iz v6, Iz v7, Iz v8]), (2, c_mill_Odd )] 3 (by simp [F11]) (by simp [F11]) ?_
     by_cases h13 : v25 = 3
     ·replace hF := ite_t h13 hF
      have h13q : v25 = 3 := h13
      have h13_ := eqb_t h13q
      have h13__ := neb_f h13q
      have F12 := And.intro F11 (And.intro h13_ (And.intro h13__ h13q))
      refine CT (by simp [F12] <;> omega) ?_
      refine RG [] [none, none, none, none, none] fun _ _ g r => ?_
      try simp [F12]
      and_intros
      try any_goals first | omega | (simp [maxLen, F12] <;> omega)
      obtain ⟨v33, v34, h14, hF⟩ := bnd2_elim hF
      refine aCall_l (w_made_Dice_Of k _ _ _ _ _ h14) (by simp) [0] [] [0] rfl (.cons (.same (by simp [F12])) (.cons (Coe.fl (by simp [F12])) .nil)) (by simp [F12]) (by decide) (by simp) (by simp) (.inl rfl) (by simp) (by simp) ?_
      try simp [F12]
      and_intros <;> first | exact g _ (by kernel_rfl) | refine r _ _ _ ?_ | omega | (simp [maxLen, F12] <;> omega)
      refine hK48 _ _ _ ?_
      exact JN ((v2, v3, v4, v5, v6, v7, v33, v34)) hF (by simp [F12]) (by simp [F12])
     ·replace hF := ite_f h13 hF
      have h13_ := eqb_f h13
      have h13__ := neb_t h13
      have F13 := And.intro F11 (And.intro h13 (And.intro h13_ h13__))
      refine CF (by simp [F13] <;> omega) ?_
      refine SQ [] [none, none] fun _ _ g r => ?_
      try simp [F13]
      and_intros <;> first | exact g _ (by kernel_rfl) | refine r _ _ _ ?_ | omega | (simp [maxLen, F13] <;> omega)
      refine WK [(0, AV.ptr 0 0), (3, AV.ptr 1 0), (4, AV.ptr 2 0), (6, Iz v25), (42, AV.bool (v25 == 4))] [(0, .cells [Lz v0, Iz v26]), (1, .cells [Lz v2, Lz v3, Lz v4, Iz v5, Iz v6, Iz v7, Iz v8]), (2, c_mill_Odd )] 3 (by simp [F13]) (by simp [F13]) ?_
      by_cases h15 : v25 = 4
      ·replace hF := ite_t h15 hF
       have h15q : v25 = 4 := h15
       have h15_ := eqb_t h15q
       have h15__ := neb_f h15q
       have F14 := And.intro F13 (And.intro h15_ (And.intro h15__ h15q))
       refine CT (by simp [F14] <;> omega) ?_
       refine RG [] [none, none, none, none, none, none, none, none, none, none] fun _ _ g r => ?_
       try simp [F14]
       and_intros
       try any_goals first | omega | (simp [maxLen, F14] <;> omega)
       obtain ⟨v35, v36, h16, hF⟩ := bnd2_elim hF
       refine aCall_l (w_made_Dice_Next k _ _ _ _ _ h16) (by simp) [0] [] [0] rfl (.cons (.same (by simp [F14])) (.cons (.same (by simp [F14])) .nil)) (by simp [F14]) (by decide) (by simp) (by simp) (.inl rfl) (by simp) (by simp) ?_
       by_cases h17 : v35 = 0
       ·replace hF := ite_t h17 hF
        have h17q : v35 = 0 := h17
        have h17_ := eqb_t h17q
        have h17__ := neb_f h17q
        have F15 := And.intro F14 (And.intro h17_ (And.intro h17__ h17q))
        try simp [F15]
        and_intros <;> first | exact g _ (by kernel_rfl) | refine r _ _ _ ?_ | omega | (simp [maxLen, F15] <;> omega)
        refine hK48 _ _ _ ?_
        refine Can.weak [(3, AV.ptr 1 0), (4, AV.ptr 2 0)] [(0, .cells [Lz v0, Iz v36]), (1, .cells [Lz v2, AV.lst true true (List.map (AV.int .i64) ([] : List Int)), Lz v4, Iz v5, Iz v6, Iz v7, Iz v8]), (2, c_mill_Odd )] 3 (by simp [F15]) (by simp [F15]) (by simp) ?_
        refine Can.flg [] [(1, .cells [Lz v2, Lz ([] : List Int), Lz v4, Iz v5, Iz v6, Iz v7, Iz v8])] trivial ⟨⟨AObj.cells [Lz v2, AV.lst true true (List.map (AV.int .i64) ([] : List Int)), Lz v4, Iz v5, Iz v6, Iz v7, Iz v8], by simp [F15], (.mk (.cons (.same _) (.cons (.lst (by simp)) (.cons (.same _) (.cons (.same _) (.cons (.same _) (.cons (.same _) (.cons (.same _) .nil))))))))⟩, trivial⟩ (by simp) ?_
        exact JN ((v2, ([] : List Int), v4, v5, v6, v7, v8, v36)) hF (by simp [F15]) (by simp [F15])
       ·replace hF := ite_f h17 hF
        have h17_ := eqb_f h17
        have h17__ := neb_t h17
        by_cases h18 : v35 = 1
        ·replace hF := ite_t h18 hF
         have h18q : v35 = 1 := h18
         have h18_ := eqb_t h18q
         have h18__ := neb_f h18q
         have F16 := And.intro F14 (And.intro h17 (And.intro h17_ (And.intro h17__ (And.intro h18_ (And.intro h18__ h18q)))))
         try simp [F16]
         and_intros <;> first | exact g _ (by kernel_rfl) | refine r _ _ _ ?_ | omega | (simp [maxLen, F16] <;> omega)
         refine hK48 _ _ _ ?_
         refine Can.weak [(3, AV.ptr 1 0), (4, AV.ptr 2 0)] [(0, .cells [Lz v0, Iz v36]), (1, .cells [Lz v2, AV.lst false true (List.map (AV.int .i64) ([64] : List Int)), Lz v4, Iz v5, Iz v6, Iz v7, Iz v8]), (2, c_mill_Odd )] 3 (by simp [F16]) (by simp [F16]) (by simp) ?_
         refine Can.flg [] [(1, .cells [Lz v2, Lz ([64] : List Int), Lz v4, Iz v5, Iz v6, Iz v7, Iz v8])] trivial ⟨⟨AObj.cells [Lz v2, AV.lst false true (List.map (AV.int .i64) ([64] : List Int)), Lz v4, Iz v5, Iz v6, Iz v7, Iz v8], by simp [F16], (.mk (.cons (.same _) (.cons (.lst (by simp)) (.cons (.same _) (.cons (.same _) (.cons (.same _) (.cons (.same _) (.cons (.same _) .nil))))))))⟩, trivial⟩ (by simp) ?_
         exact JN ((v2, ([64] : List Int), v4, v5, v6, v7, v8, v36)) hF (by simp [F16]) (by simp [F16])
        ·replace hF := ite_f h18 hF
         have h18_ := eqb_f h18
         have h18__ := neb_t h18
         by_cases h19 : v35 = 2
         ·replace hF := ite_t h19 hF
          have h19q : v35 = 2 := h19
          have h19_ := eqb_t h19q
          have h19__ := neb_f h19q
          have F17 := And.intro F14 (And.intro h17 (And.intro h17_ (And.intro h17__ (And.intro h18 (And.intro h18_ (And.intro h18__ (And.intro h19_ (And.intro h19__ h19q))))))))
          try simp [F17]
          and_intros <;> first | exact g _ (by kernel_rfl) | refine r _ _ _ ?_ | omega | (simp [maxLen, F17] <;> omega)
          refine hK48 _ _ _ ?_
          refine Can.weak [(3, AV.ptr 1 0), (4, AV.ptr 2 0)] [(0, .cells [Lz v0, Iz v36]), (1, .cells [Lz v2, AV.lst false true (List.map (AV.int .i64) ([1, 0] : List Int)), Lz v4, Iz v5, Iz v6, Iz v7, Iz v8]), (2, c_mill_Odd )] 3 (by simp [F17]) (by simp [F17]) (by simp) ?_
          refine Can.flg [] [(1, .cells [Lz v2, Lz ([1, 0] : List Int), Lz v4, Iz v5, Iz v6, Iz v7, Iz v8])] trivial ⟨⟨AObj.cells [Lz v2, AV.lst false true (List.map (AV.int .i64) ([1, 0] : List Int)), Lz v4, Iz v5, Iz v6, Iz v7, Iz v8], by simp [F17], (.mk (.cons (.same _) (.cons (.lst (by simp)) (.cons (.same _) (.cons (.same _) (.cons (.same _) (.cons (.same _) (.cons (.same _) .nil))))))))⟩, trivial⟩ (by simp) ?_
          exact JN ((v2, ([1, 0] : List Int), v4, v5, v6, v7, v8, v36)) hF (by simp [F17]) (by simp [F17])
         ·replace hF := ite_f h19 hF
          have h19_ := eqb_f h19
          have h19__ := neb_t h19
          cases hF
      ·replace hF := ite_f h15 hF
       have h15_ := eqb_f h15
       have h15__ := neb_t h15
       have F18 := And.intro F13 (And.intro h15 (And.intro h15_ h15__))
       refine CF (by simp [F18] <;> omega) ?_
       refine SQ [] [none, none] fun _ _ g r => ?_
       try simp [F18]
       and_intros <;> first | exact g _ (by kernel_rfl) | refine r _ _ _ ?_ | omega | (simp [maxLen, F18] <;> omega)
       refine WK [(0, AV.ptr 0 0), (3, AV.ptr 1 0), (4, AV.ptr 2 0), (53, AV.bool (v25 == 5))] [(0, .cells [Lz v0, Iz v26]), (1, .cells [Lz v2, Lz v3, Lz v4, Iz v5, Iz v6, Iz v7, Iz v8]), (2, c_mill_Odd )] 3 (by simp [F18]) (by simp [F18]) ?_
       by_cases h20 : v25 = 5
       ·replace hF := ite_t h20 hF
        have h20q : v25 = 5 := h20
        have h20_ := eqb_t h20q
        have h20__ := neb_f h20q
        have F19 := And.intro F18 (And.intro h20_ (And.intro h20__ h20q))
        refine CT (by simp [F19] <;> omega) ?_
        refine RG [] [none, none, none, none, none, none, none, none, none, none, none] fun _ _ g r => ?_
        try simp [F19]
        and_intros
        try any_goals first | omega | (simp [maxLen, F19] <;> omega)
        obtain ⟨v37, v38, h21, hF⟩ := bnd2_elim hF
        refine aCall_l (w_made_Dice_Next k _ _ _ _ _ h21) (by simp) [0] [] [0] rfl (.cons (.same (by simp [F19])) (.cons (.same (by simp [F19])) .nil)) (by simp [F19]) (by decide) (by simp) (by simp) (.inl rfl) (by simp) (by simp) ?_
        by_cases h22 : v37 = 0
        ·replace hF := ite_t h22 hF
         have h22q : v37 = 0 := h22
         have h22_ := eqb_t h22q
         have h22__ := neb_f h22q
         have F20 := And.intro F19 (And.intro h22_ (And.intro h22__ h22q))
         try simp [F20]
         and_intros <;> first | exact g _ (by kernel_rfl) | refine r _ _ _ ?_ | omega | (simp [maxLen, F20] <;> omega)
         refine hK48 _ _ _ ?_
         refine Can.weak [(3, AV.ptr 1 0), (4, AV.ptr 2 0)] [(0, .cells [Lz v0, Iz v38]), (1, .cells [Lz v2, Lz v3, AV.lst true true (List.map (AV.int .i64) ([] : List Int)), Iz v5, Iz v6, Iz v7, Iz v8]), (2, c_mill_Odd )] 3 (by simp [F20]) (by simp [F20]) (by simp) ?_
         refine Can.flg [] [(1, .cells [Lz v2, Lz v3, Lz ([] : List Int), Iz v5, Iz v6, Iz v7, Iz v8])] trivial ⟨⟨AObj.cells [Lz v2, Lz v3, AV.lst true true (List.map (AV.int .i64) ([] : List Int)), Iz v5, Iz v6, Iz v7, Iz v8], by simp [F20], (.mk (.cons (.same _) (.cons (.same _) (.cons (.lst (by simp)) (.cons (.same _) (.cons (.same _) (.cons (.same _) (.cons (.same _) .nil))))))))⟩, trivial⟩ (by simp) ?_
         exact JN ((v2, v3, ([] : List Int), v5, v6, v7, v8, v38)) hF (by simp [F20]) (by simp [F20])
        ·replace hF := ite_f h22 hF
         have h22_ := eqb_f h22
         have h22__ := neb_t h22
         by_cases h23 : v37 = 1
         ·replace hF := ite_t h23 hF
          have h23q : v37 = 1 := h23
          have h23_ := eqb_t h23q
          have h23__ := neb_f h23q
          have F21 := And.intro F19 (And.intro h22 (And.intro h22_ (And.intro h22__ (And.intro h23_ (And.intro h23__ h23q)))))
          try simp [F21]
          and_intros <;> first | exact g _ (by kernel_rfl) | refine r _ _ _ ?_ | omega | (simp [maxLen, F21] <;> omega)
          refine hK48 _ _ _ ?_
          refine Can.weak [(3, AV.ptr 1 0), (4, AV.ptr 2 0)] [(0, .cells [Lz v0, Iz v38]), (1, .cells [Lz v2, Lz v3, AV.lst false true (List.map (AV.int .i64) ([1, 2] : List Int)), Iz v5, Iz v6, Iz v7, Iz v8]), (2, c_mill_Odd )] 3 (by simp [F21]) (by simp [F21]) (by simp) ?_
          refine Can.flg [] [(1, .cells [Lz v2, Lz v3, Lz ([1, 2] : List Int), Iz v5, Iz v6, Iz v7, Iz v8])] trivial ⟨⟨AObj.cells [Lz v2, Lz v3, AV.lst false true (List.map (AV.int .i64) ([1, 2] : List Int)), Iz v5, Iz v6, Iz v7, Iz v8], by simp [F21], (.mk (.cons (.same _) (.cons (.same _) (.cons (.lst (by simp)) (.cons (.same _) (.cons (.same _) (.cons (.same _) (.cons (.same _) .nil))))))))⟩, trivial⟩ (by simp) ?_
          exact JN ((v2, v3, ([1, 2] : List Int), v5, v6, v7, v8, v38)) hF (by simp [F21]) (by simp [F21])
         ·replace hF := ite_f h23 hF
          have h23_ := eqb_f h23
          have h23__ := neb_t h23
          by_cases h24 : v37 = 2
          ·replace hF := ite_t h24 hF
           have h24q : v37 = 2 := h24
           have h24_ := eqb_t h24q
           have h24__ := neb_f h24q
           have F22 := And.intro F19 (And.intro h22 (And.intro h22_ (And.intro h22__ (And.intro h23 (And.intro h23_ (And.intro h23__ (And.intro h24_ (And.intro h24__ h24q))))))))
           try simp [F22]
           and_intros <;> first | exact g _ (by kernel_rfl) | refine r _ _ _ ?_ | omega | (simp [maxLen, F22] <;> omega)
           refine hK48 _ _ _ ?_
           refine Can.weak [(3, AV.ptr 1 0), (4, AV.ptr 2 0)] [(0, .cells [Lz v0, Iz v38]), (1, .cells [Lz v2, Lz v3, AV.lst false true (List.map (AV.int .i64) ([0] : List Int)), Iz v5, Iz v6, Iz v7, Iz v8]), (2, c_mill_Odd )] 3 (by simp [F22]) (by simp [F22]) (by simp) ?_
           refine Can.flg [] [(1, .cells [Lz v2, Lz v3, Lz ([0] : List Int), Iz v5, Iz v6, Iz v7, Iz v8])] trivial ⟨⟨AObj.cells [Lz v2, Lz v3, AV.lst false true (List.map (AV.int .i64) ([0] : List Int)), Iz v5, Iz v6, Iz v7, Iz v8], by simp [F22], (.mk (.cons (.same _) (.cons (.same _) (.cons (.lst (by simp)) (.cons (.same _) (.cons (.same _) (.cons (.same _) (.cons (.same _) .nil))))))))⟩, trivial⟩ (by simp) ?_
           exact JN ((v2, v3, ([0] : List Int), v5, v6, v7, v8, v38)) hF (by simp [F22]) (by simp [F22])
          ·replace hF := ite_f h24 hF
           have h24_ := eqb_f h24
           have h24__ := neb_t h24
           by_cases h25 : v37 = 3
           ·replace hF := ite_t h25 hF
            have h25q : v37 = 3 := h25
            have h25_ := eqb_t h25q
            have h25__ := neb_f h25q
            have F23 := And.intro F19 (And.intro h22 (And.intro h22_ (And.intro h22__ (And.intro h23 (And.intro h23_ (And.intro h23__ (And.intro h24 (And.intro h24_ (And.intro h24__ (And.intro h25_ (And.intro h25__ h25q)))))))))))
            try simp [F23]
            and_intros <;> first | exact g _ (by kernel_rfl) | refine r _ _ _ ?_ | omega | (simp [maxLen, F23] <;> omega)
            refine hK48 _ _ _ ?_
            refine Can.weak [(3, AV.ptr 1 0), (4, AV.ptr 2 0)] [(0, .cells [Lz v0, Iz v38]), (1, .cells [Lz v2, Lz v3, AV.lst false true (List.map (AV.int .i64) ([1001] : List Int)), Iz v5, Iz v6, Iz v7, Iz v8]), (2, c_mill_Odd )] 3 (by simp [F23]) (by simp [F23]) (by simp) ?_
            refine Can.flg [] [(1, .cells [Lz v2, Lz v3, Lz ([1001] : List Int), Iz v5, Iz v6, Iz v7, Iz v8])] trivial ⟨⟨AObj.cells [Lz v2, Lz v3, AV.lst false true (List.map (AV.int .i64) ([1001] : List Int)), Iz v5, Iz v6, Iz v7, Iz v8], by simp [F23], (.mk (.cons (.same _) (.cons (.same _) (.cons (.lst (by simp)) (.cons (.same _) (.cons (.same _) (.cons (.same _) (.cons (.same _) .nil))))))))⟩, trivial⟩ (by simp) ?_
            exact JN ((v2, v3, ([1001] : List Int), v5, v6, v7, v8, v38)) hF (by simp [F23]) (by simp [F23])
           ·replace hF := ite_f h25 hF
            have h25_ := eqb_f h25
            have h25__ := neb_t h25
            cases hF
       ·replace hF := ite_f h20 hF
        have h20_ := eqb_f h20
        have h20__ := neb_t h20
        have F24 := And.intro F18 (And.intro h20 (And.intro h20_ h20__))
        refine CF (by simp [F24] <;> omega) ?_
        refine RG [] [none, none, none, none, none, none] fun _ _ g r => ?_
        try simp [F24]
        and_intros
        try any_goals first | omega | (simp [maxLen, F24] <;> omega)
        obtain ⟨v39, v40, h26, hF⟩ := bnd2_elim hF
        refine aCall_l (w_made_Dice_Of k _ _ _ _ _ h26) (by simp) [0] [] [0] rfl (.cons (.same (by simp [F24])) (.cons (Coe.fl (by simp [F24])) .nil)) (by simp [F24]) (by decide) (by simp) (by simp) (.inl rfl) (by simp) (by simp) ?_
        try simp [F24]
        and_intros <;> first | exact g _ (by kernel_rfl) | refine r _ _ _ ?_ | omega | (simp [maxLen, F24] <;> omega)
        refine hK48 _ _ _ ?_
        exact JN ((v2, v3, v4, v39, v6, v7, v8, v40)) hF (by simp [F24]) (by simp [F24])
 ·rintro ⟨v17, v18, v19, v20, v21, v22, v23, v24⟩ hF
  try dsimp only at hF
  unfold mill_Odd.J1 at hF
  refine SQ [] [none, none] fun _ _ g r => ?_
  try simp
  and_intros <;> first | exact g _ (by kernel_rfl) | refine r _ _ _ ?_ | omega | (simp [maxLen] <;> omega)
  refine WK [(4, AV.ptr 2 0)] [(0, .cells [Lz v0, Iz v24]), (2, .cells [Lz v17, Lz v18, Lz v19, Iz v20, Iz v21, Iz v22, Iz v23])] 3 (by simp) (by simp) ?_
  refine AW.rnm (m := 1) h0 [(0, 0), (1, 2)] [(4, AV.ptr 1 0)] [(0, .cells [Lz v0, Iz v24]), (1, .cells [Lz v17, Lz v18, Lz v19, Iz v20, Iz v21, Iz v22, Iz v23])] 2 (by decide) (by decide) (by decide) rfl (by simp) (by simp) ?_
  simp only [Option.some.injEq, Prod.mk.injEq] at hF
  obtain ⟨e0, e1, e2, e3, e4, e5, e6, e7⟩ := hF
  subst e0 e1 e2 e3 e4 e5 e6 e7
  refine AW.ret (hQ _ _ _ ?_ (matchO_0 ?_)).1
  ·simp [Try.f51]
  ·simp
end Go.TF
