/- Walks: the Go text computes the Lean functions (printed by a program of our own). -/
import Derived.Test.YtepdfenlkeaefaaIPu
import Derived.Test.YtepdfenlkeaefaaIAbsT
import Derived.Test.YtepdfenlkeaefaaIWa0
import Derived.Test.YtepdfenlkeaefaaIWa1
import Derived.Test.YtepdfenlkeaefaaIWa4
import Derived.Test.YtepdfenlkeaefaaIWa5
set_option linter.unusedVariables false
set_option linter.unusedSimpArgs false
set_option maxRecDepth 100000
set_option maxHeartbeats 4000000
namespace Go.TF
open Go Go.Abs Go.Proofs Go.Proofs.YtepdfenlkeaefaaIT
theorem w_ref24_Has (k : Nat) (v0 : (List Int)) (v1 : Int) (v2 : Bool) (hF : ref24_Has k v0 v1 = some v2) :
  FCall Try.prog 54 [AV.lst false false (List.map (AV.int .i64) v0), AV.int .i64 v1] [] (AV.bool v2) [] := by
 unfold ref24_Has at hF
 refine EN Try.func54 ?_
 intro c0 w0 Q h0 hQ
 refine WK [(0, Lz v0), (1, Iz v1)] [] 0 (by simp) (by simp) ?_
 refine SQ [] [none] fun _ _ g r => ?_
 try simp
 and_intros <;> first | exact g _ (by kernel_rfl) | refine r _ _ _ ?_ | omega | (simp [maxLen] <;> omega)
 refine WK [(0, Lz v0), (1, Iz v1)] [] 0 (by simp) (by simp) ?_
 refine AW.seq fun K119 hK119 => ?_
 refine SQ [] [none] fun _ _ g r => ?_
 try simp
 and_intros <;> first | exact g _ (by kernel_rfl) | refine r _ _ _ ?_ | omega | (simp [maxLen] <;> omega)
 refine WK [(0, Lz v0), (1, Iz v1), (5, Iz 0)] [] 0 (by simp) (by simp) ?_
 refine AW.block ?_
 refine AW.loopF (α := Int) (fun n v3 => ref24_Has.L1 k v0 v1 n v3 = some v2) (fun v3 => [(0, Lz v0), (1, Iz v1), (5, Iz v3)]) (fun v3 => []) 0 k (0) hF (by simp) (by simp) (by simp) ?_
 rintro (_|n1) v3 hF K148 hK148
 ·try dsimp only at hF
  rw [ref24_Has.L1] at hF; cases hF
 try dsimp only at hF
 rw [ref24_Has.L1] at hF
 refine AW.seq fun K150 hK150 => ?_
 refine SQ [] [none, none, none, none] fun _ _ g r => ?_
 try simp
 and_intros <;> first | exact g _ (by kernel_rfl) | refine r _ _ _ ?_ | omega | (simp [maxLen] <;> omega)
 refine WK [(0, Lz v0), (1, Iz v1), (5, Iz v3), (9, AV.bool (decide (v3 < (v0.length : Int))))] [] 0 (by simp) (by simp) ?_
 by_cases h1 : v3 < (v0.length : Int)
 ·replace hF := ite_t h1 hF
  have h1_ := h1
  try simp at h1_
  refine CT (by simp [h1, h1_] <;> omega) ?_
  refine AW.skip ?_
  refine hK150 _ _ _ ?_
  refine AW.seq fun K154 hK154 => ?_
  refine AW.block ?_
  refine SQ [] [none, none, none, none, none, none] fun _ _ g r => ?_
  obtain ⟨v4, h2, h3, h4, hF⟩ := idx_elim hF
  have h4_ := get_of h4
  try simp at h4_
  have h3_ := h3
  try simp at h3_
  have F1 := And.intro h1 (And.intro h1_ (And.intro h2 (And.intro h3 (And.intro h4 (And.intro h4_ h3_)))))
  try simp [F1]
  and_intros <;> first | exact g _ (by kernel_rfl) | refine r _ _ _ ?_ | omega | (simp [maxLen, F1] <;> omega)
  refine WK [(0, Lz v0), (1, Iz v1), (5, Iz v3), (17, AV.bool (v4 == v1))] [] 0 (by simp [F1]) (by simp [F1]) ?_
  by_cases h5 : v4 = v1
  ·replace hF := ite_t h5 hF
   have h5q : v4 = v1 := h5
   have h5_ := eqb_t h5q
   have h5__ := neb_f h5q
   have F2 := And.intro F1 (And.intro h5_ h5__)
   refine CT (by simp [F2] <;> omega) ?_
   refine SQ [] [none] fun _ _ g r => ?_
   try simp [F2]
   and_intros <;> first | exact g _ (by kernel_rfl) | refine r _ _ _ ?_ | omega | (simp [maxLen, F2] <;> omega)
   refine WK [(4, AV.bool true)] [] 0 (by simp [F2]) (by simp [F2]) ?_
   simp only [Option.some.injEq] at hF
   subst hF
   refine AW.ret (hQ _ _ _ ?_ (matchO_0 ?_)).1
   ·simp [Try.f54, F2]
   ·simp [F2]
  ·replace hF := ite_f h5 hF
   have h5_ := eqb_f h5
   have h5__ := neb_t h5
   have F3 := And.intro F1 (And.intro h5 (And.intro h5_ h5__))
   refine CF (by simp [F3] <;> omega) ?_
   refine AW.skip ?_
   refine hK154 _ _ _ ?_
   refine RG [] [none, none, none] fun _ _ g r => ?_
   try simp [F3]
   and_intros <;> first | exact g _ (by kernel_rfl) | refine r _ _ _ ?_ | omega | (simp [maxLen, F3] <;> omega)
   refine hK148 _ _ _ ?_
   exact NX (k' := n1) (IntKind.wrap .i64 (v3 + 1)) hF (by simp [F3]) (by simp [F3])
 ·replace hF := ite_f h1 hF
  have h1_ := h1
  try simp at h1_
  refine CF (by simp [h1, h1_] <;> omega) ?_
  refine AW.exit ?_
  try simp
  refine hK119 _ _ _ ?_
  refine SQ [] [none] fun _ _ g r => ?_
  try simp [h1, h1_]
  and_intros <;> first | exact g _ (by kernel_rfl) | refine r _ _ _ ?_ | omega | (simp [h1, h1_, maxLen] <;> omega)
  refine WK [(4, AV.bool false)] [] 0 (by simp [h1, h1_]) (by simp [h1, h1_]) ?_
  simp only [Option.some.injEq] at hF
  subst hF
  refine AW.ret (hQ _ _ _ ?_ (matchO_0 ?_)).1
  ·simp [Try.f54, h1, h1_]
  ·simp [h1, h1_]
theorem w_ref24_Minus (k : Nat) (v0 : (List Int)) (v1 : (List Int)) (v2 : (List Int)) (hF : ref24_Minus k v0 v1 = some v2) :
  FCall Try.prog 69 [AV.lst false false (List.map (AV.int .i64) v0), AV.lst false false (List.map (AV.int .i64) v1)] [] (AV.slc 0 0 1 v2.length false) [some (.grow (List.map (AV.int .i64) v2))] := by
 unfold ref24_Minus at hF
 refine EN Try.func69 ?_
 intro c0 w0 Q h0 hQ
 refine WK [(0, Lz v0), (1, Lz v1)] [] 0 (by simp) (by simp) ?_
 refine SQ [] [none] fun _ _ g r => ?_
 try simp
 and_intros <;> first | exact g _ (by kernel_rfl) | refine r _ _ _ ?_ | omega | (simp [maxLen] <;> omega)
 refine WK [(0, Lz v0), (1, Lz v1)] [] 0 (by simp) (by simp) ?_
 refine SQ [] [none] fun _ _ g r => ?_
 try simp
 and_intros <;> first | exact g _ (by kernel_rfl) | refine r _ _ _ ?_ | omega | (simp [maxLen] <;> omega)
 refine WK [(0, Lz v0), (1, Lz v1), (5, AV.lst true true (List.map (AV.int .i64) ([] : List Int)))] [] 0 (by simp) (by simp) ?_
 refine AW.seq fun K121 hK121 => ?_
 refine SQ [] [none] fun _ _ g r => ?_
 try simp
 and_intros <;> first | exact g _ (by kernel_rfl) | refine r _ _ _ ?_ | omega | (simp [maxLen] <;> omega)
 refine WK [(0, Lz v0), (1, Lz v1), (5, AV.lst true true (List.map (AV.int .i64) ([] : List Int))), (6, Iz 0)] [] 0 (by simp) (by simp) ?_
 refine AW.block ?_
 refine AW.own' 5 1 true (by simp) (by decide) ?_
 refine AW.loopF (α := (Int × (List Int))) (fun n (v3, v4) => ref24_Minus.L1 k v0 v1 n v3 v4 = some v2) (fun (v3, v4) => [(0, Lz v0), (1, Lz v1), (5, AV.slc 0 0 1 v4.length false), (6, Iz v3)]) (fun (v3, v4) => [(0, .grow (List.map (AV.int .i64) v4))]) 1 k ((0, ([] : List Int))) hF (by simp) (by simp) (by simp) ?_
 rintro (_|n1) ⟨v3, v4⟩ hF K150 hK150
 ·try dsimp only at hF
  rw [ref24_Minus.L1] at hF; cases hF
 try dsimp only at hF
 rw [ref24_Minus.L1] at hF
 refine AW.seq fun K152 hK152 => ?_
 refine SQ [] [none, none] fun _ _ g r => ?_
 try simp
 and_intros <;> first | exact g _ (by kernel_rfl) | refine r _ _ _ ?_ | omega | (simp [maxLen] <;> omega)
 refine WK [(0, Lz v0), (1, Lz v1), (5, AV.slc 0 0 1 v4.length false), (6, Iz v3), (8, AV.bool (decide (v3 < 64)))] [(0, .grow (List.map (AV.int .i64) v4))] 1 (by simp) (by simp) ?_
 by_cases h1 : v3 < 64
 ·replace hF := ite_t h1 hF
  have h1_ := h1
  try simp at h1_
  refine CT (by simp [h1, h1_] <;> omega) ?_
  refine AW.skip ?_
  refine hK152 _ _ _ ?_
  refine AW.midF (α := (List Int)) (fun v5 => ref24_Minus.J2 k v3 (fun v3_ v4_ => ref24_Minus.L1 k v0 v1 n1 v3_ v4_) v5 = some v2) (fun v5 => [(0, Lz v0), (1, Lz v1), (5, AV.slc 0 0 1 v5.length false), (6, Iz v3)]) (fun v5 => [(0, .grow (List.map (AV.int .i64) v5))]) 1 (fun K157 hK157 => ?_) ?_
  ·refine AW.block ?_
   refine SQ [] [none, none, none, none, some (14, true), some (14, true), some (14, true), some (14, true), none] fun _ _ g r => ?_
   try simp [h1, h1_]
   and_intros
   try any_goals first | omega | (simp [h1, h1_, maxLen] <;> omega)
   obtain ⟨v6, h2, hF⟩ := bnd1_elim hF
   refine AC (w_ref24_Has k _ _ _ h2) (.cons (.same (by simp [h1, h1_])) (.cons (.same (by simp [h1, h1_])) .nil)) ?_
   by_cases h3 : v6 = true
   ·replace hF := ite_t h3 hF
    have h3_ := h3
    try simp at h3_
    have F1 := And.intro h1 (And.intro h1_ (And.intro h3 h3_))
    try simp [F1]
    and_intros
    try any_goals first | omega | (simp [maxLen, F1] <;> omega)
    obtain ⟨v7, h4, hF⟩ := bnd1_elim hF
    refine AC (w_ref24_Has k _ _ _ h4) (.cons (.same (by simp [F1])) (.cons (.same (by simp [F1])) .nil)) ?_
    try simp [F1]
    and_intros <;> first | exact g _ (by kernel_rfl) | refine r _ _ _ ?_ | omega | (simp [maxLen, F1] <;> omega)
    refine WK [(0, Lz v0), (1, Lz v1), (5, AV.slc 0 0 1 v4.length false), (6, Iz v3), (19, AV.bool (!v7))] [(0, .grow (List.map (AV.int .i64) v4))] 1 (by simp [F1]) (by simp [F1]) ?_
    by_cases h5 : (!v7) = true
    ·replace hF := ite_t h5 hF
     have h5_ := h5
     try simp at h5_
     have F2 := And.intro F1 (And.intro h5 h5_)
     refine CT (by simp [F2] <;> omega) ?_
     refine RG [] [none, none, none, none, none] fun _ _ g r => ?_
     obtain ⟨h6, hF⟩ := chk_elim hF
     have h6_ := h6
     try simp at h6_
     have F3 := And.intro F2 h6
     try simp [F3]
     and_intros <;> first | exact g _ (by kernel_rfl) | refine r _ _ _ ?_ | omega | (simp [maxLen, F3] <;> omega)
     refine hK157 _ _ _ ?_
     refine RN h0 [(0, 1)] [(0, Lz v0), (1, Lz v1), (5, AV.slc 0 0 1 ((v4 ++ ([v3] : List Int)).length) false), (6, Iz v3)] [(0, .grow (List.map (AV.int .i64) (v4 ++ ([v3] : List Int))))] 1 (by simp [F3] <;> omega) (by simp [F3]) ?_
     exact JN (v4 ++ ([v3] : List Int)) hF (by simp [F3]) (by simp [F3])
    ·replace hF := ite_f h5 hF
     have h5_ := h5
     try simp at h5_
     have F4 := And.intro F1 (And.intro h5 h5_)
     refine CF (by simp [F4] <;> omega) ?_
     refine AW.skip ?_
     refine hK157 _ _ _ ?_
     exact JN (v4) hF (by simp [F4]) (by simp [F4])
   ·replace hF := ite_f h3 hF
    have h3_ := h3
    try simp at h3_
    have F5 := And.intro h1 (And.intro h1_ (And.intro h3 h3_))
    try simp [F5]
    and_intros <;> first | exact g _ (by kernel_rfl) | refine r _ _ _ ?_ | omega | (simp [maxLen, F5] <;> omega)
    refine WK [(0, Lz v0), (1, Lz v1), (5, AV.slc 0 0 1 v4.length false), (6, Iz v3), (19, AV.bool false)] [(0, .grow (List.map (AV.int .i64) v4))] 1 (by simp [F5]) (by simp [F5]) ?_
    refine CF (by simp [F5]) ?_
    refine AW.skip ?_
    refine hK157 _ _ _ ?_
    exact JN (v4) hF (by simp [F5]) (by simp [F5])
  ·rintro v5 hF
   try dsimp only at hF
   unfold ref24_Minus.J2 at hF
   refine RG [] [none, none, none] fun _ _ g r => ?_
   try simp [h1, h1_]
   and_intros <;> first | exact g _ (by kernel_rfl) | refine r _ _ _ ?_ | omega | (simp [h1, h1_, maxLen] <;> omega)
   refine hK150 _ _ _ ?_
   exact NX (k' := n1) ((IntKind.wrap .i64 (v3 + 1), v5)) hF (by simp [h1, h1_]) (by simp [h1, h1_])
 ·replace hF := ite_f h1 hF
  have h1_ := h1
  try simp at h1_
  refine CF (by simp [h1, h1_] <;> omega) ?_
  refine AW.exit ?_
  try simp
  refine hK121 _ _ _ ?_
  refine SQ [] [none, none] fun _ _ g r => ?_
  try simp [h1, h1_]
  and_intros <;> first | exact g _ (by kernel_rfl) | refine r _ _ _ ?_ | omega | (simp [h1, h1_, maxLen] <;> omega)
  refine WK [(4, AV.slc 0 0 1 v4.length false)] [(0, .grow (List.map (AV.int .i64) v4))] 1 (by simp [h1, h1_]) (by simp [h1, h1_]) ?_
  simp only [Option.some.injEq] at hF
  subst hF
  refine AW.ret (hQ _ _ _ ?_ (matchO_0 ?_)).1
  ·simp [Try.f69, h1, h1_]
  ·simp [h1, h1_]
theorem w_ref26_Draw (k : Nat) (v0 : (List Int)) (v1 : (List Int)) (v2 : Int) (v3 : (List Int)) (v4 : Int) (hF : ref26_Draw k v0 v1 v2 = some (v3, v4)) :
  FCall Try.prog 92 [AV.lst false false (List.map (AV.int .i64) v0), AV.lst false false (List.map (AV.int .i64) v1), AV.int .i64 v2] [] (AV.tup [AV.slc 0 0 1 v3.length false, AV.int .i64 v4]) [some (.grow (List.map (AV.int .i64) v3))] := by
 unfold ref26_Draw at hF
 refine EN Try.func92 ?_
 intro c0 w0 Q h0 hQ
 refine WK [(0, Lz v0), (1, Lz v1), (2, Iz v2)] [] 0 (by simp) (by simp) ?_
 refine SQ [] [none, none] fun _ _ g r => ?_
 try simp
 and_intros <;> first | exact g _ (by kernel_rfl) | refine r _ _ _ ?_ | omega | (simp [maxLen] <;> omega)
 refine WK [(0, Lz v0), (1, Lz v1), (2, Iz v2)] [] 0 (by simp) (by simp) ?_
 refine AW.seq fun K196 hK196 => ?_
 refine SQ [] [none, none, none] fun _ _ g r => ?_
 try simp
 and_intros
 try any_goals first | omega | (simp [maxLen] <;> omega)
 obtain ⟨v5, h1, hF⟩ := bnd1_elim hF
 refine AC (w_ref24_Valid k _ _ h1) (.cons (.same (by simp)) .nil) ?_
 try simp
 and_intros <;> first | exact g _ (by kernel_rfl) | refine r _ _ _ ?_ | omega | (simp [maxLen] <;> omega)
 refine WK [(0, Lz v0), (1, Lz v1), (2, Iz v2), (15, AV.bool (!v5))] [] 0 (by simp) (by simp) ?_
 by_cases h2 : (!v5) = true
 ·replace hF := ite_t h2 hF
  have h2_ := h2
  try simp at h2_
  refine CT (by simp [h2, h2_] <;> omega) ?_
  refine SQ [] [none, none] fun _ _ g r => ?_
  try simp [h2, h2_]
  and_intros <;> first | exact g _ (by kernel_rfl) | refine r _ _ _ ?_ | omega | (simp [h2, h2_, maxLen] <;> omega)
  refine WK [(6, AV.lst true true (List.map (AV.int .i64) ([] : List Int))), (7, Iz 43)] [] 0 (by simp [h2, h2_]) (by simp [h2, h2_]) ?_
  refine AW.own' 6 1 true (by simp [h2, h2_]) (by decide) ?_
  simp only [Option.some.injEq, Prod.mk.injEq] at hF
  obtain ⟨e0, e1⟩ := hF
  subst e0 e1
  refine AW.ret (hQ _ _ _ ?_ (matchO_0 ?_)).1
  ·simp [Try.f92, h2, h2_]
  ·simp [h2, h2_]
 ·replace hF := ite_f h2 hF
  have h2_ := h2
  try simp at h2_
  refine CF (by simp [h2, h2_] <;> omega) ?_
  refine AW.skip ?_
  refine hK196 _ _ _ ?_
  refine SQ [] [none, none, none, none, none] fun _ _ g r => ?_
  obtain ⟨v6, h3, hF⟩ := let1_elim hF
  have h3_ := h3
  try simp at h3_
  have F1 := And.intro h2 (And.intro h2_ (And.intro h3 h3_))
  try simp [F1]
  and_intros <;> first | exact g _ (by kernel_rfl) | refine r _ _ _ ?_ | omega | (simp [maxLen, F1] <;> omega)
  refine WK [(0, Lz v0), (1, Lz v1), (2, Iz v2), (8, Iz v6)] [] 0 (by simp [F1]) (by simp [F1]) ?_
  refine AW.seq fun K204 hK204 => ?_
  refine SQ [] [none, none, none, some (22, false), some (22, false), none, none, some (26, false), some (26, false), some (26, false), some (26, false), none] fun _ _ g r => ?_
  by_cases h4 : v2 < 1
  ·replace hF := ite_t h4 hF
   have h4_ := h4
   try simp at h4_
   have F2 := And.intro F1 (And.intro h4 h4_)
   try simp [F2]
   and_intros <;> first | exact g _ (by kernel_rfl) | refine r _ _ _ ?_ | omega | (simp [maxLen, F2] <;> omega)
   refine WK [(0, Lz v0), (1, Lz v1), (8, Iz v6), (31, AV.bool true)] [] 0 (by simp [F2]) (by simp [F2]) ?_
   refine CT (by simp [F2]) ?_
   refine SQ [] [none, none] fun _ _ g r => ?_
   try simp [F2]
   and_intros <;> first | exact g _ (by kernel_rfl) | refine r _ _ _ ?_ | omega | (simp [maxLen, F2] <;> omega)
   refine WK [(6, AV.lst true true (List.map (AV.int .i64) ([] : List Int))), (7, Iz 44)] [] 0 (by simp [F2]) (by simp [F2]) ?_
   refine AW.own' 6 1 true (by simp [F2]) (by decide) ?_
   simp only [Option.some.injEq, Prod.mk.injEq] at hF
   obtain ⟨e0, e1⟩ := hF
   subst e0 e1
   refine AW.ret (hQ _ _ _ ?_ (matchO_0 ?_)).1
   ·simp [Try.f92, F2]
   ·simp [F2]
  ·replace hF := ite_f h4 hF
   have h4_ := h4
   try simp at h4_
   by_cases h5 : 9 < v2
   ·replace hF := ite_t h5 hF
    have h5_ := h5
    try simp at h5_
    have F3 := And.intro F1 (And.intro h4 (And.intro h4_ (And.intro h5 h5_)))
    try simp [F3]
    and_intros <;> first | exact g _ (by kernel_rfl) | refine r _ _ _ ?_ | omega | (simp [maxLen, F3] <;> omega)
    refine WK [(0, Lz v0), (1, Lz v1), (8, Iz v6), (31, AV.bool true)] [] 0 (by simp [F3]) (by simp [F3]) ?_
    refine CT (by simp [F3]) ?_
    refine SQ [] [none, none] fun _ _ g r => ?_
    try simp [F3]
    and_intros <;> first | exact g _ (by kernel_rfl) | refine r _ _ _ ?_ | omega | (simp [maxLen, F3] <;> omega)
    refine WK [(6, AV.lst true true (List.map (AV.int .i64) ([] : List Int))), (7, Iz 44)] [] 0 (by simp [F3]) (by simp [F3]) ?_
    refine AW.own' 6 1 true (by simp [F3]) (by decide) ?_
    simp only [Option.some.injEq, Prod.mk.injEq] at hF
    obtain ⟨e0, e1⟩ := hF
    subst e0 e1
    refine AW.ret (hQ _ _ _ ?_ (matchO_0 ?_)).1
    ·simp [Try.f92, F3]
    ·simp [F3]
   ·replace hF := ite_f h5 hF
    have h5_ := h5
    try simp at h5_
    have F4 := And.intro F1 (And.intro h4 (And.intro h4_ (And.intro h5 h5_)))
    try simp [F4]
    and_intros <;> first | exact g _ (by kernel_rfl) | refine r _ _ _ ?_ | omega | (simp [maxLen, F4] <;> omega)
    refine WK [(0, Lz v0), (1, Lz v1), (8, Iz v6), (31, AV.bool (decide ((v1.length : Int) < v6)))] [] 0 (by simp [F4]) (by simp [F4]) ?_
    by_cases h6 : (v1.length : Int) < v6
    ·replace hF := ite_t h6 hF
     have h6_ := h6
     try simp at h6_
     have F5 := And.intro F4 (And.intro h6 h6_)
     refine CT (by simp [F5] <;> omega) ?_
     refine SQ [] [none, none] fun _ _ g r => ?_
     try simp [F5]
     and_intros <;> first | exact g _ (by kernel_rfl) | refine r _ _ _ ?_ | omega | (simp [maxLen, F5] <;> omega)
     refine WK [(6, AV.lst true true (List.map (AV.int .i64) ([] : List Int))), (7, Iz 44)] [] 0 (by simp [F5]) (by simp [F5]) ?_
     refine AW.own' 6 1 true (by simp [F5]) (by decide) ?_
     simp only [Option.some.injEq, Prod.mk.injEq] at hF
     obtain ⟨e0, e1⟩ := hF
     subst e0 e1
     refine AW.ret (hQ _ _ _ ?_ (matchO_0 ?_)).1
     ·simp [Try.f92, F5]
     ·simp [F5]
    ·replace hF := ite_f h6 hF
     have h6_ := h6
     try simp at h6_
     have F6 := And.intro F4 (And.intro h6 h6_)
     refine CF (by simp [F6] <;> omega) ?_
     refine AW.skip ?_
     refine hK204 _ _ _ ?_
     refine SQ [34] [none, none, none, none] fun _ _ g r => ?_
     obtain ⟨h7, hF⟩ := chk_elim hF
     have h7_ := h7
     try simp at h7_
     have F7 := And.intro F6 h7
     try simp [F7]
     and_intros <;> first | exact g _ (by kernel_rfl) | refine r _ _ _ ?_ | omega | (simp [maxLen, F7] <;> omega)
     refine WK [(1, Lz v1), (8, Iz v6), (9, AV.slc 0 0 1 v0.length false)] [(0, .grow (List.map (AV.int .i64) v0))] 1 (by simp [F7]) (by simp [F7]) ?_
     refine AW.frz 0 (o := .grow (List.map (AV.int .i64) v0)) (by simp [F7]) rfl [(9, Lz v0)] [] ⟨(.l (by simp) (by simp) (by simp) (by simp)), trivial⟩ trivial ?_
     refine WK [(1, Lz v1), (8, Iz v6), (9, Lz v0)] [] 1 (by simp [F7]) (by simp [F7]) ?_
     refine SQ [] [none] fun _ _ g r => ?_
     try simp [F7]
     and_intros <;> first | exact g _ (by kernel_rfl) | refine r _ _ _ ?_ | omega | (simp [maxLen, F7] <;> omega)
     refine WK [(1, Lz v1), (8, Iz v6), (9, Lz v0), (10, AV.lst true true (List.map (AV.int .i64) ([] : List Int)))] [] 1 (by simp [F7]) (by simp [F7]) ?_
     refine AW.seq fun K297 hK297 => ?_
     refine SQ [] [none] fun _ _ g r => ?_
     try simp [F7]
     and_intros <;> first | exact g _ (by kernel_rfl) | refine r _ _ _ ?_ | omega | (simp [maxLen, F7] <;> omega)
     refine WK [(1, Lz v1), (8, Iz v6), (9, Lz v0), (10, AV.lst true true (List.map (AV.int .i64) ([] : List Int))), (11, Iz 0)] [] 1 (by simp [F7]) (by simp [F7]) ?_
     refine AW.block ?_
     refine AW.own' 10 1 true (by simp [F7]) (by decide) ?_
     refine RM h0 [(0, 1)] [(1, Lz v1), (8, Iz v6), (9, Lz v0), (10, AV.slc 0 0 1 (([] : List Int).length) false), (11, Iz 0)] [(0, .grow (List.map (AV.int .i64) ([] : List Int)))] 1 (by simp [F7]) (by simp [F7]) ?_
     refine AW.loopF (α := ((List Int) × Int × (List Int))) (fun n (v7, v8, v9) => ref26_Draw.L1 k v1 v6 n v7 v8 v9 = some (v3, v4)) (fun (v7, v8, v9) => [(1, Lz v1), (8, Iz v6), (9, Lz v7), (10, AV.slc 0 0 1 v9.length false), (11, Iz v8)]) (fun (v7, v8, v9) => [(0, .grow (List.map (AV.int .i64) v9))]) 1 k ((v0, 0, ([] : List Int))) hF (by simp [F7]) (by simp [F7]) (by simp) ?_
     rintro (_|n1) ⟨v7, v8, v9⟩ hF K362 hK362
     ·try dsimp only at hF
      rw [ref26_Draw.L1] at hF; cases hF
     try dsimp only at hF
     rw [ref26_Draw.L1] at hF
     refine AW.seq fun K364 hK364 => ?_
     refine SQ [] [none, none, none] fun _ _ g r => ?_
     try simp [F7]
     and_intros <;> first | exact g _ (by kernel_rfl) | refine r _ _ _ ?_ | omega | (simp [maxLen, F7] <;> omega)
     refine WK [(1, Lz v1), (8, Iz v6), (9, Lz v7), (10, AV.slc 0 0 1 v9.length false), (11, Iz v8), (37, AV.bool (decide (v8 < v6)))] [(0, .grow (List.map (AV.int .i64) v9))] 1 (by simp [F7]) (by simp [F7]) ?_
     by_cases h8 : v8 < v6
     ·replace hF := ite_t h8 hF
      have h8_ := h8
      try simp at h8_
      have F8 := And.intro F7 (And.intro h8 h8_)
      refine CT (by simp [F8] <;> omega) ?_
      refine AW.skip ?_
      refine hK364 _ _ _ ?_
      refine AW.seq fun K374 hK374 => ?_
      refine AW.block ?_
      refine AW.seq fun K377 hK377 => ?_
      refine SQ [] [none, none, none, none, none] fun _ _ g r => ?_
      obtain ⟨v10, h9, h10, h11, hF⟩ := idx_elim hF
      have h11_ := get_of h11
      try simp at h11_
      have h10_ := h10
      try simp at h10_
      have F9 := And.intro F8 (And.intro h9 (And.intro h10 (And.intro h11 (And.intro h11_ h10_))))
      try simp [F9]
      and_intros <;> first | exact g _ (by kernel_rfl) | refine r _ _ _ ?_ | omega | (simp [maxLen, F9] <;> omega)
      refine WK [(1, Lz v1), (8, Iz v6), (9, Lz v7), (10, AV.slc 0 0 1 v9.length false), (11, Iz v8), (44, AV.bool (decide (v10 < 0)))] [(0, .grow (List.map (AV.int .i64) v9))] 1 (by simp [F9]) (by simp [F9]) ?_
      by_cases h12 : v10 < 0
      ·replace hF := ite_t h12 hF
       have h12_ := h12
       try simp at h12_
       have F10 := And.intro F9 (And.intro h12 h12_)
       refine CT (by simp [F10] <;> omega) ?_
       refine SQ [] [none, none] fun _ _ g r => ?_
       try simp [F10]
       and_intros <;> first | exact g _ (by kernel_rfl) | refine r _ _ _ ?_ | omega | (simp [maxLen, F10] <;> omega)
       refine WK [(6, AV.lst true true (List.map (AV.int .i64) ([] : List Int))), (7, Iz 44)] [] 1 (by simp [F10]) (by simp [F10]) ?_
       refine AW.own' 6 1 true (by simp [F10]) (by decide) ?_
       refine RM h0 [(0, 1)] [(6, AV.slc 0 0 1 (([] : List Int).length) false), (7, Iz 44)] [(0, .grow (List.map (AV.int .i64) ([] : List Int)))] 1 (by simp [F10]) (by simp [F10]) ?_
       simp only [Option.some.injEq, Prod.mk.injEq] at hF
       obtain ⟨e0, e1⟩ := hF
       subst e0 e1
       refine AW.ret (hQ _ _ _ ?_ (matchO_0 ?_)).1
       ·simp [Try.f92, F10]
       ·simp [F10]
      ·replace hF := ite_f h12 hF
       have h12_ := h12
       try simp at h12_
       have F11 := And.intro F9 (And.intro h12 h12_)
       refine CF (by simp [F11] <;> omega) ?_
       refine AW.skip ?_
       refine hK377 _ _ _ ?_
       refine SQ [] [none, none, none, none, none, none, none, none] fun _ _ g r => ?_
       obtain ⟨h13, hF⟩ := chk_elim hF
       have h13_ := h13
       try simp at h13_
       have F12 := And.intro F11 (And.intro h13 h13_)
       try simp [F12]
       and_intros <;> first | exact g _ (by kernel_rfl) | refine r _ _ _ ?_ | omega | (simp [maxLen, F12] <;> omega)
       refine WK [(1, Lz v1), (8, Iz v6), (9, Lz v7), (10, AV.slc 0 0 1 v9.length false), (11, Iz v8), (12, Iz (Int.tmod v10 (v7.length : Int)))] [(0, .grow (List.map (AV.int .i64) v9))] 1 (by simp [F12]) (by simp [F12]) ?_
       refine SQ [] [none, none, none, none, none, none, none, none] fun _ _ g r => ?_
       obtain ⟨v11, h14, h15, h16, hF⟩ := idx_elim hF
       have h16_ := get_of h16
       try simp at h16_
       have h15_ := h15
       try simp at h15_
       obtain ⟨h17, hF⟩ := chk_elim hF
       have h17_ := h17
       try simp at h17_
       have F13 := And.intro F12 (And.intro h14 (And.intro h15 (And.intro h16 (And.intro h16_ (And.intro h15_ h17)))))
       try simp [F13]
       and_intros <;> first | exact g _ (by kernel_rfl) | refine r _ _ _ ?_ | omega | (simp [maxLen, F13] <;> omega)
       refine WK [(1, Lz v1), (8, Iz v6), (9, Lz v7), (10, AV.slc 1 0 1 ((v9 ++ ([v11] : List Int)).length) false), (11, Iz v8), (12, Iz (Int.tmod v10 (v7.length : Int)))] [(1, .grow (List.map (AV.int .i64) (v9 ++ ([v11] : List Int))))] 2 (by simp [F13] <;> omega) (by simp [F13]) ?_
       refine RG [63] [none, none, none, none, none, none, none, none, none, none, none] fun _ _ g r => ?_
       obtain ⟨⟨h18, h19⟩, hF⟩ := chk_elim hF
       have h18_ := h18
       try simp at h18_
       have h19_ := h19
       try simp at h19_
       obtain ⟨h20, hF⟩ := chk_elim hF
       have h20_ := h20
       try simp at h20_
       obtain ⟨⟨h21, h22⟩, hF⟩ := chk_elim hF
       have h21_ := h21
       try simp at h21_
       have h22_ := h22
       try simp at h22_
       obtain ⟨h23, hF⟩ := chk_elim hF
       have h23_ := h23
       try simp at h23_
       have F14 := And.intro F13 (And.intro h18 (And.intro h19 (And.intro h18_ (And.intro h19_ (And.intro h20 (And.intro h21 (And.intro h22 (And.intro h21_ (And.intro h22_ h23)))))))))
       try simp [F14]
       and_intros <;> first | exact g _ (by kernel_rfl) | refine r _ _ _ ?_ | omega | (simp [maxLen, F14] <;> omega)
       refine hK374 _ _ _ ?_
       refine WK [(1, Lz v1), (8, Iz v6), (9, AV.slc 3 0 1 (((v7.take (Int.tmod v10 (v7.length : Int)).toNat) ++ (v7.drop (IntKind.wrap .i64 (Int.tmod v10 (v7.length : Int) + 1)).toNat)).length) false), (10, AV.slc 1 0 1 ((v9 ++ ([v11] : List Int)).length) false), (11, Iz v8)] [(1, .grow (List.map (AV.int .i64) (v9 ++ ([v11] : List Int)))), (3, .grow (List.map (AV.int .i64) ((v7.take (Int.tmod v10 (v7.length : Int)).toNat) ++ (v7.drop (IntKind.wrap .i64 (Int.tmod v10 (v7.length : Int) + 1)).toNat))))] 4 (by simp [F14] <;> omega) (by simp [F14]) ?_
       refine AW.frz 3 (o := .grow (List.map (AV.int .i64) ((v7.take (Int.tmod v10 (v7.length : Int)).toNat) ++ (v7.drop (IntKind.wrap .i64 (Int.tmod v10 (v7.length : Int) + 1)).toNat)))) (by simp [F14]) rfl [(9, Lz ((v7.take (Int.tmod v10 (v7.length : Int)).toNat) ++ (v7.drop (IntKind.wrap .i64 (Int.tmod v10 (v7.length : Int) + 1)).toNat)))] [] ⟨(.l (by simp) (by simp) (by simp) (by simp)), trivial⟩ trivial ?_
       refine WK [(1, Lz v1), (8, Iz v6), (9, Lz ((v7.take (Int.tmod v10 (v7.length : Int)).toNat) ++ (v7.drop (IntKind.wrap .i64 (Int.tmod v10 (v7.length : Int) + 1)).toNat))), (10, AV.slc 1 0 1 ((v9 ++ ([v11] : List Int)).length) false), (11, Iz v8)] [(1, .grow (List.map (AV.int .i64) (v9 ++ ([v11] : List Int))))] 4 (by simp [F14] <;> omega) (by simp [F14]) ?_
       refine RG [] [none, none, none] fun _ _ g r => ?_
       try simp [F14]
       and_intros <;> first | exact g _ (by kernel_rfl) | refine r _ _ _ ?_ | omega | (simp [maxLen, F14] <;> omega)
       refine hK362 _ _ _ ?_
       refine RN h0 [(0, 1)] [(1, Lz v1), (8, Iz v6), (9, Lz ((v7.take (Int.tmod v10 (v7.length : Int)).toNat) ++ (v7.drop (IntKind.wrap .i64 (Int.tmod v10 (v7.length : Int) + 1)).toNat))), (10, AV.slc 0 0 1 ((v9 ++ ([v11] : List Int)).length) false), (11, Iz (IntKind.wrap .i64 (v8 + 1)))] [(0, .grow (List.map (AV.int .i64) (v9 ++ ([v11] : List Int))))] 1 (by simp [F14] <;> omega) (by simp [F14]) ?_
       exact NX (k' := n1) (((v7.take (Int.tmod v10 (v7.length : Int)).toNat) ++ (v7.drop (IntKind.wrap .i64 (Int.tmod v10 (v7.length : Int) + 1)).toNat), IntKind.wrap .i64 (v8 + 1), v9 ++ ([v11] : List Int))) hF (by simp [F14]) (by simp [F14])
     ·replace hF := ite_f h8 hF
      have h8_ := h8
      try simp at h8_
      have F15 := And.intro F7 (And.intro h8 h8_)
      refine CF (by simp [F15] <;> omega) ?_
      refine AW.exit ?_
      try simp
      refine hK297 _ _ _ ?_
      refine SQ [] [none, none, none] fun _ _ g r => ?_
      try simp [F15]
      and_intros <;> first | exact g _ (by kernel_rfl) | refine r _ _ _ ?_ | omega | (simp [maxLen, F15] <;> omega)
      refine WK [(6, AV.slc 0 0 1 v9.length false), (7, Iz 0)] [(0, .grow (List.map (AV.int .i64) v9))] 1 (by simp [F15]) (by simp [F15]) ?_
      simp only [Option.some.injEq, Prod.mk.injEq] at hF
      obtain ⟨e0, e1⟩ := hF
      subst e0 e1
      refine AW.ret (hQ _ _ _ ?_ (matchO_0 ?_)).1
      ·simp [Try.f92, F15]
      ·simp [F15]
theorem w_ref26_Of (k : Nat) (v0 : (List Int)) (v1 : (List Int)) (v2 : (List Int)) (v3 : Int) (v4 : Int) (v5 : Int) (v6 : Int) (v7 : ByteArray) (v8 : (List Int)) (v9 : Int) (v10 : Int) (v11 : Int) (v12 : Int) (v13 : (List Int)) (v14 : Int) (hF : ref26_Of k v0 v1 v2 v3 v4 v5 v6 v7 v8 v9 v10 v11 v12 = some (v13, v14)) :
  FCall Try.prog 53 [AV.agg [AV.lst false false (List.map (AV.int .i64) v0), AV.lst false false (List.map (AV.int .i64) v1), AV.lst false false (List.map (AV.int .i64) v2), AV.int .i64 v3, AV.int .i64 v4, AV.int .i64 v5, AV.int .i64 v6], AV.str v7, AV.lst false false (List.map (AV.int .i64) v8), AV.agg [AV.int .i64 v9, AV.int .i64 v10, AV.int .i64 v11, AV.int .i64 v12]] [] (AV.tup [AV.slc 0 0 1 v13.length false, AV.int .i64 v14]) [some (.grow (List.map (AV.int .i64) v13))] := by
 unfold ref26_Of at hF
 refine EN Try.func53 ?_
 intro c0 w0 Q h0 hQ
 refine WK [(0, AV.agg [Lz v0, Lz v1, Lz v2, Iz v3, Iz v4, Iz v5, Iz v6]), (1, AV.str v7), (2, Lz v8), (3, AV.agg [Iz v9, Iz v10, Iz v11, Iz v12])] [] 0 (by simp) (by simp) ?_
 refine SQ [] [none, none, none, none] fun _ _ g r => ?_
 try simp
 and_intros <;> first | exact g _ (by kernel_rfl) | refine r _ _ _ ?_ | omega | (simp [maxLen] <;> omega)
 refine WK [(1, AV.str v7), (2, Lz v8), (4, AV.ptr 0 0), (7, AV.ptr 1 0)] [(0, .cells [Lz v0, Lz v1, Lz v2, Iz v3, Iz v4, Iz v5, Iz v6]), (1, .cells [Iz v9, Iz v10, Iz v11, Iz v12])] 2 (by simp) (by simp) ?_
 refine AW.seq fun K310 hK310 => ?_
 refine SQ [] [none, none, none] fun _ _ g r => ?_
 try simp
 and_intros
 try any_goals first | omega | (simp [maxLen] <;> omega)
 obtain ⟨v15, h1, hF⟩ := bnd1_elim hF
 refine AC (w_ref24_Check k _ _ _ _ _ _ _ _ h1) (.cons (.same (by simp)) .nil) ?_
 try simp
 and_intros <;> first | exact g _ (by kernel_rfl) | refine r _ _ _ ?_ | omega | (simp [maxLen] <;> omega)
 refine WK [(1, AV.str v7), (2, Lz v8), (4, AV.ptr 0 0), (7, AV.ptr 1 0), (10, Iz v15)] [(0, .cells [Lz v0, Lz v1, Lz v2, Iz v3, Iz v4, Iz v5, Iz v6]), (1, .cells [Iz v9, Iz v10, Iz v11, Iz v12])] 2 (by simp) (by simp) ?_
 refine SQ [] [none, none] fun _ _ g r => ?_
 try simp
 and_intros <;> first | exact g _ (by kernel_rfl) | refine r _ _ _ ?_ | omega | (simp [maxLen] <;> omega)
 refine WK [(1, AV.str v7), (2, Lz v8), (4, AV.ptr 0 0), (7, AV.ptr 1 0), (10, Iz v15), (19, AV.bool (v15 != 0))] [(0, .cells [Lz v0, Lz v1, Lz v2, Iz v3, Iz v4, Iz v5, Iz v6]), (1, .cells [Iz v9, Iz v10, Iz v11, Iz v12])] 2 (by simp) (by simp) ?_
 by_cases h2 : v15 ≠ 0
 ·replace hF := ite_t h2 hF
  have h2_ := eqb_f h2
  have h2__ := neb_t h2
  have F1 := And.intro h2 (And.intro h2_ h2__)
  refine CT (by simp [F1] <;> omega) ?_
  refine SQ [] [none, none, none] fun _ _ g r => ?_
  try simp [F1]
  and_intros <;> first | exact g _ (by kernel_rfl) | refine r _ _ _ ?_ | omega | (simp [maxLen, F1] <;> omega)
  refine WK [(8, AV.lst true true (List.map (AV.int .i64) ([] : List Int))), (9, Iz v15)] [] 2 (by simp [F1]) (by simp [F1]) ?_
  refine AW.own' 8 1 true (by simp [F1]) (by decide) ?_
  refine RM h0 [(0, 2)] [(8, AV.slc 0 0 1 (([] : List Int).length) false), (9, Iz v15)] [(0, .grow (List.map (AV.int .i64) ([] : List Int)))] 1 (by simp [F1]) (by simp [F1]) ?_
  simp only [Option.some.injEq, Prod.mk.injEq] at hF
  obtain ⟨e0, e1⟩ := hF
  subst e0 e1
  refine AW.ret (hQ _ _ _ ?_ (matchO_0 ?_)).1
  ·simp [Try.f53, F1]
  ·simp [F1]
 ·replace hF := ite_f h2 hF
  have h2q : v15 = 0 := Classical.not_not.1 h2
  have h2_ := eqb_t h2q
  have h2__ := neb_f h2q
  have F2 := And.intro h2_ (And.intro h2__ h2q)
  refine CF (by simp [F2] <;> omega) ?_
  refine AW.skip ?_
  refine hK310 _ _ _ ?_
  refine AW.seq fun K316 hK316 => ?_
  refine SQ [] [none, none, none] fun _ _ g r => ?_
  try simp [F2]
  and_intros
  try any_goals first | omega | (simp [maxLen, F2] <;> omega)
  obtain ⟨v16, h3, hF⟩ := bnd1_elim hF
  refine AC (w_ref24_Valid k _ _ h3) (.cons (.same (by simp [F2])) .nil) ?_
  try simp [F2]
  and_intros <;> first | exact g _ (by kernel_rfl) | refine r _ _ _ ?_ | omega | (simp [maxLen, F2] <;> omega)
  refine WK [(1, AV.str v7), (2, Lz v8), (4, AV.ptr 0 0), (7, AV.ptr 1 0), (23, AV.bool (!v16))] [(0, .cells [Lz v0, Lz v1, Lz v2, Iz v3, Iz v4, Iz v5, Iz v6]), (1, .cells [Iz v9, Iz v10, Iz v11, Iz v12])] 2 (by simp [F2]) (by simp [F2]) ?_
  by_cases h4 : (!v16) = true
  ·replace hF := ite_t h4 hF
   have h4_ := h4
   try simp at h4_
   have F3 := And.intro F2 (And.intro h4 h4_)
   refine CT (by simp [F3] <;> omega) ?_
   refine SQ [] [none, none] fun _ _ g r => ?_
   try simp [F3]
   and_intros <;> first | exact g _ (by kernel_rfl) | refine r _ _ _ ?_ | omega | (simp [maxLen, F3] <;> omega)
   refine WK [(8, AV.lst true true (List.map (AV.int .i64) ([] : List Int))), (9, Iz 43)] [] 2 (by simp [F3]) (by simp [F3]) ?_
   refine AW.own' 8 1 true (by simp [F3]) (by decide) ?_
   refine RM h0 [(0, 2)] [(8, AV.slc 0 0 1 (([] : List Int).length) false), (9, Iz 43)] [(0, .grow (List.map (AV.int .i64) ([] : List Int)))] 1 (by simp [F3]) (by simp [F3]) ?_
   simp only [Option.some.injEq, Prod.mk.injEq] at hF
   obtain ⟨e0, e1⟩ := hF
   subst e0 e1
   refine AW.ret (hQ _ _ _ ?_ (matchO_0 ?_)).1
   ·simp [Try.f53, F3]
   ·simp [F3]
  ·replace hF := ite_f h4 hF
   have h4_ := h4
   try simp at h4_
   have F4 := And.intro F2 (And.intro h4 h4_)
   refine CF (by simp [F4] <;> omega) ?_
   refine AW.skip ?_
   refine hK316 _ _ _ ?_
   refine AW.seq fun K321 hK321 => ?_
   refine SQ [] [none, none, none] fun _ _ g r => ?_
   try simp [F4]
   and_intros
   try any_goals first | omega | (simp [maxLen, F4] <;> omega)
   obtain ⟨v17, h5, hF⟩ := bnd1_elim hF
   refine AC (w_ref23_Valid k _ _ _ _ _ h5) (.cons (.same (by simp [F4])) .nil) ?_
   try simp [F4]
   and_intros <;> first | exact g _ (by kernel_rfl) | refine r _ _ _ ?_ | omega | (simp [maxLen, F4] <;> omega)
   refine WK [(1, AV.str v7), (2, Lz v8), (4, AV.ptr 0 0), (7, AV.ptr 1 0), (26, AV.bool (!v17))] [(0, .cells [Lz v0, Lz v1, Lz v2, Iz v3, Iz v4, Iz v5, Iz v6]), (1, .cells [Iz v9, Iz v10, Iz v11, Iz v12])] 2 (by simp [F4]) (by simp [F4]) ?_
   by_cases h6 : (!v17) = true
   ·replace hF := ite_t h6 hF
    have h6_ := h6
    try simp at h6_
    have F5 := And.intro F4 (And.intro h6 h6_)
    refine CT (by simp [F5] <;> omega) ?_
    refine SQ [] [none, none] fun _ _ g r => ?_
    try simp [F5]
    and_intros <;> first | exact g _ (by kernel_rfl) | refine r _ _ _ ?_ | omega | (simp [maxLen, F5] <;> omega)
    refine WK [(8, AV.lst true true (List.map (AV.int .i64) ([] : List Int))), (9, Iz 41)] [] 2 (by simp [F5]) (by simp [F5]) ?_
    refine AW.own' 8 1 true (by simp [F5]) (by decide) ?_
    refine RM h0 [(0, 2)] [(8, AV.slc 0 0 1 (([] : List Int).length) false), (9, Iz 41)] [(0, .grow (List.map (AV.int .i64) ([] : List Int)))] 1 (by simp [F5]) (by simp [F5]) ?_
    simp only [Option.some.injEq, Prod.mk.injEq] at hF
    obtain ⟨e0, e1⟩ := hF
    subst e0 e1
    refine AW.ret (hQ _ _ _ ?_ (matchO_0 ?_)).1
    ·simp [Try.f53, F5]
    ·simp [F5]
   ·replace hF := ite_f h6 hF
    have h6_ := h6
    try simp at h6_
    have F6 := And.intro F4 (And.intro h6 h6_)
    refine CF (by simp [F6] <;> omega) ?_
    refine AW.skip ?_
    refine hK321 _ _ _ ?_
    refine SQ [] [none] fun _ _ g r => ?_
    try simp [F6]
    and_intros <;> first | exact g _ (by kernel_rfl) | refine r _ _ _ ?_ | omega | (simp [maxLen, F6] <;> omega)
    refine WK [(1, AV.str v7), (2, Lz v8), (4, AV.ptr 0 0), (7, AV.ptr 1 0), (11, AV.lst true true (List.map (AV.int .i64) ([] : List Int)))] [(0, .cells [Lz v0, Lz v1, Lz v2, Iz v3, Iz v4, Iz v5, Iz v6]), (1, .cells [Iz v9, Iz v10, Iz v11, Iz v12])] 2 (by simp [F6]) (by simp [F6]) ?_
    refine AW.seq fun K467 hK467 => ?_
    refine SQ [] [none] fun _ _ g r => ?_
    try simp [F6]
    and_intros <;> first | exact g _ (by kernel_rfl) | refine r _ _ _ ?_ | omega | (simp [maxLen, F6] <;> omega)
    refine WK [(1, AV.str v7), (2, Lz v8), (4, AV.ptr 0 0), (7, AV.ptr 1 0), (11, AV.lst true true (List.map (AV.int .i64) ([] : List Int))), (12, Iz 0)] [(0, .cells [Lz v0, Lz v1, Lz v2, Iz v3, Iz v4, Iz v5, Iz v6]), (1, .cells [Iz v9, Iz v10, Iz v11, Iz v12])] 2 (by simp [F6]) (by simp [F6]) ?_
    refine AW.block ?_
    refine AW.own' 11 1 true (by simp [F6]) (by decide) ?_
    refine AW.loopF (α := (Int × (List Int))) (fun n (v18, v19) => ref26_Of.L1 k v4 v7 v8 v9 v10 v11 v12 n v18 v19 = some (v13, v14)) (fun (v18, v19) => [(1, AV.str v7), (2, Lz v8), (4, AV.ptr 0 0), (7, AV.ptr 1 0), (11, AV.slc 2 0 1 v19.length false), (12, Iz v18)]) (fun (v18, v19) => [(0, .cells [Lz v0, Lz v1, Lz v2, Iz v3, Iz v4, Iz v5, Iz v6]), (1, .cells [Iz v9, Iz v10, Iz v11, Iz v12]), (2, .grow (List.map (AV.int .i64) v19))]) 3 k ((0, ([] : List Int))) hF (by simp [F6]) (by simp [F6]) (by simp) ?_
    rintro (_|n1) ⟨v18, v19⟩ hF K574 hK574
    ·try dsimp only at hF
     rw [ref26_Of.L1] at hF; cases hF
    try dsimp only at hF
    rw [ref26_Of.L1] at hF
    refine AW.seq fun K576 hK576 => ?_
    refine SQ [] [none, none, none, none] fun _ _ g r => ?_
    try simp [F6]
    and_intros <;> first | exact g _ (by kernel_rfl) | refine r _ _ _ ?_ | omega | (simp [maxLen, F6] <;> omega)
    refine WK [(1, AV.str v7), (2, Lz v8), (4, AV.ptr 0 0), (7, AV.ptr 1 0), (11, AV.slc 2 0 1 v19.length false), (12, Iz v18), (30, AV.bool (decide (v18 ≤ v12)))] [(0, .cells [Lz v0, Lz v1, Lz v2, Iz v3, Iz v4, Iz v5, Iz v6]), (1, .cells [Iz v9, Iz v10, Iz v11, Iz v12]), (2, .grow (List.map (AV.int .i64) v19))] 3 (by simp [F6]) (by simp [F6]) ?_
    by_cases h7 : v18 ≤ v12
    ·replace hF := ite_t h7 hF
     have h7_ := h7
     try simp at h7_
     have F7 := And.intro F6 (And.intro h7 h7_)
     refine CT (by simp [F7] <;> omega) ?_
     refine AW.skip ?_
     refine hK576 _ _ _ ?_
     refine WK [(1, AV.str v7), (2, Lz v8), (4, AV.ptr 0 0), (7, AV.ptr 1 0), (11, AV.slc 2 0 1 v19.length false), (12, Iz v18)] [(0, .cells [Lz v0, Lz v1, Lz v2, Iz v3, Iz v4, Iz v5, Iz v6]), (1, .cells [Iz v9, Iz v10, Iz v11, Iz v12]), (2, .grow (List.map (AV.int .i64) v19))] 3 (by simp [F7]) (by simp [F7]) ?_
     refine AW.frz 2 (o := .grow (List.map (AV.int .i64) v19)) (by simp [F7]) rfl [(11, Lz v19)] [] ⟨(.l (by simp) (by simp) (by simp) (by simp)), trivial⟩ trivial ?_
     refine WK [(1, AV.str v7), (2, Lz v8), (4, AV.ptr 0 0), (7, AV.ptr 1 0), (11, Lz v19), (12, Iz v18)] [(0, .cells [Lz v0, Lz v1, Lz v2, Iz v3, Iz v4, Iz v5, Iz v6]), (1, .cells [Iz v9, Iz v10, Iz v11, Iz v12])] 3 (by simp [F7]) (by simp [F7]) ?_
     refine AW.seq fun K593 hK593 => ?_
     refine AW.block ?_
     refine SQ [] [none, none, none, none, none, none, none, none, none, none, none, none, none, none, none] fun _ _ g r => ?_
     try simp [F7]
     and_intros
     try any_goals first | omega | (simp [maxLen, F7] <;> omega)
     obtain ⟨v20, v21, h8, hF⟩ := bnd2_elim hF
     refine AC (w_ref25_Numbers k _ _ _ _ _ h8) (.cons (.same (by simp [F7])) (.cons (Coe.fl (by simp [F7])) (.cons (.same (by simp [F7])) .nil))) ?_
     try simp [F7]
     and_intros <;> first | exact g _ (by kernel_rfl) | refine r _ _ _ ?_ | omega | (simp [maxLen, F7] <;> omega)
     refine WK [(1, AV.str v7), (2, Lz v8), (4, AV.ptr 0 0), (7, AV.ptr 1 0), (11, Lz v19), (12, Iz v18), (13, AV.slc 3 0 1 v20.length false), (14, Iz v21)] [(0, .cells [Lz v0, Lz v1, Lz v2, Iz v3, Iz v4, Iz v5, Iz v6]), (1, .cells [Iz v9, Iz v10, Iz v11, Iz v12]), (3, .grow (List.map (AV.int .i64) v20))] 4 (by simp [F7]) (by simp [F7]) ?_
     refine AW.frz 3 (o := .grow (List.map (AV.int .i64) v20)) (by simp [F7]) rfl [(13, Lz v20)] [] ⟨(.l (by simp) (by simp) (by simp) (by simp)), trivial⟩ trivial ?_
     refine WK [(1, AV.str v7), (2, Lz v8), (4, AV.ptr 0 0), (7, AV.ptr 1 0), (11, Lz v19), (12, Iz v18), (13, Lz v20), (14, Iz v21)] [(0, .cells [Lz v0, Lz v1, Lz v2, Iz v3, Iz v4, Iz v5, Iz v6]), (1, .cells [Iz v9, Iz v10, Iz v11, Iz v12])] 4 (by simp [F7]) (by simp [F7]) ?_
     refine AW.seq fun K597 hK597 => ?_
     refine SQ [] [none, none] fun _ _ g r => ?_
     try simp [F7]
     and_intros <;> first | exact g _ (by kernel_rfl) | refine r _ _ _ ?_ | omega | (simp [maxLen, F7] <;> omega)
     refine WK [(1, AV.str v7), (2, Lz v8), (4, AV.ptr 0 0), (7, AV.ptr 1 0), (11, Lz v19), (12, Iz v18), (13, Lz v20), (14, Iz v21), (47, AV.bool (v21 != 0))] [(0, .cells [Lz v0, Lz v1, Lz v2, Iz v3, Iz v4, Iz v5, Iz v6]), (1, .cells [Iz v9, Iz v10, Iz v11, Iz v12])] 4 (by simp [F7]) (by simp [F7]) ?_
     by_cases h9 : v21 ≠ 0
     ·replace hF := ite_t h9 hF
      have h9_ := eqb_f h9
      have h9__ := neb_t h9
      have F8 := And.intro F7 (And.intro h9 (And.intro h9_ h9__))
      refine CT (by simp [F8] <;> omega) ?_
      refine SQ [] [none, none, none] fun _ _ g r => ?_
      try simp [F8]
      and_intros <;> first | exact g _ (by kernel_rfl) | refine r _ _ _ ?_ | omega | (simp [maxLen, F8] <;> omega)
      refine WK [(8, AV.lst true true (List.map (AV.int .i64) ([] : List Int))), (9, Iz v21)] [] 4 (by simp [F8]) (by simp [F8]) ?_
      refine AW.own' 8 1 true (by simp [F8]) (by decide) ?_
      refine RM h0 [(0, 4)] [(8, AV.slc 0 0 1 (([] : List Int).length) false), (9, Iz v21)] [(0, .grow (List.map (AV.int .i64) ([] : List Int)))] 1 (by simp [F8]) (by simp [F8]) ?_
      simp only [Option.some.injEq, Prod.mk.injEq] at hF
      obtain ⟨e0, e1⟩ := hF
      subst e0 e1
      refine AW.ret (hQ _ _ _ ?_ (matchO_0 ?_)).1
      ·simp [Try.f53, F8]
      ·simp [F8]
     ·replace hF := ite_f h9 hF
      have h9q : v21 = 0 := Classical.not_not.1 h9
      have h9_ := eqb_t h9q
      have h9__ := neb_f h9q
      have F9 := And.intro F7 (And.intro h9_ (And.intro h9__ h9q))
      refine CF (by simp [F9] <;> omega) ?_
      refine AW.skip ?_
      refine hK597 _ _ _ ?_
      refine SQ [] [none, none, none, none] fun _ _ g r => ?_
      try simp [F9]
      and_intros
      try any_goals first | omega | (simp [maxLen, F9] <;> omega)
      obtain ⟨v22, h10, hF⟩ := bnd1_elim hF
      refine AC (w_ref24_Minus k _ _ _ h10) (.cons (.same (by simp [F9])) (.cons (.same (by simp [F9])) .nil)) ?_
      try simp [F9]
      and_intros <;> first | exact g _ (by kernel_rfl) | refine r _ _ _ ?_ | omega | (simp [maxLen, F9] <;> omega)
      refine WK [(1, AV.str v7), (2, Lz v8), (4, AV.ptr 0 0), (7, AV.ptr 1 0), (12, Iz v18), (13, Lz v20), (15, AV.slc 4 0 1 v22.length false)] [(0, .cells [Lz v0, Lz v1, Lz v2, Iz v3, Iz v4, Iz v5, Iz v6]), (1, .cells [Iz v9, Iz v10, Iz v11, Iz v12]), (4, .grow (List.map (AV.int .i64) v22))] 5 (by simp [F9]) (by simp [F9]) ?_
      refine AW.frz 4 (o := .grow (List.map (AV.int .i64) v22)) (by simp [F9]) rfl [(15, Lz v22)] [] ⟨(.l (by simp) (by simp) (by simp) (by simp)), trivial⟩ trivial ?_
      refine WK [(1, AV.str v7), (2, Lz v8), (4, AV.ptr 0 0), (7, AV.ptr 1 0), (12, Iz v18), (13, Lz v20), (15, Lz v22)] [(0, .cells [Lz v0, Lz v1, Lz v2, Iz v3, Iz v4, Iz v5, Iz v6]), (1, .cells [Iz v9, Iz v10, Iz v11, Iz v12])] 5 (by simp [F9]) (by simp [F9]) ?_
      refine AW.seq fun K603 hK603 => ?_
      refine SQ [] [none, none, none] fun _ _ g r => ?_
      try simp [F9]
      and_intros <;> first | exact g _ (by kernel_rfl) | refine r _ _ _ ?_ | omega | (simp [maxLen, F9] <;> omega)
      refine WK [(1, AV.str v7), (2, Lz v8), (4, AV.ptr 0 0), (7, AV.ptr 1 0), (12, Iz v18), (13, Lz v20), (15, Lz v22), (54, AV.bool ((v22.length : Int) == 0))] [(0, .cells [Lz v0, Lz v1, Lz v2, Iz v3, Iz v4, Iz v5, Iz v6]), (1, .cells [Iz v9, Iz v10, Iz v11, Iz v12])] 5 (by simp [F9]) (by simp [F9]) ?_
      by_cases h11 : (v22.length : Int) = 0
      ·replace hF := ite_t h11 hF
       have h11q : (v22.length : Int) = 0 := h11
       have h11_ := eqb_t h11q
       have h11__ := neb_f h11q
       have F10 := And.intro F9 (And.intro h11_ (And.intro h11__ h11q))
       refine CT (by simp [F10] <;> omega) ?_
       refine SQ [] [none, none] fun _ _ g r => ?_
       try simp [F10]
       and_intros <;> first | exact g _ (by kernel_rfl) | refine r _ _ _ ?_ | omega | (simp [maxLen, F10] <;> omega)
       refine WK [(8, AV.lst true true (List.map (AV.int .i64) ([] : List Int))), (9, Iz 44)] [] 5 (by simp [F10]) (by simp [F10]) ?_
       refine AW.own' 8 1 true (by simp [F10]) (by decide) ?_
       refine RM h0 [(0, 5)] [(8, AV.slc 0 0 1 (([] : List Int).length) false), (9, Iz 44)] [(0, .grow (List.map (AV.int .i64) ([] : List Int)))] 1 (by simp [F10]) (by simp [F10]) ?_
       simp only [Option.some.injEq, Prod.mk.injEq] at hF
       obtain ⟨e0, e1⟩ := hF
       subst e0 e1
       refine AW.ret (hQ _ _ _ ?_ (matchO_0 ?_)).1
       ·simp [Try.f53, F10]
       ·simp [F10]
      ·replace hF := ite_f h11 hF
       have h11_ := eqb_f h11
       have h11__ := neb_t h11
       have F11 := And.intro F9 (And.intro h11 (And.intro h11_ h11__))
       refine CF (by simp [F11] <;> omega) ?_
       refine AW.skip ?_
       refine hK603 _ _ _ ?_
       refine SQ [] [none, none, none, none, none, none, none, none, none, none] fun _ _ g r => ?_
       try simp [F11]
       and_intros
       try any_goals first | omega | (simp [maxLen, F11] <;> omega)
       obtain ⟨v23, v24, h12, hF⟩ := bnd2_elim hF
       refine AC (w_ref26_Draw k _ _ _ _ _ h12) (.cons (.same (by simp [F11])) (.cons (.same (by simp [F11])) (.cons (.same (by simp [F11])) .nil))) ?_
       try simp [F11]
       and_intros <;> first | exact g _ (by kernel_rfl) | refine r _ _ _ ?_ | omega | (simp [maxLen, F11] <;> omega)
       refine WK [(1, AV.str v7), (2, Lz v8), (4, AV.ptr 0 0), (7, AV.ptr 1 0), (11, AV.slc 5 0 1 v23.length false), (12, Iz v18), (14, Iz v24)] [(0, .cells [Lz v0, Lz v1, Lz v2, Iz v3, Iz v4, Iz v5, Iz v6]), (1, .cells [Iz v9, Iz v10, Iz v11, Iz v12]), (5, .grow (List.map (AV.int .i64) v23))] 6 (by simp [F11]) (by simp [F11]) ?_
       refine SQ [] [none, none] fun _ _ g r => ?_
       try simp [F11]
       and_intros <;> first | exact g _ (by kernel_rfl) | refine r _ _ _ ?_ | omega | (simp [maxLen, F11] <;> omega)
       refine WK [(1, AV.str v7), (2, Lz v8), (4, AV.ptr 0 0), (7, AV.ptr 1 0), (11, AV.slc 5 0 1 v23.length false), (12, Iz v18), (14, Iz v24), (64, AV.bool (v24 != 0))] [(0, .cells [Lz v0, Lz v1, Lz v2, Iz v3, Iz v4, Iz v5, Iz v6]), (1, .cells [Iz v9, Iz v10, Iz v11, Iz v12]), (5, .grow (List.map (AV.int .i64) v23))] 6 (by simp [F11]) (by simp [F11]) ?_
       by_cases h13 : v24 ≠ 0
       ·replace hF := ite_t h13 hF
        have h13_ := eqb_f h13
        have h13__ := neb_t h13
        have F12 := And.intro F11 (And.intro h13 (And.intro h13_ h13__))
        refine CT (by simp [F12] <;> omega) ?_
        refine SQ [] [none, none, none] fun _ _ g r => ?_
        try simp [F12]
        and_intros <;> first | exact g _ (by kernel_rfl) | refine r _ _ _ ?_ | omega | (simp [maxLen, F12] <;> omega)
        refine WK [(8, AV.lst true true (List.map (AV.int .i64) ([] : List Int))), (9, Iz v24)] [] 6 (by simp [F12]) (by simp [F12]) ?_
        refine AW.own' 8 1 true (by simp [F12]) (by decide) ?_
        refine RM h0 [(0, 6)] [(8, AV.slc 0 0 1 (([] : List Int).length) false), (9, Iz v24)] [(0, .grow (List.map (AV.int .i64) ([] : List Int)))] 1 (by simp [F12]) (by simp [F12]) ?_
        simp only [Option.some.injEq, Prod.mk.injEq] at hF
        obtain ⟨e0, e1⟩ := hF
        subst e0 e1
        refine AW.ret (hQ _ _ _ ?_ (matchO_0 ?_)).1
        ·simp [Try.f53, F12]
        ·simp [F12]
       ·replace hF := ite_f h13 hF
        have h13q : v24 = 0 := Classical.not_not.1 h13
        have h13_ := eqb_t h13q
        have h13__ := neb_f h13q
        have F13 := And.intro F11 (And.intro h13_ (And.intro h13__ h13q))
        refine CF (by simp [F13] <;> omega) ?_
        refine AW.skip ?_
        refine hK593 _ _ _ ?_
        refine RG [] [none, none, none] fun _ _ g r => ?_
        try simp [F13]
        and_intros <;> first | exact g _ (by kernel_rfl) | refine r _ _ _ ?_ | omega | (simp [maxLen, F13] <;> omega)
        refine hK574 _ _ _ ?_
        refine RN h0 [(0, 0), (1, 1), (2, 5)] [(1, AV.str v7), (2, Lz v8), (4, AV.ptr 0 0), (7, AV.ptr 1 0), (11, AV.slc 2 0 1 v23.length false), (12, Iz (IntKind.wrap .i64 (v18 + 1)))] [(0, .cells [Lz v0, Lz v1, Lz v2, Iz v3, Iz v4, Iz v5, Iz v6]), (1, .cells [Iz v9, Iz v10, Iz v11, Iz v12]), (2, .grow (List.map (AV.int .i64) v23))] 3 (by simp [F13]) (by simp [F13]) ?_
        exact NX (k' := n1) ((IntKind.wrap .i64 (v18 + 1), v23)) hF (by simp [F13]) (by simp [F13])
    ·replace hF := ite_f h7 hF
     have h7_ := h7
     try simp at h7_
     have F14 := And.intro F6 (And.intro h7 h7_)
     refine CF (by simp [F14] <;> omega) ?_
     refine AW.exit ?_
     try simp
     refine hK467 _ _ _ ?_
     refine SQ [] [none, none, none] fun _ _ g r => ?_
     try simp [F14]
     and_intros <;> first | exact g _ (by kernel_rfl) | refine r _ _ _ ?_ | omega | (simp [maxLen, F14] <;> omega)
     refine RM h0 [(0, 2)] [(8, AV.slc 0 0 1 v19.length false), (9, Iz 0)] [(0, .grow (List.map (AV.int .i64) v19))] 1 (by simp [F14]) (by simp [F14]) ?_
     simp only [Option.some.injEq, Prod.mk.injEq] at hF
     obtain ⟨e0, e1⟩ := hF
     subst e0 e1
     refine AW.ret (hQ _ _ _ ?_ (matchO_0 ?_)).1
     ·simp [Try.f53, F14]
     ·simp [F14]
theorem w_law26_CommitteeOf (k : Nat) (v0 : (List Int)) (v1 : ByteArray) (v2 : Int) (v3 : Bool) (hF : law26_CommitteeOf k v0 v1 v2 = some v3) :
  FCall Try.prog 10 [AV.lst false false (List.map (AV.int .i64) v0), AV.str v1, AV.int .u8 v2] [] (AV.bool v3) [] := by
 unfold law26_CommitteeOf at hF
 refine EN Try.func10 ?_
 intro c0 w0 Q h0 hQ
 refine WK [(0, Lz v0), (1, AV.str v1), (2, AV.int .u8 v2)] [] 0 (by simp [-List.reduceReplicate, sOf_set, ofI_set, allU8_set]) (by simp [-List.reduceReplicate, sOf_set, ofI_set, allU8_set]) ?_
 refine SQ [] [none] fun _ _ g r => ?_
 try simp [-List.reduceReplicate, sOf_set, ofI_set, allU8_set]
 and_intros <;> first | exact g _ (by kernel_rfl) | refine r _ _ _ ?_ | omega | (simp [-List.reduceReplicate, sOf_set, ofI_set, allU8_set, maxLen] <;> omega)
 refine WK [(0, Lz v0), (1, AV.str v1), (2, AV.int .u8 v2)] [] 0 (by simp [-List.reduceReplicate, sOf_set, ofI_set, allU8_set]) (by simp [-List.reduceReplicate, sOf_set, ofI_set, allU8_set]) ?_
 refine AW.seq fun K48 hK48 => ?_
 refine SQ [] [none, none, none, none, some (19, false), some (19, false), some (19, false), none] fun _ _ g r => ?_
 try simp [-List.reduceReplicate, sOf_set, ofI_set, allU8_set]
 and_intros
 try any_goals first | omega | (simp [-List.reduceReplicate, sOf_set, ofI_set, allU8_set, maxLen] <;> omega)
 obtain ⟨v4, h1, hF⟩ := bnd1_elim hF
 refine AC (w_mill_Light k _ _ h1) (.cons (.same (by simp)) .nil) ?_
 by_cases h2 : (!v4) = true
 ·replace hF := ite_t h2 hF
  have h2_ := h2
  try simp [-List.reduceReplicate] at h2_
  try simp [-List.reduceReplicate, sOf_set, ofI_set, allU8_set, h2, h2_]
  and_intros <;> first | exact g _ (by kernel_rfl) | refine r _ _ _ ?_ | omega | (simp [-List.reduceReplicate, sOf_set, ofI_set, allU8_set, h2, h2_, maxLen] <;> omega)
  refine WK [(0, Lz v0), (1, AV.str v1), (2, AV.int .u8 v2), (23, AV.bool true)] [] 0 (by simp [-List.reduceReplicate, sOf_set, ofI_set, allU8_set, h2, h2_]) (by simp [-List.reduceReplicate, sOf_set, ofI_set, allU8_set, h2, h2_]) ?_
  refine CT (by simp [-List.reduceReplicate, sOf_set, ofI_set, allU8_set, h2, h2_]) ?_
  refine SQ [] [none, none] fun _ _ g r => ?_
  try simp [-List.reduceReplicate, sOf_set, ofI_set, allU8_set, h2, h2_]
  and_intros
  try any_goals first | omega | (simp [-List.reduceReplicate, sOf_set, ofI_set, allU8_set, h2, h2_, maxLen] <;> omega)
  obtain ⟨v5, h3, hF⟩ := bnd1_elim hF
  refine AC (w_law26_awake k _ h3) .nil ?_
  try simp [-List.reduceReplicate, sOf_set, ofI_set, allU8_set, h2, h2_]
  and_intros <;> first | exact g _ (by kernel_rfl) | refine r _ _ _ ?_ | omega | (simp [-List.reduceReplicate, sOf_set, ofI_set, allU8_set, h2, h2_, maxLen] <;> omega)
  refine WK [(6, AV.bool v5)] [] 0 (by simp [-List.reduceReplicate, sOf_set, ofI_set, allU8_set, h2, h2_]) (by simp [-List.reduceReplicate, sOf_set, ofI_set, allU8_set, h2, h2_]) ?_
  simp only [Option.some.injEq] at hF
  subst hF
  refine AW.ret (hQ _ _ _ ?_ (matchO_0 ?_)).1
  ·simp [Try.f10, h2, h2_]
  ·simp [h2, h2_]
 ·replace hF := ite_f h2 hF
  have h2_ := h2
  try simp [-List.reduceReplicate] at h2_
  try simp [-List.reduceReplicate, sOf_set, ofI_set, allU8_set, h2, h2_]
  and_intros <;> first | exact g _ (by kernel_rfl) | refine r _ _ _ ?_ | omega | (simp [-List.reduceReplicate, sOf_set, ofI_set, allU8_set, h2, h2_, maxLen] <;> omega)
  refine WK [(0, Lz v0), (1, AV.str v1), (2, AV.int .u8 v2), (23, AV.bool (decide (200 < (v1.size : Int))))] [] 0 (by simp [-List.reduceReplicate, sOf_set, ofI_set, allU8_set, h2, h2_]) (by simp [-List.reduceReplicate, sOf_set, ofI_set, allU8_set, h2, h2_]) ?_
  by_cases h4 : 200 < (v1.size : Int)
  ·replace hF := ite_t h4 hF
   have h4_ := h4
   try simp [-List.reduceReplicate] at h4_
   have F1 := And.intro h2 (And.intro h2_ (And.intro h4 h4_))
   refine CT (by simp [-List.reduceReplicate, sOf_set, ofI_set, allU8_set, F1] <;> omega) ?_
   refine SQ [] [none, none] fun _ _ g r => ?_
   try simp [-List.reduceReplicate, sOf_set, ofI_set, allU8_set, F1]
   and_intros
   try any_goals first | omega | (simp [-List.reduceReplicate, sOf_set, ofI_set, allU8_set, maxLen, F1] <;> omega)
   obtain ⟨v6, h5, hF⟩ := bnd1_elim hF
   refine AC (w_law26_awake k _ h5) .nil ?_
   try simp [-List.reduceReplicate, sOf_set, ofI_set, allU8_set, F1]
   and_intros <;> first | exact g _ (by kernel_rfl) | refine r _ _ _ ?_ | omega | (simp [-List.reduceReplicate, sOf_set, ofI_set, allU8_set, maxLen, F1] <;> omega)
   refine WK [(6, AV.bool v6)] [] 0 (by simp [-List.reduceReplicate, sOf_set, ofI_set, allU8_set, F1]) (by simp [-List.reduceReplicate, sOf_set, ofI_set, allU8_set, F1]) ?_
   simp only [Option.some.injEq] at hF
   subst hF
   refine AW.ret (hQ _ _ _ ?_ (matchO_0 ?_)).1
   ·simp [Try.f10, F1]
   ·simp [F1]
  ·replace hF := ite_f h4 hF
   have h4_ := h4
   try simp [-List.reduceReplicate] at h4_
   have F2 := And.intro h2 (And.intro h2_ (And.intro h4 h4_))
   refine CF (by simp [-List.reduceReplicate, sOf_set, ofI_set, allU8_set, F2] <;> omega) ?_
   refine AW.skip ?_
   refine hK48 _ _ _ ?_
   refine SQ [] [none, none, none] fun _ _ g r => ?_
   try simp [-List.reduceReplicate, sOf_set, ofI_set, allU8_set, F2]
   and_intros
   try any_goals first | omega | (simp [-List.reduceReplicate, sOf_set, ofI_set, allU8_set, maxLen, F2] <;> omega)
   obtain ⟨v7, v8, h6, hF⟩ := bnd2_elim hF
   refine AC (w_mill_Roll k _ _ _ h6) (.cons (.same (by simp [-List.reduceReplicate, sOf_set, ofI_set, allU8_set, F2])) .nil) ?_
   try simp [-List.reduceReplicate, sOf_set, ofI_set, allU8_set, F2]
   and_intros <;> first | exact g _ (by kernel_rfl) | refine r _ _ _ ?_ | omega | (simp [-List.reduceReplicate, sOf_set, ofI_set, allU8_set, maxLen, F2] <;> omega)
   refine WK [(1, AV.str v1), (2, AV.int .u8 v2), (7, AV.ptr 0 0)] [(0, .cells [Lz v7, Iz v8])] 1 (by simp [-List.reduceReplicate, sOf_set, ofI_set, allU8_set, F2]) (by simp [-List.reduceReplicate, sOf_set, ofI_set, allU8_set, F2]) ?_
   refine SQ [] [none, none, none, none] fun _ _ g r => ?_
   try simp [-List.reduceReplicate, sOf_set, ofI_set, allU8_set, F2]
   and_intros
   try any_goals first | omega | (simp [-List.reduceReplicate, sOf_set, ofI_set, allU8_set, maxLen, F2] <;> omega)
   obtain ⟨v9, v10, v11, v12, v13, v14, v15, v16, h7, hF⟩ := bnd8_elim hF
   refine aCall_l (w_mill_Rules k _ _ _ _ _ _ _ _ _ _ h7) (by simp) [0] [] [0] rfl (.cons (.same (by simp [-List.reduceReplicate, sOf_set, ofI_set, allU8_set, F2])) .nil) (by simp [-List.reduceReplicate, sOf_set, ofI_set, allU8_set, F2]) (by decide) (by simp) (by simp) (.inl rfl) (by simp) (by simp) ?_
   try simp [-List.reduceReplicate, sOf_set, ofI_set, allU8_set, F2]
   and_intros <;> first | exact g _ (by kernel_rfl) | refine r _ _ _ ?_ | omega | (simp [-List.reduceReplicate, sOf_set, ofI_set, allU8_set, maxLen, F2] <;> omega)
   refine WK [(1, AV.str v1), (2, AV.int .u8 v2), (7, AV.ptr 0 0), (8, AV.ptr 2 0)] [(0, .cells [Lz v7, Iz v16]), (1, .cells (List.map (AV.int .i64) v11)), (2, .cells [Lz v9, Lz v10, AV.slc 1 0 1 v11.length false, Iz v12, Iz v13, Iz v14, Iz v15])] 3 (by simp [-List.reduceReplicate, sOf_set, ofI_set, allU8_set, F2]) (by simp [-List.reduceReplicate, sOf_set, ofI_set, allU8_set, F2]) ?_
   refine AW.frz 1 (o := .cells (List.map (AV.int .i64) v11)) (by simp [-List.reduceReplicate, sOf_set, ofI_set, allU8_set, F2]) rfl [] [(2, .cells [Lz v9, Lz v10, Lz v11, Iz v12, Iz v13, Iz v14, Iz v15])] trivial ⟨⟨by simp, AObj.cells [Lz v9, Lz v10, AV.slc 1 0 1 v11.length false, Iz v12, Iz v13, Iz v14, Iz v15], by simp [-List.reduceReplicate, sOf_set, ofI_set, allU8_set, F2], (.mk (.cons (.same _) (.cons (.same _) (.cons (.l (by simp) (by simp) (by simp) (by simp)) (.cons (.same _) (.cons (.same _) (.cons (.same _) (.cons (.same _) .nil))))))))⟩, trivial⟩ ?_
   refine WK [(1, AV.str v1), (2, AV.int .u8 v2), (7, AV.ptr 0 0), (8, AV.ptr 2 0)] [(0, .cells [Lz v7, Iz v16]), (2, .cells [Lz v9, Lz v10, Lz v11, Iz v12, Iz v13, Iz v14, Iz v15])] 3 (by simp [-List.reduceReplicate, sOf_set, ofI_set, allU8_set, F2]) (by simp [-List.reduceReplicate, sOf_set, ofI_set, allU8_set, F2]) ?_
   refine SQ [] [none, none, none, none, none, none] fun _ _ g r => ?_
   obtain ⟨h8, hF⟩ := chk_elim hF
   obtain ⟨h9, hF⟩ := chk_elim hF
   have h9_ := h9
   try simp [-List.reduceReplicate] at h9_
   obtain ⟨h10, hF⟩ := chk_elim hF
   have h10_ := h10
   try simp [-List.reduceReplicate] at h10_
   have F3 := And.intro F2 (And.intro h8 (And.intro h9 (And.intro h9_ (And.intro h10 h10_))))
   try simp [-List.reduceReplicate, sOf_set, ofI_set, allU8_set, F3]
   and_intros <;> first | exact g _ (by kernel_rfl) | refine r _ _ _ ?_ | omega | (simp [-List.reduceReplicate, sOf_set, ofI_set, allU8_set, maxLen, F3] <;> omega)
   refine WK [(1, AV.str v1), (2, AV.int .u8 v2), (7, AV.ptr 0 0), (8, AV.ptr 2 0), (9, AV.str ((v1 ++ (ofI (List.replicate (32 : Int).toNat 0))).extract 0 (32 : Int).toNat))] [(0, .cells [Lz v7, Iz v16]), (2, .cells [Lz v9, Lz v10, Lz v11, Iz v12, Iz v13, Iz v14, Iz v15])] 3 (by simp [-List.reduceReplicate, sOf_set, ofI_set, allU8_set, F3]) (by simp [-List.reduceReplicate, sOf_set, ofI_set, allU8_set, F3]) ?_
   refine SQ [] [none, none, none] fun _ _ g r => ?_
   try simp [-List.reduceReplicate, sOf_set, ofI_set, allU8_set, F3]
   and_intros
   try any_goals first | omega | (simp [-List.reduceReplicate, sOf_set, ofI_set, allU8_set, maxLen, F3] <;> omega)
   obtain ⟨v17, v18, h11, hF⟩ := bnd2_elim hF
   refine aCall_l (w_mill_Keys_o k _ _ _ _ _ h11) (by simp) [0] [] [0] rfl (.cons (.same (by simp [-List.reduceReplicate, sOf_set, ofI_set, allU8_set, F3])) (.cons (.same (by simp [-List.reduceReplicate, sOf_set, ofI_set, allU8_set, F3])) .nil)) (by simp [-List.reduceReplicate, sOf_set, ofI_set, allU8_set, F3]) (by decide) (by simp) (by simp) (.inl rfl) (by simp) (by simp) ?_
   try simp [-List.reduceReplicate, sOf_set, ofI_set, allU8_set, F3]
   and_intros <;> first | exact g _ (by kernel_rfl) | refine r _ _ _ ?_ | omega | (simp [-List.reduceReplicate, sOf_set, ofI_set, allU8_set, maxLen, F3] <;> omega)
   refine WK [(1, AV.str v1), (2, AV.int .u8 v2), (7, AV.ptr 0 0), (8, AV.ptr 2 0), (9, AV.str ((v1 ++ (ofI (List.replicate (32 : Int).toNat 0))).extract 0 (32 : Int).toNat)), (10, AV.slc 3 0 1 v17.length false)] [(0, .cells [Lz v7, Iz v18]), (2, .cells [Lz v9, Lz v10, Lz v11, Iz v12, Iz v13, Iz v14, Iz v15]), (3, .grow (List.map (AV.int .i64) v17))] 4 (by simp [-List.reduceReplicate, sOf_set, ofI_set, allU8_set, F3]) (by simp [-List.reduceReplicate, sOf_set, ofI_set, allU8_set, F3]) ?_
   refine SQ [] [none, none, none, none, none, none] fun _ _ g r => ?_
   try simp [-List.reduceReplicate, sOf_set, ofI_set, allU8_set, F3]
   and_intros
   try any_goals first | omega | (simp [-List.reduceReplicate, sOf_set, ofI_set, allU8_set, maxLen, F3] <;> omega)
   obtain ⟨v19, v20, h12, hF⟩ := bnd2_elim hF
   refine aCall_l (w_made_Dice_Next k _ _ _ _ _ h12) (by simp) [0] [] [0] rfl (.cons (.same (by simp [-List.reduceReplicate, sOf_set, ofI_set, allU8_set, F3])) (.cons (.same (by simp [-List.reduceReplicate, sOf_set, ofI_set, allU8_set, F3])) .nil)) (by simp [-List.reduceReplicate, sOf_set, ofI_set, allU8_set, F3]) (by decide) (by simp) (by simp) (.inl rfl) (by simp) (by simp) ?_
   try simp [-List.reduceReplicate, sOf_set, ofI_set, allU8_set, F3]
   and_intros
   try any_goals first | omega | (simp [-List.reduceReplicate, sOf_set, ofI_set, allU8_set, maxLen, F3] <;> omega)
   obtain ⟨v21, v22, v23, v24, v25, h13, hF⟩ := bnd5_elim hF
   refine aCall_l (w_mill_Case k _ _ _ _ _ _ _ _ h13) (by simp) [0] [] [0] rfl (.cons (.same (by simp [-List.reduceReplicate, sOf_set, ofI_set, allU8_set, F3])) (.cons (.same (by simp [-List.reduceReplicate, sOf_set, ofI_set, allU8_set, F3])) .nil)) (by simp [-List.reduceReplicate, sOf_set, ofI_set, allU8_set, F3]) (by decide) (by simp) (by simp) (.inl rfl) (by simp) (by simp) ?_
   try simp [-List.reduceReplicate, sOf_set, ofI_set, allU8_set, F3]
   and_intros <;> first | exact g _ (by kernel_rfl) | refine r _ _ _ ?_ | omega | (simp [-List.reduceReplicate, sOf_set, ofI_set, allU8_set, maxLen, F3] <;> omega)
   refine WK [(1, AV.str v1), (2, AV.int .u8 v2), (7, AV.ptr 0 0), (8, AV.ptr 2 0), (9, AV.str ((v1 ++ (ofI (List.replicate (32 : Int).toNat 0))).extract 0 (32 : Int).toNat)), (10, AV.slc 3 0 1 v17.length false), (11, AV.ptr 4 0)] [(0, .cells [Lz v7, Iz v25]), (2, .cells [Lz v9, Lz v10, Lz v11, Iz v12, Iz v13, Iz v14, Iz v15]), (3, .grow (List.map (AV.int .i64) v17)), (4, .cells [Iz v21, Iz v22, Iz v23, Iz v24])] 5 (by simp [-List.reduceReplicate, sOf_set, ofI_set, allU8_set, F3]) (by simp [-List.reduceReplicate, sOf_set, ofI_set, allU8_set, F3]) ?_
   refine AW.midF (α := ((List Int) × (List Int) × (List Int) × Int × Int × Int × Int × ByteArray × (List Int) × Int × Int)) (fun (v26, v27, v28, v29, v30, v31, v32, v33, v34, v35, v36) => law26_CommitteeOf.J1 k v22 v23 v26 v27 v28 v29 v30 v31 v32 v33 v34 v35 v36 = some v3) (fun (v26, v27, v28, v29, v30, v31, v32, v33, v34, v35, v36) => [(8, AV.ptr 0 0), (9, AV.str v33), (10, Lz v34), (11, AV.ptr 1 0)]) (fun (v26, v27, v28, v29, v30, v31, v32, v33, v34, v35, v36) => [(0, .cells [Lz v26, Lz v27, Lz v28, Iz v29, Iz v30, Iz v31, Iz v32]), (1, .cells [Iz v35, Iz v22, Iz v23, Iz v36])]) 2 (fun K73 hK73 => ?_) ?_
   ·refine SQ [] [none, none] fun _ _ g r => ?_
    try simp [-List.reduceReplicate, sOf_set, ofI_set, allU8_set, F3]
    and_intros <;> first | exact g _ (by kernel_rfl) | refine r _ _ _ ?_ | omega | (simp [-List.reduceReplicate, sOf_set, ofI_set, allU8_set, maxLen, F3] <;> omega)
    refine WK [(1, AV.str v1), (7, AV.ptr 0 0), (8, AV.ptr 2 0), (9, AV.str ((v1 ++ (ofI (List.replicate (32 : Int).toNat 0))).extract 0 (32 : Int).toNat)), (10, AV.slc 3 0 1 v17.length false), (11, AV.ptr 4 0), (41, AV.int .u8 (Int.tmod v2 9))] [(0, .cells [Lz v7, Iz v25]), (2, .cells [Lz v9, Lz v10, Lz v11, Iz v12, Iz v13, Iz v14, Iz v15]), (3, .grow (List.map (AV.int .i64) v17)), (4, .cells [Iz v21, Iz v22, Iz v23, Iz v24])] 5 (by simp [-List.reduceReplicate, sOf_set, ofI_set, allU8_set, F3]) (by simp [-List.reduceReplicate, sOf_set, ofI_set, allU8_set, F3]) ?_
    refine AW.block ?_
    refine SQ [] [none, none] fun _ _ g r => ?_
    try simp [-List.reduceReplicate, sOf_set, ofI_set, allU8_set, F3]
    and_intros <;> first | exact g _ (by kernel_rfl) | refine r _ _ _ ?_ | omega | (simp [-List.reduceReplicate, sOf_set, ofI_set, allU8_set, maxLen, F3] <;> omega)
    refine WK [(1, AV.str v1), (7, AV.ptr 0 0), (8, AV.ptr 2 0), (9, AV.str ((v1 ++ (ofI (List.replicate (32 : Int).toNat 0))).extract 0 (32 : Int).toNat)), (10, AV.slc 3 0 1 v17.length false), (11, AV.ptr 4 0), (41, AV.int .u8 (Int.tmod v2 9)), (42, AV.bool ((Int.tmod v2 9) == 0))] [(0, .cells [Lz v7, Iz v25]), (2, .cells [Lz v9, Lz v10, Lz v11, Iz v12, Iz v13, Iz v14, Iz v15]), (3, .grow (List.map (AV.int .i64) v17)), (4, .cells [Iz v21, Iz v22, Iz v23, Iz v24])] 5 (by simp [-List.reduceReplicate, sOf_set, ofI_set, allU8_set, F3]) (by simp [-List.reduceReplicate, sOf_set, ofI_set, allU8_set, F3]) ?_
    by_cases h20 : (Int.tmod v2 9) = 0
    ·replace hF := ite_t h20 hF
     have h20q : (Int.tmod v2 9) = 0 := h20
     have h20_ := eqb_t h20q
     have h20__ := neb_f h20q
     have F4 := And.intro F3 (And.intro h20_ (And.intro h20__ h20q))
     refine CT (by simp [-List.reduceReplicate, sOf_set, ofI_set, allU8_set, F4] <;> omega) ?_
     refine RG [] [none, none, none, none] fun _ _ g r => ?_
     try simp [-List.reduceReplicate, sOf_set, ofI_set, allU8_set, F4]
     and_intros
     try any_goals first | omega | (simp [-List.reduceReplicate, sOf_set, ofI_set, allU8_set, maxLen, F4] <;> omega)
     obtain ⟨v43, v44, v45, v46, v47, v48, v49, v50, h21, hF⟩ := bnd8_elim hF
     refine aCall_l (w_mill_Odd k _ _ _ _ _ _ _ _ _ _ _ _ _ _ _ _ _ h21) (by simp) [0] [] [0] rfl (.cons (.same (by simp [-List.reduceReplicate, sOf_set, ofI_set, allU8_set, F4])) (.cons (.same (by simp [-List.reduceReplicate, sOf_set, ofI_set, allU8_set, F4])) .nil)) (by simp [-List.reduceReplicate, sOf_set, ofI_set, allU8_set, F4]) (by decide) (by simp) (by simp) (.inl rfl) (by simp) (by simp) ?_
     try simp [-List.reduceReplicate, sOf_set, ofI_set, allU8_set, F4]
     and_intros <;> first | exact g _ (by kernel_rfl) | refine r _ _ _ ?_ | omega | (simp [-List.reduceReplicate, sOf_set, ofI_set, allU8_set, maxLen, F4] <;> omega)
     refine hK73 _ _ _ ?_
     refine Can.weak [(8, AV.ptr 2 0), (9, AV.str ((v1 ++ (ofI (List.replicate (32 : Int).toNat 0))).extract 0 (32 : Int).toNat)), (10, AV.slc 3 0 1 v17.length false), (11, AV.ptr 4 0)] [(2, .cells [Lz v43, Lz v44, Lz v45, Iz v46, Iz v47, Iz v48, Iz v49]), (3, .grow (List.map (AV.int .i64) v17)), (4, .cells [Iz v21, Iz v22, Iz v23, Iz v24])] 5 (by simp [-List.reduceReplicate, sOf_set, ofI_set, allU8_set, F4]) (by simp [-List.reduceReplicate, sOf_set, ofI_set, allU8_set, F4]) (by simp) ?_
     refine Can.freeze 3 (o := .grow (List.map (AV.int .i64) v17)) (by simp [-List.reduceReplicate, sOf_set, ofI_set, allU8_set, F4]) rfl [(10, Lz v17)] [] ⟨(.l (by simp) (by simp) (by simp) (by simp)), trivial⟩ trivial ?_
     refine RN h0 [(0, 2), (1, 4)] [(8, AV.ptr 0 0), (9, AV.str ((v1 ++ (ofI (List.replicate (32 : Int).toNat 0))).extract 0 (32 : Int).toNat)), (10, Lz v17), (11, AV.ptr 1 0)] [(0, .cells [Lz v43, Lz v44, Lz v45, Iz v46, Iz v47, Iz v48, Iz v49]), (1, .cells [Iz v21, Iz v22, Iz v23, Iz v24])] 2 (by simp [-List.reduceReplicate, sOf_set, ofI_set, allU8_set, F4]) (by simp [-List.reduceReplicate, sOf_set, ofI_set, allU8_set, F4]) ?_
     exact JN ((v43, v44, v45, v46, v47, v48, v49, (v1 ++ (ofI (List.replicate (32 : Int).toNat 0))).extract 0 (32 : Int).toNat, v17, v21, v24)) hF (by simp [-List.reduceReplicate, sOf_set, ofI_set, allU8_set, F4]) (by simp [-List.reduceReplicate, sOf_set, ofI_set, allU8_set, F4])
    ·replace hF := ite_f h20 hF
     have h20_ := eqb_f h20
     have h20__ := neb_t h20
     have F5 := And.intro F3 (And.intro h20 (And.intro h20_ h20__))
     refine CF (by simp [-List.reduceReplicate, sOf_set, ofI_set, allU8_set, F5] <;> omega) ?_
     refine SQ [] [none, none] fun _ _ g r => ?_
     try simp [-List.reduceReplicate, sOf_set, ofI_set, allU8_set, F5]
     and_intros <;> first | exact g _ (by kernel_rfl) | refine r _ _ _ ?_ | omega | (simp [-List.reduceReplicate, sOf_set, ofI_set, allU8_set, maxLen, F5] <;> omega)
     refine WK [(1, AV.str v1), (8, AV.ptr 2 0), (9, AV.str ((v1 ++ (ofI (List.replicate (32 : Int).toNat 0))).extract 0 (32 : Int).toNat)), (10, AV.slc 3 0 1 v17.length false), (11, AV.ptr 4 0), (41, AV.int .u8 (Int.tmod v2 9)), (47, AV.bool ((Int.tmod v2 9) == 1))] [(2, .cells [Lz v9, Lz v10, Lz v11, Iz v12, Iz v13, Iz v14, Iz v15]), (3, .grow (List.map (AV.int .i64) v17)), (4, .cells [Iz v21, Iz v22, Iz v23, Iz v24])] 5 (by simp [-List.reduceReplicate, sOf_set, ofI_set, allU8_set, F5]) (by simp [-List.reduceReplicate, sOf_set, ofI_set, allU8_set, F5]) ?_
     by_cases h22 : (Int.tmod v2 9) = 1
     ·replace hF := ite_t h22 hF
      have h22q : (Int.tmod v2 9) = 1 := h22
      have h22_ := eqb_t h22q
      have h22__ := neb_f h22q
      have F6 := And.intro F5 (And.intro h22_ (And.intro h22__ h22q))
      refine CT (by simp [-List.reduceReplicate, sOf_set, ofI_set, allU8_set, F6] <;> omega) ?_
      refine RG [] [none, none] fun _ _ g r => ?_
      try simp [-List.reduceReplicate, sOf_set, ofI_set, allU8_set, F6]
      and_intros <;> first | exact g _ (by kernel_rfl) | refine r _ _ _ ?_ | omega | (simp [-List.reduceReplicate, sOf_set, ofI_set, allU8_set, maxLen, F6] <;> omega)
      refine hK73 _ _ _ ?_
      refine Can.weak [(8, AV.ptr 2 0), (9, AV.str v1), (10, AV.slc 3 0 1 v17.length false), (11, AV.ptr 4 0)] [(2, .cells [Lz v9, Lz v10, Lz v11, Iz v12, Iz v13, Iz v14, Iz v15]), (3, .grow (List.map (AV.int .i64) v17)), (4, .cells [Iz v21, Iz v22, Iz v23, Iz v24])] 5 (by simp [-List.reduceReplicate, sOf_set, ofI_set, allU8_set, F6]) (by simp [-List.reduceReplicate, sOf_set, ofI_set, allU8_set, F6]) (by simp) ?_
      refine Can.freeze 3 (o := .grow (List.map (AV.int .i64) v17)) (by simp [-List.reduceReplicate, sOf_set, ofI_set, allU8_set, F6]) rfl [(10, Lz v17)] [] ⟨(.l (by simp) (by simp) (by simp) (by simp)), trivial⟩ trivial ?_
      refine RN h0 [(0, 2), (1, 4)] [(8, AV.ptr 0 0), (9, AV.str v1), (10, Lz v17), (11, AV.ptr 1 0)] [(0, .cells [Lz v9, Lz v10, Lz v11, Iz v12, Iz v13, Iz v14, Iz v15]), (1, .cells [Iz v21, Iz v22, Iz v23, Iz v24])] 2 (by simp [-List.reduceReplicate, sOf_set, ofI_set, allU8_set, F6]) (by simp [-List.reduceReplicate, sOf_set, ofI_set, allU8_set, F6]) ?_
      exact JN ((v9, v10, v11, v12, v13, v14, v15, v1, v17, v21, v24)) hF (by simp [-List.reduceReplicate, sOf_set, ofI_set, allU8_set, F6]) (by simp [-List.reduceReplicate, sOf_set, ofI_set, allU8_set, F6])
     ·replace hF := ite_f h22 hF
      have h22_ := eqb_f h22
      have h22__ := neb_t h22
      have F7 := And.intro F5 (And.intro h22 (And.intro h22_ h22__))
      refine CF (by simp [-List.reduceReplicate, sOf_set, ofI_set, allU8_set, F7] <;> omega) ?_
      refine SQ [] [none, none] fun _ _ g r => ?_
      try simp [-List.reduceReplicate, sOf_set, ofI_set, allU8_set, F7]
      and_intros <;> first | exact g _ (by kernel_rfl) | refine r _ _ _ ?_ | omega | (simp [-List.reduceReplicate, sOf_set, ofI_set, allU8_set, maxLen, F7] <;> omega)
      refine WK [(8, AV.ptr 2 0), (9, AV.str ((v1 ++ (ofI (List.replicate (32 : Int).toNat 0))).extract 0 (32 : Int).toNat)), (10, AV.slc 3 0 1 v17.length false), (11, AV.ptr 4 0), (41, AV.int .u8 (Int.tmod v2 9)), (50, AV.bool ((Int.tmod v2 9) == 2))] [(2, .cells [Lz v9, Lz v10, Lz v11, Iz v12, Iz v13, Iz v14, Iz v15]), (3, .grow (List.map (AV.int .i64) v17)), (4, .cells [Iz v21, Iz v22, Iz v23, Iz v24])] 5 (by simp [-List.reduceReplicate, sOf_set, ofI_set, allU8_set, F7]) (by simp [-List.reduceReplicate, sOf_set, ofI_set, allU8_set, F7]) ?_
      by_cases h23 : (Int.tmod v2 9) = 2
      ·replace hF := ite_t h23 hF
       have h23q : (Int.tmod v2 9) = 2 := h23
       have h23_ := eqb_t h23q
       have h23__ := neb_f h23q
       refine CT (by simp [-List.reduceReplicate, sOf_set, ofI_set, allU8_set, F7, h23_, h23__, h23q] <;> omega) ?_
       refine RG [] [none, none, none, none] fun _ _ g r => ?_
       obtain ⟨h24, hF⟩ := chk_elim hF
       have h24_ := h24
       try simp [-List.reduceReplicate] at h24_
       have F8 := And.intro F7 (And.intro h23_ (And.intro h23__ (And.intro h23q h24)))
       try simp [-List.reduceReplicate, sOf_set, ofI_set, allU8_set, F8]
       and_intros <;> first | exact g _ (by kernel_rfl) | refine r _ _ _ ?_ | omega | (simp [-List.reduceReplicate, sOf_set, ofI_set, allU8_set, maxLen, F8] <;> omega)
       refine hK73 _ _ _ ?_
       refine Can.weak [(8, AV.ptr 2 0), (9, AV.str ((v1 ++ (ofI (List.replicate (32 : Int).toNat 0))).extract 0 (32 : Int).toNat)), (10, AV.slc 5 0 1 ((v17 ++ ([0] : List Int)).length) false), (11, AV.ptr 4 0)] [(2, .cells [Lz v9, Lz v10, Lz v11, Iz v12, Iz v13, Iz v14, Iz v15]), (4, .cells [Iz v21, Iz v22, Iz v23, Iz v24]), (5, .grow (List.map (AV.int .i64) (v17 ++ ([0] : List Int))))] 6 (by simp [-List.reduceReplicate, sOf_set, ofI_set, allU8_set, F8] <;> omega) (by simp [-List.reduceReplicate, sOf_set, ofI_set, allU8_set, F8]) (by simp) ?_
       refine Can.freeze 5 (o := .grow (List.map (AV.int .i64) (v17 ++ ([0] : List Int)))) (by simp [-List.reduceReplicate, sOf_set, ofI_set, allU8_set, F8]) rfl [(10, Lz (v17 ++ ([0] : List Int)))] [] ⟨(.l (by simp) (by simp) (by simp) (by simp)), trivial⟩ trivial ?_
       refine RN h0 [(0, 2), (1, 4)] [(8, AV.ptr 0 0), (9, AV.str ((v1 ++ (ofI (List.replicate (32 : Int).toNat 0))).extract 0 (32 : Int).toNat)), (10, Lz (v17 ++ ([0] : List Int))), (11, AV.ptr 1 0)] [(0, .cells [Lz v9, Lz v10, Lz v11, Iz v12, Iz v13, Iz v14, Iz v15]), (1, .cells [Iz v21, Iz v22, Iz v23, Iz v24])] 2 (by simp [-List.reduceReplicate, sOf_set, ofI_set, allU8_set, F8]) (by simp [-List.reduceReplicate, sOf_set, ofI_set, allU8_set, F8]) ?_
       exact JN ((v9, v10, v11, v12, v13, v14, v15, (v1 ++ (ofI (List.replicate (32 : Int).toNat 0))).extract 0 (32 : Int).toNat, v17 ++ ([0] : List Int), v21, v24)) hF (by simp [-List.reduceReplicate, sOf_set, ofI_set, allU8_set, F8]) (by simp [-List.reduceReplicate, sOf_set, ofI_set, allU8_set, F8])
      ·replace hF := ite_f h23 hF
       have h23_ := eqb_f h23
       have h23__ := neb_t h23
       have F9 := And.intro F7 (And.intro h23 (And.intro h23_ h23__))
       refine CF (by simp [-List.reduceReplicate, sOf_set, ofI_set, allU8_set, F9] <;> omega) ?_
       refine SQ [] [none, none] fun _ _ g r => ?_
       try simp [-List.reduceReplicate, sOf_set, ofI_set, allU8_set, F9]
       and_intros <;> first | exact g _ (by kernel_rfl) | refine r _ _ _ ?_ | omega | (simp [-List.reduceReplicate, sOf_set, ofI_set, allU8_set, maxLen, F9] <;> omega)
       refine WK [(8, AV.ptr 2 0), (9, AV.str ((v1 ++ (ofI (List.replicate (32 : Int).toNat 0))).extract 0 (32 : Int).toNat)), (10, AV.slc 3 0 1 v17.length false), (11, AV.ptr 4 0), (41, AV.int .u8 (Int.tmod v2 9)), (55, AV.bool ((Int.tmod v2 9) == 3))] [(2, .cells [Lz v9, Lz v10, Lz v11, Iz v12, Iz v13, Iz v14, Iz v15]), (3, .grow (List.map (AV.int .i64) v17)), (4, .cells [Iz v21, Iz v22, Iz v23, Iz v24])] 5 (by simp [-List.reduceReplicate, sOf_set, ofI_set, allU8_set, F9]) (by simp [-List.reduceReplicate, sOf_set, ofI_set, allU8_set, F9]) ?_
       refine AW.frz 3 (o := .grow (List.map (AV.int .i64) v17)) (by simp [-List.reduceReplicate, sOf_set, ofI_set, allU8_set, F9]) rfl [(10, Lz v17)] [] ⟨(.l (by simp) (by simp) (by simp) (by simp)), trivial⟩ trivial ?_
       refine WK [(8, AV.ptr 2 0), (9, AV.str ((v1 ++ (ofI (List.replicate (32 : Int).toNat 0))).extract 0 (32 : Int).toNat)), (10, Lz v17), (11, AV.ptr 4 0), (41, AV.int .u8 (Int.tmod v2 9)), (55, AV.bool ((Int.tmod v2 9) == 3))] [(2, .cells [Lz v9, Lz v10, Lz v11, Iz v12, Iz v13, Iz v14, Iz v15]), (4, .cells [Iz v21, Iz v22, Iz v23, Iz v24])] 5 (by simp [-List.reduceReplicate, sOf_set, ofI_set, allU8_set, F9]) (by simp [-List.reduceReplicate, sOf_set, ofI_set, allU8_set, F9]) ?_
       by_cases h25 : (Int.tmod v2 9) = 3
       ·replace hF := ite_t h25 hF
        have h25q : (Int.tmod v2 9) = 3 := h25
        have h25_ := eqb_t h25q
        have h25__ := neb_f h25q
        have F10 := And.intro F9 (And.intro h25_ (And.intro h25__ h25q))
        refine CT (by simp [-List.reduceReplicate, sOf_set, ofI_set, allU8_set, F10] <;> omega) ?_
        refine RG [] [none, none] fun _ _ g r => ?_
        try simp [-List.reduceReplicate, sOf_set, ofI_set, allU8_set, F10]
        and_intros <;> first | exact g _ (by kernel_rfl) | refine r _ _ _ ?_ | omega | (simp [-List.reduceReplicate, sOf_set, ofI_set, allU8_set, maxLen, F10] <;> omega)
        refine hK73 _ _ _ ?_
        refine RN h0 [(0, 2), (1, 4)] [(8, AV.ptr 0 0), (9, AV.str ((v1 ++ (ofI (List.replicate (32 : Int).toNat 0))).extract 0 (32 : Int).toNat)), (10, Lz v17), (11, AV.ptr 1 0)] [(0, .cells [Lz v9, Lz v10, Lz v11, Iz v12, Iz v13, Iz v14, Iz v15]), (1, .cells [Iz v21, Iz v22, Iz v23, Iz 2])] 2 (by simp [-List.reduceReplicate, sOf_set, ofI_set, allU8_set, F10]) (by simp [-List.reduceReplicate, sOf_set, ofI_set, allU8_set, F10]) ?_
        exact JN ((v9, v10, v11, v12, v13, v14, v15, (v1 ++ (ofI (List.replicate (32 : Int).toNat 0))).extract 0 (32 : Int).toNat, v17, v21, 2)) hF (by simp [-List.reduceReplicate, sOf_set, ofI_set, allU8_set, F10]) (by simp [-List.reduceReplicate, sOf_set, ofI_set, allU8_set, F10])
       ·replace hF := ite_f h25 hF
        have h25_ := eqb_f h25
        have h25__ := neb_t h25
        have F11 := And.intro F9 (And.intro h25 (And.intro h25_ h25__))
        refine CF (by simp [-List.reduceReplicate, sOf_set, ofI_set, allU8_set, F11] <;> omega) ?_
        refine SQ [] [none, none] fun _ _ g r => ?_
        try simp [-List.reduceReplicate, sOf_set, ofI_set, allU8_set, F11]
        and_intros <;> first | exact g _ (by kernel_rfl) | refine r _ _ _ ?_ | omega | (simp [-List.reduceReplicate, sOf_set, ofI_set, allU8_set, maxLen, F11] <;> omega)
        refine WK [(8, AV.ptr 2 0), (9, AV.str ((v1 ++ (ofI (List.replicate (32 : Int).toNat 0))).extract 0 (32 : Int).toNat)), (10, Lz v17), (11, AV.ptr 4 0), (41, AV.int .u8 (Int.tmod v2 9)), (58, AV.bool ((Int.tmod v2 9) == 4))] [(2, .cells [Lz v9, Lz v10, Lz v11, Iz v12, Iz v13, Iz v14, Iz v15]), (4, .cells [Iz v21, Iz v22, Iz v23, Iz v24])] 5 (by simp [-List.reduceReplicate, sOf_set, ofI_set, allU8_set, F11]) (by simp [-List.reduceReplicate, sOf_set, ofI_set, allU8_set, F11]) ?_
        by_cases h26 : (Int.tmod v2 9) = 4
        ·replace hF := ite_t h26 hF
         have h26q : (Int.tmod v2 9) = 4 := h26
         have h26_ := eqb_t h26q
         have h26__ := neb_f h26q
         have F12 := And.intro F11 (And.intro h26_ (And.intro h26__ h26q))
         refine CT (by simp [-List.reduceReplicate, sOf_set, ofI_set, allU8_set, F12] <;> omega) ?_
         refine RG [] [none, none] fun _ _ g r => ?_
         try simp [-List.reduceReplicate, sOf_set, ofI_set, allU8_set, F12]
         and_intros <;> first | exact g _ (by kernel_rfl) | refine r _ _ _ ?_ | omega | (simp [-List.reduceReplicate, sOf_set, ofI_set, allU8_set, maxLen, F12] <;> omega)
         refine hK73 _ _ _ ?_
         refine RN h0 [(0, 2), (1, 4)] [(8, AV.ptr 0 0), (9, AV.str ((v1 ++ (ofI (List.replicate (32 : Int).toNat 0))).extract 0 (32 : Int).toNat)), (10, Lz v17), (11, AV.ptr 1 0)] [(0, .cells [Lz v9, Lz v10, Lz v11, Iz v12, Iz v13, Iz v14, Iz v15]), (1, .cells [Iz 40, Iz v22, Iz v23, Iz v24])] 2 (by simp [-List.reduceReplicate, sOf_set, ofI_set, allU8_set, F12]) (by simp [-List.reduceReplicate, sOf_set, ofI_set, allU8_set, F12]) ?_
         exact JN ((v9, v10, v11, v12, v13, v14, v15, (v1 ++ (ofI (List.replicate (32 : Int).toNat 0))).extract 0 (32 : Int).toNat, v17, 40, v24)) hF (by simp [-List.reduceReplicate, sOf_set, ofI_set, allU8_set, F12]) (by simp [-List.reduceReplicate, sOf_set, ofI_set, allU8_set, F12])
        ·replace hF := ite_f h26 hF
         have h26_ := eqb_f h26
         have h26__ := neb_t h26
         have F13 := And.intro F11 (And.intro h26 (And.intro h26_ h26__))
         refine CF (by simp [-List.reduceReplicate, sOf_set, ofI_set, allU8_set, F13] <;> omega) ?_
         refine SQ [] [none, none] fun _ _ g r => ?_
         try simp [-List.reduceReplicate, sOf_set, ofI_set, allU8_set, F13]
         and_intros <;> first | exact g _ (by kernel_rfl) | refine r _ _ _ ?_ | omega | (simp [-List.reduceReplicate, sOf_set, ofI_set, allU8_set, maxLen, F13] <;> omega)
         refine WK [(8, AV.ptr 2 0), (9, AV.str ((v1 ++ (ofI (List.replicate (32 : Int).toNat 0))).extract 0 (32 : Int).toNat)), (10, Lz v17), (11, AV.ptr 4 0), (61, AV.bool ((Int.tmod v2 9) == 5))] [(2, .cells [Lz v9, Lz v10, Lz v11, Iz v12, Iz v13, Iz v14, Iz v15]), (4, .cells [Iz v21, Iz v22, Iz v23, Iz v24])] 5 (by simp [-List.reduceReplicate, sOf_set, ofI_set, allU8_set, F13]) (by simp [-List.reduceReplicate, sOf_set, ofI_set, allU8_set, F13]) ?_
         by_cases h27 : (Int.tmod v2 9) = 5
         ·replace hF := ite_t h27 hF
          have h27q : (Int.tmod v2 9) = 5 := h27
          have h27_ := eqb_t h27q
          have h27__ := neb_f h27q
          have F14 := And.intro F13 (And.intro h27_ (And.intro h27__ h27q))
          refine CT (by simp [-List.reduceReplicate, sOf_set, ofI_set, allU8_set, F14] <;> omega) ?_
          refine RG [] [none] fun _ _ g r => ?_
          try simp [-List.reduceReplicate, sOf_set, ofI_set, allU8_set, F14]
          and_intros <;> first | exact g _ (by kernel_rfl) | refine r _ _ _ ?_ | omega | (simp [-List.reduceReplicate, sOf_set, ofI_set, allU8_set, maxLen, F14] <;> omega)
          refine hK73 _ _ _ ?_
          refine RN h0 [(0, 2), (1, 4)] [(8, AV.ptr 0 0), (9, AV.str ((v1 ++ (ofI (List.replicate (32 : Int).toNat 0))).extract 0 (32 : Int).toNat)), (10, AV.lst true true (List.map (AV.int .i64) ([] : List Int))), (11, AV.ptr 1 0)] [(0, .cells [Lz v9, Lz v10, Lz v11, Iz v12, Iz v13, Iz v14, Iz v15]), (1, .cells [Iz v21, Iz v22, Iz v23, Iz v24])] 2 (by simp [-List.reduceReplicate, sOf_set, ofI_set, allU8_set, F14]) (by simp [-List.reduceReplicate, sOf_set, ofI_set, allU8_set, F14]) ?_
          refine Can.flg [(10, Lz ([] : List Int))] [] ⟨(.lst (by simp)), trivial⟩ trivial (by simp) ?_
          exact JN ((v9, v10, v11, v12, v13, v14, v15, (v1 ++ (ofI (List.replicate (32 : Int).toNat 0))).extract 0 (32 : Int).toNat, ([] : List Int), v21, v24)) hF (by simp [-List.reduceReplicate, sOf_set, ofI_set, allU8_set, F14]) (by simp [-List.reduceReplicate, sOf_set, ofI_set, allU8_set, F14])
         ·replace hF := ite_f h27 hF
          have h27_ := eqb_f h27
          have h27__ := neb_t h27
          have F15 := And.intro F13 (And.intro h27 (And.intro h27_ h27__))
          refine CF (by simp [-List.reduceReplicate, sOf_set, ofI_set, allU8_set, F15] <;> omega) ?_
          refine AW.skip ?_
          refine hK73 _ _ _ ?_
          refine RN h0 [(0, 2), (1, 4)] [(8, AV.ptr 0 0), (9, AV.str ((v1 ++ (ofI (List.replicate (32 : Int).toNat 0))).extract 0 (32 : Int).toNat)), (10, Lz v17), (11, AV.ptr 1 0)] [(0, .cells [Lz v9, Lz v10, Lz v11, Iz v12, Iz v13, Iz v14, Iz v15]), (1, .cells [Iz v21, Iz v22, Iz v23, Iz v24])] 2 (by simp [-List.reduceReplicate, sOf_set, ofI_set, allU8_set, F15]) (by simp [-List.reduceReplicate, sOf_set, ofI_set, allU8_set, F15]) ?_
          exact JN ((v9, v10, v11, v12, v13, v14, v15, (v1 ++ (ofI (List.replicate (32 : Int).toNat 0))).extract 0 (32 : Int).toNat, v17, v21, v24)) hF (by simp [-List.reduceReplicate, sOf_set, ofI_set, allU8_set, F15]) (by simp [-List.reduceReplicate, sOf_set, ofI_set, allU8_set, F15])
   ·rintro ⟨v26, v27, v28, v29, v30, v31, v32, v33, v34, v35, v36⟩ hF
    try dsimp only at hF
    unfold law26_CommitteeOf.J1 at hF
    refine SQ [] [none, none, none, none, none, none, none, none, none, none] fun _ _ g r => ?_
    try simp [-List.reduceReplicate, sOf_set, ofI_set, allU8_set, F3]
    and_intros
    try any_goals first | omega | (simp [-List.reduceReplicate, sOf_set, ofI_set, allU8_set, maxLen, F3] <;> omega)
    obtain ⟨v37, v38, h14, hF⟩ := bnd2_elim hF
    refine AC (w_committee_Of k _ _ _ _ _ _ _ _ _ _ _ _ _ _ _ h14) (.cons (.same (by simp [-List.reduceReplicate, sOf_set, ofI_set, allU8_set, F3])) (.cons (.same (by simp [-List.reduceReplicate, sOf_set, ofI_set, allU8_set, F3])) (.cons (.same (by simp [-List.reduceReplicate, sOf_set, ofI_set, allU8_set, F3])) (.cons (.same (by simp [-List.reduceReplicate, sOf_set, ofI_set, allU8_set, F3])) .nil)))) ?_
    try simp [-List.reduceReplicate, sOf_set, ofI_set, allU8_set, F3]
    and_intros <;> first | exact g _ (by kernel_rfl) | refine r _ _ _ ?_ | omega | (simp [-List.reduceReplicate, sOf_set, ofI_set, allU8_set, maxLen, F3] <;> omega)
    refine WK [(8, AV.ptr 0 0), (9, AV.str v33), (10, Lz v34), (11, AV.ptr 1 0), (12, AV.slc 2 0 1 v37.length false), (13, Iz v38)] [(0, .cells [Lz v26, Lz v27, Lz v28, Iz v29, Iz v30, Iz v31, Iz v32]), (1, .cells [Iz v35, Iz v22, Iz v23, Iz v36]), (2, .grow (List.map (AV.int .i64) v37))] 3 (by simp [-List.reduceReplicate, sOf_set, ofI_set, allU8_set, F3]) (by simp [-List.reduceReplicate, sOf_set, ofI_set, allU8_set, F3]) ?_
    refine AW.frz 2 (o := .grow (List.map (AV.int .i64) v37)) (by simp [-List.reduceReplicate, sOf_set, ofI_set, allU8_set, F3]) rfl [(12, Lz v37)] [] ⟨(.l (by simp) (by simp) (by simp) (by simp)), trivial⟩ trivial ?_
    refine WK [(8, AV.ptr 0 0), (9, AV.str v33), (10, Lz v34), (11, AV.ptr 1 0), (12, Lz v37), (13, Iz v38)] [(0, .cells [Lz v26, Lz v27, Lz v28, Iz v29, Iz v30, Iz v31, Iz v32]), (1, .cells [Iz v35, Iz v22, Iz v23, Iz v36])] 3 (by simp [-List.reduceReplicate, sOf_set, ofI_set, allU8_set, F3]) (by simp [-List.reduceReplicate, sOf_set, ofI_set, allU8_set, F3]) ?_
    refine SQ [] [none, none, none, none, none, none, none, none, none, none] fun _ _ g r => ?_
    try simp [-List.reduceReplicate, sOf_set, ofI_set, allU8_set, F3]
    and_intros
    try any_goals first | omega | (simp [-List.reduceReplicate, sOf_set, ofI_set, allU8_set, maxLen, F3] <;> omega)
    obtain ⟨v39, v40, h15, hF⟩ := bnd2_elim hF
    refine AC (w_ref26_Of k _ _ _ _ _ _ _ _ _ _ _ _ _ _ _ h15) (.cons (.same (by simp [-List.reduceReplicate, sOf_set, ofI_set, allU8_set, F3])) (.cons (.same (by simp [-List.reduceReplicate, sOf_set, ofI_set, allU8_set, F3])) (.cons (.same (by simp [-List.reduceReplicate, sOf_set, ofI_set, allU8_set, F3])) (.cons (.same (by simp [-List.reduceReplicate, sOf_set, ofI_set, allU8_set, F3])) .nil)))) ?_
    try simp [-List.reduceReplicate, sOf_set, ofI_set, allU8_set, F3]
    and_intros <;> first | exact g _ (by kernel_rfl) | refine r _ _ _ ?_ | omega | (simp [-List.reduceReplicate, sOf_set, ofI_set, allU8_set, maxLen, F3] <;> omega)
    refine WK [(12, Lz v37), (13, Iz v38), (14, AV.slc 3 0 1 v39.length false), (15, Iz v40)] [(3, .grow (List.map (AV.int .i64) v39))] 4 (by simp [-List.reduceReplicate, sOf_set, ofI_set, allU8_set, F3]) (by simp [-List.reduceReplicate, sOf_set, ofI_set, allU8_set, F3]) ?_
    refine AW.frz 3 (o := .grow (List.map (AV.int .i64) v39)) (by simp [-List.reduceReplicate, sOf_set, ofI_set, allU8_set, F3]) rfl [(14, Lz v39)] [] ⟨(.l (by simp) (by simp) (by simp) (by simp)), trivial⟩ trivial ?_
    refine WK [(12, Lz v37), (13, Iz v38), (14, Lz v39), (15, Iz v40)] [] 4 (by simp [-List.reduceReplicate, sOf_set, ofI_set, allU8_set, F3]) (by simp [-List.reduceReplicate, sOf_set, ofI_set, allU8_set, F3]) ?_
    refine SQ [] [none, none, none, none, some (82, true), some (82, true), some (82, true), none, none, some (87, true), none, none] fun _ _ g r => ?_
    by_cases h16 : v38 = v40
    ·replace hF := ite_t h16 hF
     have h16q : v38 = v40 := h16
     have h16_ := eqb_t h16q
     have h16__ := neb_f h16q
     have F16 := And.intro F3 (And.intro h16_ h16__)
     try simp [-List.reduceReplicate, sOf_set, ofI_set, allU8_set, F16]
     and_intros
     try any_goals first | omega | (simp [-List.reduceReplicate, sOf_set, ofI_set, allU8_set, maxLen, F16] <;> omega)
     obtain ⟨v41, h17, hF⟩ := bnd1_elim hF
     refine AC (w_ref23_SameInts k _ _ _ h17) (.cons (.same (by simp [-List.reduceReplicate, sOf_set, ofI_set, allU8_set, F16])) (.cons (.same (by simp [-List.reduceReplicate, sOf_set, ofI_set, allU8_set, F16])) .nil)) ?_
     by_cases h18 : v41 = true
     ·replace hF := ite_t h18 hF
      have h18_ := h18
      try simp [-List.reduceReplicate] at h18_
      have F17 := And.intro F16 (And.intro h18 h18_)
      try simp [-List.reduceReplicate, sOf_set, ofI_set, allU8_set, F17]
      and_intros
      try any_goals first | omega | (simp [-List.reduceReplicate, sOf_set, ofI_set, allU8_set, maxLen, F17] <;> omega)
      obtain ⟨v42, h19, hF⟩ := bnd1_elim hF
      refine AC (w_law26_awake k _ h19) .nil ?_
      try simp [-List.reduceReplicate, sOf_set, ofI_set, allU8_set, F17]
      and_intros <;> first | exact g _ (by kernel_rfl) | refine r _ _ _ ?_ | omega | (simp [-List.reduceReplicate, sOf_set, ofI_set, allU8_set, maxLen, F17] <;> omega)
      refine WK [(6, AV.bool v42)] [] 4 (by simp [-List.reduceReplicate, sOf_set, ofI_set, allU8_set, F17]) (by simp [-List.reduceReplicate, sOf_set, ofI_set, allU8_set, F17]) ?_
      simp only [Option.some.injEq] at hF
      subst hF
      refine AW.ret (hQ _ _ _ ?_ (matchO_0 ?_)).1
      ·simp [Try.f10, F17]
      ·simp [F17]
     ·replace hF := ite_f h18 hF
      have h18_ := h18
      try simp [-List.reduceReplicate] at h18_
      have F18 := And.intro F16 (And.intro h18 h18_)
      try simp [-List.reduceReplicate, sOf_set, ofI_set, allU8_set, F18]
      and_intros <;> first | exact g _ (by kernel_rfl) | refine r _ _ _ ?_ | omega | (simp [-List.reduceReplicate, sOf_set, ofI_set, allU8_set, maxLen, F18] <;> omega)
      refine WK [(6, AV.bool false)] [] 4 (by simp [-List.reduceReplicate, sOf_set, ofI_set, allU8_set, F18]) (by simp [-List.reduceReplicate, sOf_set, ofI_set, allU8_set, F18]) ?_
      simp only [Option.some.injEq] at hF
      subst hF
      refine AW.ret (hQ _ _ _ ?_ (matchO_0 ?_)).1
      ·simp [Try.f10, F18]
      ·simp [F18]
    ·replace hF := ite_f h16 hF
     have h16_ := eqb_f h16
     have h16__ := neb_t h16
     have F19 := And.intro F3 (And.intro h16 (And.intro h16_ h16__))
     try simp [-List.reduceReplicate, sOf_set, ofI_set, allU8_set, F19]
     and_intros <;> first | exact g _ (by kernel_rfl) | refine r _ _ _ ?_ | omega | (simp [-List.reduceReplicate, sOf_set, ofI_set, allU8_set, maxLen, F19] <;> omega)
     refine WK [(6, AV.bool false)] [] 4 (by simp [-List.reduceReplicate, sOf_set, ofI_set, allU8_set, F19]) (by simp [-List.reduceReplicate, sOf_set, ofI_set, allU8_set, F19]) ?_
     simp only [Option.some.injEq] at hF
     subst hF
     refine AW.ret (hQ _ _ _ ?_ (matchO_0 ?_)).1
     ·simp [Try.f10, F19]
     ·simp [F19]
end Go.TF
