/- Walks: the Go text computes the Lean functions (printed by a program of our own). -/
import Derived.Test.YteclncnknklkfaaGaPu
import Derived.Test.YteclncnknklkfaaGaAbsT
import Derived.Test.YteclncnknklkfaaGaWa0
import Derived.Test.YteclncnknklkfaaGaWa1
set_option linter.unusedVariables false
set_option linter.unusedSimpArgs false
set_option maxRecDepth 100000
set_option maxHeartbeats 4000000
namespace Go.TF
open Go Go.Abs Go.Proofs Go.Proofs.YteclncnknklkfaaGaT
theorem w_cases_pins (k : Nat) (v0 : (List api_Pin)) (v1 : Bool) (hF : cases_pins k v0 = some v1) :
  FCall Try.prog 43 [AV.lst false false (List.map api_Pin.av v0)] [] (AV.bool v1) [] := by
 unfold cases_pins at hF
 refine EN Try.func43 ?_
 intro c0 w0 Q h0 hQ
 refine WK [(0, AV.lst false false (List.map api_Pin.av v0))] [] 0 (by simp) (by simp) ?_
 refine SQ [] [none] fun _ _ g r => ?_
 try simp
 and_intros <;> first | exact g _ (by kernel_rfl) | refine r _ _ _ ?_ | omega | (simp [maxLen] <;> omega)
 refine WK [(0, AV.lst false false (List.map api_Pin.av v0))] [] 0 (by simp) (by simp) ?_
 refine SQ [] [none, none, none, none, none] fun _ _ g r => ?_
 try simp
 and_intros
 try any_goals first | omega | (simp [maxLen] <;> omega)
 obtain ⟨v2, h1, hF⟩ := bnd1_elim hF
 refine AC (w_statement_Check k _ _ _ _ _ _ _ _ _ _ _ _ _ _ h1) (.cons (.agg (.cons (.same (by simp)) (.cons (.same (by simp)) (.cons (.same (by simp)) (.cons (.same (by simp)) (.cons (.same (by simp)) (.cons (.same (by simp)) (.cons (.same (by simp)) (.cons (.same (by simp)) (.cons (Coe.fl (by simp)) (.cons (.same (by simp)) (.cons (.same (by simp)) (.cons (.same (by simp)) (.cons (.same (by simp)) .nil)))))))))))))) .nil) ?_
 try simp
 and_intros <;> first | exact g _ (by kernel_rfl) | refine r _ _ _ ?_ | omega | (simp [maxLen] <;> omega)
 refine WK [(2, AV.bool (v2 == 0))] [] 0 (by simp) (by simp) ?_
 simp only [Option.some.injEq] at hF
 subst hF
 refine AW.ret (hQ _ _ _ ?_ (matchO_0 ?_)).1
 ·simp [Try.f43]
 ·simp
theorem w_cases_Right (k : Nat) (v0 : Int) (v1 : Int) (v2 : Int) (v3 : Int) (v4 : (List Int)) (v5 : (List api_Pin)) (v6 : Bool) (hF : cases_Right k v0 v1 v2 v3 v4 v5 = some v6) :
  FCall Try.prog 28 [AV.agg [AV.int .i64 v0, AV.int .i64 v1, AV.int .i64 v2, AV.int .i64 v3], AV.agg [AV.lst false false (List.map (AV.int .i64) v4), AV.lst false false (List.map api_Pin.av v5)]] [] (AV.bool v6) [] := by
 unfold cases_Right at hF
 refine EN Try.func28 ?_
 intro c0 w0 Q h0 hQ
 refine WK [(0, AV.agg [Iz v0, Iz v1, Iz v2, Iz v3]), (1, AV.agg [Lz v4, AV.lst false false (List.map api_Pin.av v5)])] [] 0 (by simp) (by simp) ?_
 refine SQ [] [none, none, none] fun _ _ g r => ?_
 try simp
 and_intros <;> first | exact g _ (by kernel_rfl) | refine r _ _ _ ?_ | omega | (simp [maxLen] <;> omega)
 refine WK [(2, AV.ptr 0 0), (3, AV.ptr 1 0)] [(0, .cells [Iz v0, Iz v1, Iz v2, Iz v3]), (1, .cells [Lz v4, AV.lst false false (List.map api_Pin.av v5)])] 2 (by simp) (by simp) ?_
 refine AW.seq fun K121 hK121 => ?_
 refine SQ [] [none, none, none, none, some (12, false), some (12, false), some (12, false), some (12, false), none] fun _ _ g r => ?_
 try simp
 and_intros
 try any_goals first | omega | (simp [maxLen] <;> omega)
 obtain ⟨v7, h1, hF⟩ := bnd1_elim hF
 refine AC (w_cases_Valid k _ _ _ _ _ h1) (.cons (.same (by simp)) .nil) ?_
 by_cases h2 : (!v7) = true
 ·replace hF := ite_t h2 hF
  have h2_ := h2
  try simp at h2_
  try simp [h2, h2_]
  and_intros <;> first | exact g _ (by kernel_rfl) | refine r _ _ _ ?_ | omega | (simp [h2, h2_, maxLen] <;> omega)
  refine WK [(2, AV.ptr 0 0), (3, AV.ptr 1 0), (17, AV.bool true)] [(0, .cells [Iz v0, Iz v1, Iz v2, Iz v3]), (1, .cells [Lz v4, AV.lst false false (List.map api_Pin.av v5)])] 2 (by simp [h2, h2_]) (by simp [h2, h2_]) ?_
  refine CT (by simp [h2, h2_]) ?_
  refine SQ [] [none] fun _ _ g r => ?_
  try simp [h2, h2_]
  and_intros <;> first | exact g _ (by kernel_rfl) | refine r _ _ _ ?_ | omega | (simp [h2, h2_, maxLen] <;> omega)
  refine WK [(4, AV.bool false)] [] 2 (by simp [h2, h2_]) (by simp [h2, h2_]) ?_
  simp only [Option.some.injEq] at hF
  subst hF
  refine AW.ret (hQ _ _ _ ?_ (matchO_0 ?_)).1
  ·simp [Try.f28, h2, h2_]
  ·simp [h2, h2_]
 ·replace hF := ite_f h2 hF
  have h2_ := h2
  try simp at h2_
  try simp [h2, h2_]
  and_intros
  try any_goals first | omega | (simp [h2, h2_, maxLen] <;> omega)
  obtain ⟨v8, h3, hF⟩ := bnd1_elim hF
  refine AC (w_cases_pins k _ _ h3) (.cons (.same (by simp [h2, h2_])) .nil) ?_
  try simp [h2, h2_]
  and_intros <;> first | exact g _ (by kernel_rfl) | refine r _ _ _ ?_ | omega | (simp [h2, h2_, maxLen] <;> omega)
  refine WK [(2, AV.ptr 0 0), (3, AV.ptr 1 0), (17, AV.bool (!v8))] [(0, .cells [Iz v0, Iz v1, Iz v2, Iz v3]), (1, .cells [Lz v4, AV.lst false false (List.map api_Pin.av v5)])] 2 (by simp [h2, h2_]) (by simp [h2, h2_]) ?_
  by_cases h4 : (!v8) = true
  ·replace hF := ite_t h4 hF
   have h4_ := h4
   try simp at h4_
   have F1 := And.intro h2 (And.intro h2_ (And.intro h4 h4_))
   refine CT (by simp [F1] <;> omega) ?_
   refine SQ [] [none] fun _ _ g r => ?_
   try simp [F1]
   and_intros <;> first | exact g _ (by kernel_rfl) | refine r _ _ _ ?_ | omega | (simp [maxLen, F1] <;> omega)
   refine WK [(4, AV.bool false)] [] 2 (by simp [F1]) (by simp [F1]) ?_
   simp only [Option.some.injEq] at hF
   subst hF
   refine AW.ret (hQ _ _ _ ?_ (matchO_0 ?_)).1
   ·simp [Try.f28, F1]
   ·simp [F1]
  ·replace hF := ite_f h4 hF
   have h4_ := h4
   try simp at h4_
   have F2 := And.intro h2 (And.intro h2_ (And.intro h4 h4_))
   refine CF (by simp [F2] <;> omega) ?_
   refine AW.skip ?_
   refine hK121 _ _ _ ?_
   refine SQ [] [none, none] fun _ _ g r => ?_
   try simp [F2]
   and_intros <;> first | exact g _ (by kernel_rfl) | refine r _ _ _ ?_ | omega | (simp [maxLen, F2] <;> omega)
   refine WK [(2, AV.ptr 0 0), (3, AV.ptr 1 0), (5, Iz 1), (6, Iz 1)] [(0, .cells [Iz v0, Iz v1, Iz v2, Iz v3]), (1, .cells [Lz v4, AV.lst false false (List.map api_Pin.av v5)])] 2 (by simp [F2]) (by simp [F2]) ?_
   refine AW.midF (α := (Int × Int)) (fun (v9, v10) => cases_Right.J1 k v4 v9 v10 = some v6) (fun (v9, v10) => [(3, AV.ptr 0 0), (5, Iz v9), (6, Iz v10)]) (fun (v9, v10) => [(0, .cells [Lz v4, AV.lst false false (List.map api_Pin.av v5)])]) 1 (fun K230 hK230 => ?_) ?_
   ·refine SQ [] [none, none, none] fun _ _ g r => ?_
    try simp [F2]
    and_intros <;> first | exact g _ (by kernel_rfl) | refine r _ _ _ ?_ | omega | (simp [maxLen, F2] <;> omega)
    refine WK [(3, AV.ptr 1 0), (5, Iz 1), (6, Iz 1), (20, AV.bool (v1 == 1))] [(1, .cells [Lz v4, AV.lst false false (List.map api_Pin.av v5)])] 2 (by simp [F2]) (by simp [F2]) ?_
    by_cases h11 : v1 = 1
    ·replace hF := ite_t h11 hF
     have h11q : v1 = 1 := h11
     have h11_ := eqb_t h11q
     have h11__ := neb_f h11q
     have F3 := And.intro F2 (And.intro h11_ (And.intro h11__ h11q))
     refine CT (by simp [F3] <;> omega) ?_
     refine RG [] [none, none] fun _ _ g r => ?_
     try simp [F3]
     and_intros <;> first | exact g _ (by kernel_rfl) | refine r _ _ _ ?_ | omega | (simp [maxLen, F3] <;> omega)
     refine hK230 _ _ _ ?_
     refine RN h0 [(0, 1)] [(3, AV.ptr 0 0), (5, Iz 2), (6, Iz 4294967295)] [(0, .cells [Lz v4, AV.lst false false (List.map api_Pin.av v5)])] 1 (by simp [F3]) (by simp [F3]) ?_
     exact JN ((2, 4294967295)) hF (by simp [F3]) (by simp [F3])
    ·replace hF := ite_f h11 hF
     have h11_ := eqb_f h11
     have h11__ := neb_t h11
     have F4 := And.intro F2 (And.intro h11 (And.intro h11_ h11__))
     refine CF (by simp [F4] <;> omega) ?_
     refine AW.skip ?_
     refine hK230 _ _ _ ?_
     refine RN h0 [(0, 1)] [(3, AV.ptr 0 0), (5, Iz 1), (6, Iz 1)] [(0, .cells [Lz v4, AV.lst false false (List.map api_Pin.av v5)])] 1 (by simp [F4]) (by simp [F4]) ?_
     exact JN ((1, 1)) hF (by simp [F4]) (by simp [F4])
   ·rintro ⟨v9, v10⟩ hF
    try dsimp only at hF
    unfold cases_Right.J1 at hF
    refine AW.seq fun K178 hK178 => ?_
    refine SQ [] [none, none, none, none] fun _ _ g r => ?_
    try simp [F2]
    and_intros <;> first | exact g _ (by kernel_rfl) | refine r _ _ _ ?_ | omega | (simp [maxLen, F2] <;> omega)
    refine WK [(3, AV.ptr 0 0), (5, Iz v9), (6, Iz v10), (22, Lz v4), (23, Iz (v4.length : Int)), (24, Iz 0)] [(0, .cells [Lz v4, AV.lst false false (List.map api_Pin.av v5)])] 1 (by simp [F2]) (by simp [F2]) ?_
    refine AW.block ?_
    refine AW.loopF (α := Int) (fun n v11 => cases_Right.L2 k v4 v9 v10 n v11 = some v6) (fun v11 => [(3, AV.ptr 0 0), (5, Iz v9), (6, Iz v10), (22, Lz v4), (23, Iz (v4.length : Int)), (24, Iz v11)]) (fun v11 => [(0, .cells [Lz v4, AV.lst false false (List.map api_Pin.av v5)])]) 1 k (0) hF (by simp [F2]) (by simp [F2]) (by simp) ?_
    rintro (_|n2) v11 hF K216 hK216
    ·try dsimp only at hF
     rw [cases_Right.L2] at hF; cases hF
    try dsimp only at hF
    rw [cases_Right.L2] at hF
    refine SQ [] [none] fun _ _ g r => ?_
    try simp [F2]
    and_intros <;> first | exact g _ (by kernel_rfl) | refine r _ _ _ ?_ | omega | (simp [maxLen, F2] <;> omega)
    refine WK [(3, AV.ptr 0 0), (5, Iz v9), (6, Iz v10), (22, Lz v4), (23, Iz (v4.length : Int)), (24, Iz v11), (25, AV.bool (decide (v11 < (v4.length : Int))))] [(0, .cells [Lz v4, AV.lst false false (List.map api_Pin.av v5)])] 1 (by simp [F2]) (by simp [F2]) ?_
    refine AW.seq fun K218 hK218 => ?_
    by_cases h5 : v11 < (v4.length : Int)
    ·replace hF := ite_t h5 hF
     have h5_ := h5
     try simp at h5_
     have F5 := And.intro F2 (And.intro h5 h5_)
     refine CT (by simp [F5] <;> omega) ?_
     refine AW.skip ?_
     refine hK218 _ _ _ ?_
     refine AW.seq fun K223 hK223 => ?_
     refine AW.block ?_
     refine SQ [] [none, none, none] fun _ _ g r => ?_
     obtain ⟨v12, h6, h7, h8, hF⟩ := idx_elim hF
     have h8_ := get_of h8
     try simp at h8_
     have h7_ := h7
     try simp at h7_
     have F6 := And.intro F5 (And.intro h6 (And.intro h7 (And.intro h8 (And.intro h8_ h7_))))
     try simp [F6]
     and_intros <;> first | exact g _ (by kernel_rfl) | refine r _ _ _ ?_ | omega | (simp [maxLen, F6] <;> omega)
     refine WK [(3, AV.ptr 0 0), (5, Iz v9), (6, Iz v10), (8, Iz v12), (22, Lz v4), (23, Iz (v4.length : Int)), (24, Iz v11)] [(0, .cells [Lz v4, AV.lst false false (List.map api_Pin.av v5)])] 1 (by simp [F6]) (by simp [F6]) ?_
     refine SQ [] [none, none, none, some (30, false), some (30, false), some (30, false), none] fun _ _ g r => ?_
     by_cases h9 : v12 < 0
     ·replace hF := ite_t h9 hF
      have h9_ := h9
      try simp at h9_
      have F7 := And.intro F6 (And.intro h9 h9_)
      try simp [F7]
      and_intros <;> first | exact g _ (by kernel_rfl) | refine r _ _ _ ?_ | omega | (simp [maxLen, F7] <;> omega)
      refine WK [(3, AV.ptr 0 0), (5, Iz v9), (6, Iz v10), (22, Lz v4), (23, Iz (v4.length : Int)), (24, Iz v11), (34, AV.bool true)] [(0, .cells [Lz v4, AV.lst false false (List.map api_Pin.av v5)])] 1 (by simp [F7]) (by simp [F7]) ?_
      refine CT (by simp [F7]) ?_
      refine SQ [] [none] fun _ _ g r => ?_
      try simp [F7]
      and_intros <;> first | exact g _ (by kernel_rfl) | refine r _ _ _ ?_ | omega | (simp [maxLen, F7] <;> omega)
      refine WK [(4, AV.bool false)] [] 1 (by simp [F7]) (by simp [F7]) ?_
      simp only [Option.some.injEq] at hF
      subst hF
      refine AW.ret (hQ _ _ _ ?_ (matchO_0 ?_)).1
      ·simp [Try.f28, F7]
      ·simp [F7]
     ·replace hF := ite_f h9 hF
      have h9_ := h9
      try simp at h9_
      have F8 := And.intro F6 (And.intro h9 h9_)
      try simp [F8]
      and_intros <;> first | exact g _ (by kernel_rfl) | refine r _ _ _ ?_ | omega | (simp [maxLen, F8] <;> omega)
      refine WK [(3, AV.ptr 0 0), (5, Iz v9), (6, Iz v10), (22, Lz v4), (23, Iz (v4.length : Int)), (24, Iz v11), (34, AV.bool (decide (v10 < v12)))] [(0, .cells [Lz v4, AV.lst false false (List.map api_Pin.av v5)])] 1 (by simp [F8]) (by simp [F8]) ?_
      by_cases h10 : v10 < v12
      ·replace hF := ite_t h10 hF
       have h10_ := h10
       try simp at h10_
       have F9 := And.intro F8 (And.intro h10 h10_)
       refine CT (by simp [F9] <;> omega) ?_
       refine SQ [] [none] fun _ _ g r => ?_
       try simp [F9]
       and_intros <;> first | exact g _ (by kernel_rfl) | refine r _ _ _ ?_ | omega | (simp [maxLen, F9] <;> omega)
       refine WK [(4, AV.bool false)] [] 1 (by simp [F9]) (by simp [F9]) ?_
       simp only [Option.some.injEq] at hF
       subst hF
       refine AW.ret (hQ _ _ _ ?_ (matchO_0 ?_)).1
       ·simp [Try.f28, F9]
       ·simp [F9]
      ·replace hF := ite_f h10 hF
       have h10_ := h10
       try simp at h10_
       have F10 := And.intro F8 (And.intro h10 h10_)
       refine CF (by simp [F10] <;> omega) ?_
       refine AW.skip ?_
       refine hK223 _ _ _ ?_
       refine RG [] [none, none] fun _ _ g r => ?_
       try simp [F10]
       and_intros <;> first | exact g _ (by kernel_rfl) | refine r _ _ _ ?_ | omega | (simp [maxLen, F10] <;> omega)
       refine hK216 _ _ _ ?_
       exact NX (k' := n2) (IntKind.wrap .i64 (v11 + 1)) hF (by simp [F10]) (by simp [F10])
    ·replace hF := ite_f h5 hF
     have h5_ := h5
     try simp at h5_
     have F11 := And.intro F2 (And.intro h5 h5_)
     refine CF (by simp [F11] <;> omega) ?_
     refine AW.exit ?_
     try simp
     refine hK178 _ _ _ ?_
     refine SQ [] [none, none, none, none, none, none] fun _ _ g r => ?_
     try simp [F11]
     and_intros <;> first | exact g _ (by kernel_rfl) | refine r _ _ _ ?_ | omega | (simp [maxLen, F11] <;> omega)
     refine WK [(4, AV.bool ((v4.length : Int) == v9))] [] 1 (by simp [F11]) (by simp [F11]) ?_
     simp only [Option.some.injEq] at hF
     subst hF
     refine AW.ret (hQ _ _ _ ?_ (matchO_0 ?_)).1
     ·simp [Try.f28, F11]
     ·simp [F11]
theorem w_cases_Copy (k : Nat) (v0 : (List Int)) (v1 : (List api_Pin)) (v2 : (List Int)) (v3 : (List api_Pin)) (hF : cases_Copy k v0 v1 = some (v2, v3)) :
  FCall Try.prog 40 [AV.agg [AV.lst false false (List.map (AV.int .i64) v0), AV.lst false false (List.map api_Pin.av v1)]] [] (AV.agg [AV.lst false false (List.map (AV.int .i64) v2), AV.lst false false (List.map api_Pin.av v3)]) [] := by
 unfold cases_Copy at hF
 refine EN Try.func40 ?_
 intro c0 w0 Q h0 hQ
 refine WK [(0, AV.agg [Lz v0, AV.lst false false (List.map api_Pin.av v1)])] [] 0 (by simp) (by simp) ?_
 refine SQ [] [none, none] fun _ _ g r => ?_
 try simp
 and_intros <;> first | exact g _ (by kernel_rfl) | refine r _ _ _ ?_ | omega | (simp [maxLen] <;> omega)
 refine WK [(1, AV.ptr 0 0), (2, AV.ptr 1 0)] [(0, .cells [Lz v0, AV.lst false false (List.map api_Pin.av v1)]), (1, .cells [AV.lst true true (List.map (AV.int .i64) ([] : List Int)), AV.lst true true (List.map api_Pin.av ([] : List api_Pin))])] 2 (by simp) (by simp) ?_
 refine SQ [5, 8] [none, none, none, none, none, none, none, none] fun _ _ g r => ?_
 obtain ⟨h1, hF⟩ := chk_elim hF
 have h1_ := h1
 try simp at h1_
 obtain ⟨h2, hF⟩ := chk_elim hF
 have h2_ := h2
 try simp at h2_
 try simp [h1, h2]
 and_intros <;> first | exact g _ (by kernel_rfl) | refine r _ _ _ ?_ | omega | (simp [h1, h2, maxLen] <;> omega)
 refine WK [(2, AV.ptr 1 0)] [(1, .cells [AV.slc 2 0 1 v0.length false, AV.slc 3 0 3 v1.length false]), (2, .grow (List.map (AV.int .i64) v0)), (3, .grow (flatA (List.map api_Pin.av v1)))] 4 (by simp [h1, h2]) (by simp [h1, h2]) ?_
 refine AW.frz 2 (o := .grow (List.map (AV.int .i64) v0)) (by simp [h1, h2]) rfl [] [(1, .cells [Lz v0, AV.slc 3 0 3 v1.length false])] trivial ⟨⟨by simp, AObj.cells [AV.slc 2 0 1 v0.length false, AV.slc 3 0 3 v1.length false], by simp [h1, h2], (.mk (.cons (.l (by simp) (by simp) (by simp) (by simp)) (.cons (.same _) .nil)))⟩, trivial⟩ ?_
 refine AW.frz 3 (o := .grow (flatA (List.map api_Pin.av v1))) (by simp [h1, h2]) rfl [] [(1, .cells [Lz v0, AV.lst false false (List.map api_Pin.av v1)])] trivial ⟨⟨by simp, AObj.cells [Lz v0, AV.slc 3 0 3 v1.length false], by simp [h1, h2], (.mk (.cons (.same _) (.cons (.l (by simp) (by simp) (by simp) (by simp)) .nil)))⟩, trivial⟩ ?_
 refine RM h0 [(0, 1)] [(2, AV.ptr 0 0)] [(0, .cells [Lz v0, AV.lst false false (List.map api_Pin.av v1)])] 1 (by simp [h1, h2]) (by simp [h1, h2]) ?_
 simp only [Option.some.injEq, Prod.mk.injEq] at hF
 obtain ⟨e0, e1⟩ := hF
 subst e0 e1
 refine AW.ret (hQ _ _ _ ?_ (matchO_0 ?_)).1
 ·simp [Try.f40, h1, h2]
 ·simp [h1, h2]
theorem w_cases_Code (k : Nat) (v0 : Int) (v1 : Int) (v2 : Int) (v3 : Int) (v4 : Int) (hF : cases_Code k v0 v1 v2 v3 = some v4) :
  FCall Try.prog 26 [AV.agg [AV.int .i64 v0, AV.int .i64 v1, AV.int .i64 v2, AV.int .i64 v3]] [] (AV.int .i64 v4) [] := by
 unfold cases_Code at hF
 refine EN Try.func26 ?_
 intro c0 w0 Q h0 hQ
 refine WK [(0, AV.agg [Iz v0, Iz v1, Iz v2, Iz v3])] [] 0 (by simp) (by simp) ?_
 refine SQ [] [none, none] fun _ _ g r => ?_
 try simp
 and_intros <;> first | exact g _ (by kernel_rfl) | refine r _ _ _ ?_ | omega | (simp [maxLen] <;> omega)
 refine WK [(1, AV.ptr 0 0)] [(0, .cells [Iz v0, Iz v1, Iz v2, Iz v3])] 1 (by simp) (by simp) ?_
 refine AW.seq fun K11 hK11 => ?_
 refine SQ [] [none, none, none] fun _ _ g r => ?_
 try simp
 and_intros
 try any_goals first | omega | (simp [maxLen] <;> omega)
 obtain ⟨v5, h1, hF⟩ := bnd1_elim hF
 refine AC (w_cases_Valid k _ _ _ _ _ h1) (.cons (.same (by simp)) .nil) ?_
 try simp
 and_intros <;> first | exact g _ (by kernel_rfl) | refine r _ _ _ ?_ | omega | (simp [maxLen] <;> omega)
 refine WK [(1, AV.ptr 0 0), (5, AV.bool (!v5))] [(0, .cells [Iz v0, Iz v1, Iz v2, Iz v3])] 1 (by simp) (by simp) ?_
 by_cases h2 : (!v5) = true
 ·replace hF := ite_t h2 hF
  have h2_ := h2
  try simp at h2_
  refine CT (by simp [h2, h2_] <;> omega) ?_
  refine SQ [] [none] fun _ _ g r => ?_
  try simp [h2, h2_]
  and_intros <;> first | exact g _ (by kernel_rfl) | refine r _ _ _ ?_ | omega | (simp [h2, h2_, maxLen] <;> omega)
  refine WK [(2, Iz 0)] [] 1 (by simp [h2, h2_]) (by simp [h2, h2_]) ?_
  simp only [Option.some.injEq] at hF
  subst hF
  refine AW.ret (hQ _ _ _ ?_ (matchO_0 ?_)).1
  ·simp [Try.f26, h2, h2_]
  ·simp [h2, h2_]
 ·replace hF := ite_f h2 hF
  have h2_ := h2
  try simp at h2_
  refine CF (by simp [h2, h2_] <;> omega) ?_
  refine AW.skip ?_
  refine hK11 _ _ _ ?_
  refine SQ [] [none, none, none, none, none, none, none] fun _ _ g r => ?_
  try simp [h2, h2_]
  and_intros <;> first | exact g _ (by kernel_rfl) | refine r _ _ _ ?_ | omega | (simp [h2, h2_, maxLen] <;> omega)
  refine WK [(2, Iz (IntKind.wrap .i64 (v1 + IntKind.wrap .i64 (16 * v3))))] [] 1 (by simp [h2, h2_]) (by simp [h2, h2_]) ?_
  simp only [Option.some.injEq] at hF
  subst hF
  refine AW.ret (hQ _ _ _ ?_ (matchO_0 ?_)).1
  ·simp [Try.f26, h2, h2_]
  ·simp [h2, h2_]
abbrev c_cases_Draft  : AObj := .cells [Iz 0, Iz 0, Iz 0, Iz 0, AV.lst true true (List.map (AV.int .i64) ([] : List Int)), AV.lst true true (List.map api_Pin.av ([] : List api_Pin))]
abbrev c_cases_Draft1  : AObj := .cells [Iz 0, Iz 0, Iz 0, Iz 0, Lz ([] : List Int), AV.lst false false (List.map api_Pin.av ([] : List api_Pin))]
theorem w_cases_Draft (k : Nat) (v0 : Int) (v1 : Int) (v2 : Int) (v3 : Int) (v4 : (List Int)) (v5 : (List api_Pin)) (v6 : Int) (v7 : Int) (v8 : Int) (v9 : Int) (v10 : (List Int)) (v11 : (List api_Pin)) (v12 : Int) (hF : cases_Draft k v0 v1 v2 v3 v4 v5 = some (v6, v7, v8, v9, v10, v11, v12)) :
  FCall Try.prog 21 [AV.agg [AV.int .i64 v0, AV.int .i64 v1, AV.int .i64 v2, AV.int .i64 v3], AV.agg [AV.lst false false (List.map (AV.int .i64) v4), AV.lst false false (List.map api_Pin.av v5)]] [] (AV.tup [AV.agg [AV.int .i64 v6, AV.int .i64 v7, AV.int .i64 v8, AV.int .i64 v9, AV.lst false false (List.map (AV.int .i64) v10), AV.lst false false (List.map api_Pin.av v11)], AV.int .i64 v12]) [] := by
 unfold cases_Draft at hF
 refine EN Try.func21 ?_
 intro c0 w0 Q h0 hQ
 refine WK [(0, AV.agg [Iz v0, Iz v1, Iz v2, Iz v3]), (1, AV.agg [Lz v4, AV.lst false false (List.map api_Pin.av v5)])] [] 0 (by simp) (by simp) ?_
 refine SQ [] [none, none, none, none] fun _ _ g r => ?_
 try simp
 and_intros <;> first | exact g _ (by kernel_rfl) | refine r _ _ _ ?_ | omega | (simp [maxLen] <;> omega)
 refine WK [(2, AV.ptr 0 0), (3, AV.ptr 1 0), (4, AV.ptr 2 0)] [(0, .cells [Iz v0, Iz v1, Iz v2, Iz v3]), (1, .cells [Lz v4, AV.lst false false (List.map api_Pin.av v5)]), (2, c_cases_Draft )] 3 (by simp) (by simp) ?_
 refine AW.seq fun K18 hK18 => ?_
 refine AW.block ?_
 refine SQ [] [none, none, none, none] fun _ _ g r => ?_
 try simp
 and_intros
 try any_goals first | omega | (simp [maxLen] <;> omega)
 obtain ⟨v13, h1, hF⟩ := bnd1_elim hF
 refine AC (w_cases_Valid k _ _ _ _ _ h1) (.cons (.same (by simp)) .nil) ?_
 try simp
 and_intros <;> first | exact g _ (by kernel_rfl) | refine r _ _ _ ?_ | omega | (simp [maxLen] <;> omega)
 refine WK [(2, AV.ptr 0 0), (3, AV.ptr 1 0), (4, AV.ptr 2 0), (6, AV.bool (!v13))] [(0, .cells [Iz v0, Iz v1, Iz v2, Iz v3]), (1, .cells [Lz v4, AV.lst false false (List.map api_Pin.av v5)]), (2, c_cases_Draft )] 3 (by simp) (by simp) ?_
 by_cases h2 : (!v13) = true
 ·replace hF := ite_t h2 hF
  have h2_ := h2
  try simp at h2_
  refine CT (by simp [h2, h2_] <;> omega) ?_
  refine SQ [] [none, none, none] fun _ _ g r => ?_
  try simp [h2, h2_]
  and_intros <;> first | exact g _ (by kernel_rfl) | refine r _ _ _ ?_ | omega | (simp [h2, h2_, maxLen] <;> omega)
  refine RM h0 [(0, 2)] [(4, AV.ptr 0 0), (5, Iz 41)] [(0, c_cases_Draft )] 1 (by simp [h2, h2_]) (by simp [h2, h2_]) ?_
  refine AW.flg [] [(0, c_cases_Draft1 )] trivial ⟨⟨(c_cases_Draft ), by simp [h2, h2_], (.mk (.cons (.same _) (.cons (.same _) (.cons (.same _) (.cons (.same _) (.cons (.lst (by simp)) (.cons (.lst (by simp)) .nil)))))))⟩, trivial⟩ (by simp) ?_
  simp only [Option.some.injEq, Prod.mk.injEq] at hF
  obtain ⟨e0, e1, e2, e3, e4, e5, e6⟩ := hF
  subst e0 e1 e2 e3 e4 e5 e6
  refine AW.ret (hQ _ _ _ ?_ (matchO_0 ?_)).1
  ·simp [Try.f21, h2, h2_]
  ·simp [h2, h2_]
 ·replace hF := ite_f h2 hF
  have h2_ := h2
  try simp at h2_
  refine CF (by simp [h2, h2_] <;> omega) ?_
  refine SQ [] [none, none, none, none, none] fun _ _ g r => ?_
  try simp [h2, h2_]
  and_intros
  try any_goals first | omega | (simp [h2, h2_, maxLen] <;> omega)
  obtain ⟨v14, h3, hF⟩ := bnd1_elim hF
  refine AC (w_cases_Right k _ _ _ _ _ _ _ h3) (.cons (.same (by simp [h2, h2_])) (.cons (.same (by simp [h2, h2_])) .nil)) ?_
  try simp [h2, h2_]
  and_intros <;> first | exact g _ (by kernel_rfl) | refine r _ _ _ ?_ | omega | (simp [h2, h2_, maxLen] <;> omega)
  refine WK [(2, AV.ptr 0 0), (3, AV.ptr 1 0), (4, AV.ptr 2 0), (11, AV.bool (!v14))] [(0, .cells [Iz v0, Iz v1, Iz v2, Iz v3]), (1, .cells [Lz v4, AV.lst false false (List.map api_Pin.av v5)]), (2, c_cases_Draft )] 3 (by simp [h2, h2_]) (by simp [h2, h2_]) ?_
  by_cases h4 : (!v14) = true
  ·replace hF := ite_t h4 hF
   have h4_ := h4
   try simp at h4_
   have F1 := And.intro h2 (And.intro h2_ (And.intro h4 h4_))
   refine CT (by simp [F1] <;> omega) ?_
   refine SQ [] [none, none, none] fun _ _ g r => ?_
   try simp [F1]
   and_intros <;> first | exact g _ (by kernel_rfl) | refine r _ _ _ ?_ | omega | (simp [maxLen, F1] <;> omega)
   refine RM h0 [(0, 2)] [(4, AV.ptr 0 0), (5, Iz 42)] [(0, c_cases_Draft )] 1 (by simp [F1]) (by simp [F1]) ?_
   refine AW.flg [] [(0, c_cases_Draft1 )] trivial ⟨⟨(c_cases_Draft ), by simp [F1], (.mk (.cons (.same _) (.cons (.same _) (.cons (.same _) (.cons (.same _) (.cons (.lst (by simp)) (.cons (.lst (by simp)) .nil)))))))⟩, trivial⟩ (by simp) ?_
   simp only [Option.some.injEq, Prod.mk.injEq] at hF
   obtain ⟨e0, e1, e2, e3, e4, e5, e6⟩ := hF
   subst e0 e1 e2 e3 e4 e5 e6
   refine AW.ret (hQ _ _ _ ?_ (matchO_0 ?_)).1
   ·simp [Try.f21, F1]
   ·simp [F1]
  ·replace hF := ite_f h4 hF
   have h4_ := h4
   try simp at h4_
   have F2 := And.intro h2 (And.intro h2_ (And.intro h4 h4_))
   refine CF (by simp [F2] <;> omega) ?_
   refine AW.skip ?_
   refine hK18 _ _ _ ?_
   refine SQ [] [none, none, none] fun _ _ g r => ?_
   try simp [F2]
   and_intros
   try any_goals first | omega | (simp [maxLen, F2] <;> omega)
   obtain ⟨v15, v16, h5, hF⟩ := bnd2_elim hF
   refine AC (w_cases_Copy k _ _ _ _ h5) (.cons (.same (by simp [F2])) .nil) ?_
   try simp [F2]
   and_intros <;> first | exact g _ (by kernel_rfl) | refine r _ _ _ ?_ | omega | (simp [maxLen, F2] <;> omega)
   refine WK [(2, AV.ptr 0 0), (3, AV.ptr 1 0), (4, AV.ptr 2 0)] [(0, .cells [Iz v0, Iz v1, Iz v2, Iz v3]), (1, .cells [Lz v15, AV.lst false false (List.map api_Pin.av v16)]), (2, c_cases_Draft )] 3 (by simp [F2]) (by simp [F2]) ?_
   refine SQ [] [none, none, none, none, none, none, none, none, none, none, none, none, none] fun _ _ g r => ?_
   try simp [F2]
   and_intros
   try any_goals first | omega | (simp [maxLen, F2] <;> omega)
   obtain ⟨v17, h6, hF⟩ := bnd1_elim hF
   refine AC (w_cases_Code k _ _ _ _ _ h6) (.cons (.same (by simp [F2])) .nil) ?_
   try simp [F2]
   and_intros <;> first | exact g _ (by kernel_rfl) | refine r _ _ _ ?_ | omega | (simp [maxLen, F2] <;> omega)
   refine RM h0 [(0, 2)] [(4, AV.ptr 0 0), (5, Iz 0)] [(0, .cells [Iz 10, Iz v0, Iz v17, Iz v2, Lz v15, AV.lst false false (List.map api_Pin.av v16)])] 1 (by simp [F2]) (by simp [F2]) ?_
   simp only [Option.some.injEq, Prod.mk.injEq] at hF
   obtain ⟨e0, e1, e2, e3, e4, e5, e6⟩ := hF
   subst e0 e1 e2 e3 e4 e5 e6
   refine AW.ret (hQ _ _ _ ?_ (matchO_0 ?_)).1
   ·simp [Try.f21, F2]
   ·simp [F2]
abbrev c_ref03_Copy (v0 : Int) (v1 : Int) (v2 : ByteArray) (v3 : Int) (v4 : Int) (v5 : Int) (v6 : Int) (v7 : Int) (v8 : (List Int)) (v9 : (List api_Pin)) (v10 : ByteArray) (v11 : Int) (v12 : ByteArray) : AObj := .cells [Iz v0, Iz v1, AV.str v2, Iz v3, Iz v4, Iz v5, Iz v6, Iz v7, Lz v8, AV.lst false false (List.map api_Pin.av v9), AV.str v10, Iz v11, AV.str v12]
abbrev c_ref03_Copy1  : AObj := .cells [Iz 0, Iz 0, AV.str (ByteArray.mk #[]), Iz 0, Iz 0, Iz 0, Iz 0, Iz 0, AV.lst true true (List.map (AV.int .i64) ([] : List Int)), AV.lst true true (List.map api_Pin.av ([] : List api_Pin)), AV.str (ByteArray.mk #[]), Iz 0, AV.str (ByteArray.mk #[])]
theorem w_ref03_Copy (k : Nat) (v0 : Int) (v1 : Int) (v2 : ByteArray) (v3 : Int) (v4 : Int) (v5 : Int) (v6 : Int) (v7 : Int) (v8 : (List Int)) (v9 : (List api_Pin)) (v10 : ByteArray) (v11 : Int) (v12 : ByteArray) (v13 : api_Statement) (hF : ref03_Copy k v0 v1 v2 v3 v4 v5 v6 v7 v8 v9 v10 v11 v12 = some v13) :
  FCall Try.prog 63 [AV.agg [AV.int .i64 v0, AV.int .i64 v1, AV.str v2, AV.int .i64 v3, AV.int .i64 v4, AV.int .i64 v5, AV.int .i64 v6, AV.int .i64 v7, AV.lst false false (List.map (AV.int .i64) v8), AV.lst false false (List.map api_Pin.av v9), AV.str v10, AV.int .i64 v11, AV.str v12]] [] (AV.agg [AV.int .i64 v13.Author, AV.int .i64 v13.Number, AV.str v13.Prev, AV.int .i64 v13.Time, AV.int .i64 v13.Kind, AV.int .i64 v13.A, AV.int .i64 v13.B, AV.int .i64 v13.C, AV.lst false false (List.map (AV.int .i64) v13.Lst), AV.lst false false (List.map api_Pin.av v13.Pins), AV.str v13.Body, AV.int .i64 v13.Seal_Key, AV.str v13.Seal_Digest]) [] := by
 unfold ref03_Copy at hF
 refine EN Try.func63 ?_
 intro c0 w0 Q h0 hQ
 refine WK [(0, AV.agg [Iz v0, Iz v1, AV.str v2, Iz v3, Iz v4, Iz v5, Iz v6, Iz v7, Lz v8, AV.lst false false (List.map api_Pin.av v9), AV.str v10, Iz v11, AV.str v12])] [] 0 (by simp) (by simp) ?_
 refine SQ [] [none, none] fun _ _ g r => ?_
 try simp
 and_intros <;> first | exact g _ (by kernel_rfl) | refine r _ _ _ ?_ | omega | (simp [maxLen] <;> omega)
 refine WK [(1, AV.ptr 0 0), (2, AV.ptr 1 0)] [(0, c_ref03_Copy v0 v1 v2 v3 v4 v5 v6 v7 v8 v9 v10 v11 v12), (1, c_ref03_Copy1 )] 2 (by simp) (by simp) ?_
 refine SQ [5] [none, none, none, none, none] fun _ _ g r => ?_
 obtain ⟨h1, hF⟩ := chk_elim hF
 have h1_ := h1
 try simp at h1_
 try simp [h1]
 and_intros <;> first | exact g _ (by kernel_rfl) | refine r _ _ _ ?_ | omega | (simp [h1, maxLen] <;> omega)
 refine WK [(1, AV.ptr 0 0), (2, AV.ptr 1 0)] [(0, .cells [Iz v0, Iz v1, AV.str v2, Iz v3, Iz v4, Iz v5, Iz v6, Iz v7, AV.slc 2 0 1 v8.length false, AV.lst false false (List.map api_Pin.av v9), AV.str v10, Iz v11, AV.str v12]), (1, c_ref03_Copy1 ), (2, .grow (List.map (AV.int .i64) v8))] 3 (by simp [h1]) (by simp [h1]) ?_
 refine AW.frz 2 (o := .grow (List.map (AV.int .i64) v8)) (by simp [h1]) rfl [] [(0, c_ref03_Copy v0 v1 v2 v3 v4 v5 v6 v7 v8 v9 v10 v11 v12)] trivial ⟨⟨by simp, AObj.cells [Iz v0, Iz v1, AV.str v2, Iz v3, Iz v4, Iz v5, Iz v6, Iz v7, AV.slc 2 0 1 v8.length false, AV.lst false false (List.map api_Pin.av v9), AV.str v10, Iz v11, AV.str v12], by simp [h1], (.mk (.cons (.same _) (.cons (.same _) (.cons (.same _) (.cons (.same _) (.cons (.same _) (.cons (.same _) (.cons (.same _) (.cons (.same _) (.cons (.l (by simp) (by simp) (by simp) (by simp)) (.cons (.same _) (.cons (.same _) (.cons (.same _) (.cons (.same _) .nil))))))))))))))⟩, trivial⟩ ?_
 refine WK [(1, AV.ptr 0 0), (2, AV.ptr 1 0)] [(0, c_ref03_Copy v0 v1 v2 v3 v4 v5 v6 v7 v8 v9 v10 v11 v12), (1, c_ref03_Copy1 )] 3 (by simp [h1]) (by simp [h1]) ?_
 refine SQ [9] [none, none, none, none, none] fun _ _ g r => ?_
 obtain ⟨h2, hF⟩ := chk_elim hF
 have h2_ := h2
 try simp at h2_
 try simp [h1, h2]
 and_intros <;> first | exact g _ (by kernel_rfl) | refine r _ _ _ ?_ | omega | (simp [h1, h2, maxLen] <;> omega)
 refine WK [(1, AV.ptr 0 0), (2, AV.ptr 1 0)] [(0, .cells [Iz v0, Iz v1, AV.str v2, Iz v3, Iz v4, Iz v5, Iz v6, Iz v7, Lz v8, AV.slc 3 0 3 v9.length false, AV.str v10, Iz v11, AV.str v12]), (1, c_ref03_Copy1 ), (3, .grow (flatA (List.map api_Pin.av v9)))] 4 (by simp [h1, h2]) (by simp [h1, h2]) ?_
 refine AW.frz 3 (o := .grow (flatA (List.map api_Pin.av v9))) (by simp [h1, h2]) rfl [] [(0, c_ref03_Copy v0 v1 v2 v3 v4 v5 v6 v7 v8 v9 v10 v11 v12)] trivial ⟨⟨by simp, AObj.cells [Iz v0, Iz v1, AV.str v2, Iz v3, Iz v4, Iz v5, Iz v6, Iz v7, Lz v8, AV.slc 3 0 3 v9.length false, AV.str v10, Iz v11, AV.str v12], by simp [h1, h2], (.mk (.cons (.same _) (.cons (.same _) (.cons (.same _) (.cons (.same _) (.cons (.same _) (.cons (.same _) (.cons (.same _) (.cons (.same _) (.cons (.same _) (.cons (.l (by simp) (by simp) (by simp) (by simp)) (.cons (.same _) (.cons (.same _) (.cons (.same _) .nil))))))))))))))⟩, trivial⟩ ?_
 refine WK [(1, AV.ptr 0 0), (2, AV.ptr 1 0)] [(0, c_ref03_Copy v0 v1 v2 v3 v4 v5 v6 v7 v8 v9 v10 v11 v12), (1, c_ref03_Copy1 )] 4 (by simp [h1, h2]) (by simp [h1, h2]) ?_
 refine SQ [] [none, none] fun _ _ g r => ?_
 try simp [h1, h2]
 and_intros <;> first | exact g _ (by kernel_rfl) | refine r _ _ _ ?_ | omega | (simp [h1, h2, maxLen] <;> omega)
 refine RM h0 [(0, 1)] [(2, AV.ptr 0 0)] [(0, c_ref03_Copy v0 v1 v2 v3 v4 v5 v6 v7 v8 v9 v10 v11 v12)] 1 (by simp [h1, h2]) (by simp [h1, h2]) ?_
 simp only [Option.some.injEq] at hF
 subst hF
 refine AW.ret (hQ _ _ _ ?_ (matchO_0 ?_)).1
 ·simp [Try.f63, h1, h2]
 ·simp [h1, h2]
theorem w_ref02_Int (k : Nat) (v0 : (List Int)) (v1 : Int) (v2 : (List Int)) (hF : ref02_Int k v0 v1 = some v2) :
  FCall Try.prog 71 [AV.lst false false (List.map (AV.int .u8) v0), AV.int .i64 v1] [] (AV.slc 0 0 1 v2.length false) [some (.grow (List.map (AV.int .u8) v2))] := by
 unfold ref02_Int at hF
 refine EN Try.func71 ?_
 intro c0 w0 Q h0 hQ
 refine WK [(0, Lb v0), (1, Iz v1)] [] 0 (by simp) (by simp) ?_
 refine SQ [] [none] fun _ _ g r => ?_
 try simp
 and_intros <;> first | exact g _ (by kernel_rfl) | refine r _ _ _ ?_ | omega | (simp [maxLen] <;> omega)
 refine WK [(0, Lb v0), (1, Iz v1)] [] 0 (by simp) (by simp) ?_
 refine SQ [8] [none, none, none] fun _ _ g r => ?_
 obtain ⟨h1, hF⟩ := chk_elim hF
 have h1_ := h1
 try simp at h1_
 try simp [h1]
 and_intros <;> first | exact g _ (by kernel_rfl) | refine r _ _ _ ?_ | omega | (simp [h1, maxLen] <;> omega)
 refine WK [(1, Iz v1), (5, AV.slc 0 0 1 v0.length false)] [(0, .grow (List.map (AV.int .u8) v0))] 1 (by simp [h1]) (by simp [h1]) ?_
 refine AW.seq fun K97 hK97 => ?_
 refine SQ [] [none] fun _ _ g r => ?_
 try simp [h1]
 and_intros <;> first | exact g _ (by kernel_rfl) | refine r _ _ _ ?_ | omega | (simp [h1, maxLen] <;> omega)
 refine WK [(1, Iz v1), (5, AV.slc 0 0 1 v0.length false), (6, Iz 7)] [(0, .grow (List.map (AV.int .u8) v0))] 1 (by simp [h1]) (by simp [h1]) ?_
 refine AW.block ?_
 refine AW.loopF (α := (Int × (List Int))) (fun n (v3, v4) => ref02_Int.L1 k v1 n v3 v4 = some v2) (fun (v3, v4) => [(1, Iz v1), (5, AV.slc 0 0 1 v4.length false), (6, Iz v3)]) (fun (v3, v4) => [(0, .grow (List.map (AV.int .u8) v4))]) 1 k ((7, v0)) hF (by simp [h1]) (by simp [h1]) (by simp) ?_
 rintro (_|n1) ⟨v3, v4⟩ hF K120 hK120
 ·try dsimp only at hF
  rw [ref02_Int.L1] at hF; cases hF
 try dsimp only at hF
 rw [ref02_Int.L1] at hF
 refine AW.seq fun K122 hK122 => ?_
 refine SQ [] [none, none] fun _ _ g r => ?_
 try simp [h1]
 and_intros <;> first | exact g _ (by kernel_rfl) | refine r _ _ _ ?_ | omega | (simp [h1, maxLen] <;> omega)
 refine WK [(1, Iz v1), (5, AV.slc 0 0 1 v4.length false), (6, Iz v3), (10, AV.bool (decide (0 ≤ v3)))] [(0, .grow (List.map (AV.int .u8) v4))] 1 (by simp [h1]) (by simp [h1]) ?_
 by_cases h2 : 0 ≤ v3
 ·replace hF := ite_t h2 hF
  have h2_ := h2
  try simp at h2_
  have F1 := And.intro h1 (And.intro h2 h2_)
  refine CT (by simp [F1] <;> omega) ?_
  refine AW.skip ?_
  refine hK122 _ _ _ ?_
  refine AW.seq fun K125 hK125 => ?_
  refine AW.block ?_
  refine RG [] [none, none, none, none, none, none, none, none, none, none] fun _ _ g r => ?_
  obtain ⟨h3, hF⟩ := chk_elim hF
  obtain ⟨h4, hF⟩ := chk_elim hF
  have h4_ := h4
  try simp at h4_
  have F2 := And.intro F1 (And.intro h3 h4)
  try simp [F2]
  and_intros <;> first | exact g _ (by kernel_rfl) | refine r _ _ _ ?_ | omega | (simp [maxLen, F2] <;> omega)
  refine hK125 _ _ _ ?_
  refine WK [(1, Iz v1), (5, AV.slc 1 0 1 ((v4 ++ ([IntKind.wrap .u8 (Int.fdiv v1 (2 ^ (min ((IntKind.wrap .u64 (IntKind.wrap .i64 (8 * v3))).toNat) 64)))] : List Int)).length) false), (6, Iz v3)] [(1, .grow (List.map (AV.int .u8) (v4 ++ ([IntKind.wrap .u8 (Int.fdiv v1 (2 ^ (min ((IntKind.wrap .u64 (IntKind.wrap .i64 (8 * v3))).toNat) 64)))] : List Int))))] 2 (by simp [F2] <;> omega) (by simp [F2]) ?_
  refine RG [] [none, none, none] fun _ _ g r => ?_
  try simp [F2]
  and_intros <;> first | exact g _ (by kernel_rfl) | refine r _ _ _ ?_ | omega | (simp [maxLen, F2] <;> omega)
  refine hK120 _ _ _ ?_
  refine RN h0 [(0, 1)] [(1, Iz v1), (5, AV.slc 0 0 1 ((v4 ++ ([IntKind.wrap .u8 (Int.fdiv v1 (2 ^ (min ((IntKind.wrap .u64 (IntKind.wrap .i64 (8 * v3))).toNat) 64)))] : List Int)).length) false), (6, Iz (IntKind.wrap .i64 (v3 - 1)))] [(0, .grow (List.map (AV.int .u8) (v4 ++ ([IntKind.wrap .u8 (Int.fdiv v1 (2 ^ (min ((IntKind.wrap .u64 (IntKind.wrap .i64 (8 * v3))).toNat) 64)))] : List Int))))] 1 (by simp [F2] <;> omega) (by simp [F2]) ?_
  exact NX (k' := n1) ((IntKind.wrap .i64 (v3 - 1), v4 ++ ([IntKind.wrap .u8 (Int.fdiv v1 (2 ^ (min ((IntKind.wrap .u64 (IntKind.wrap .i64 (8 * v3))).toNat) 64)))] : List Int))) hF (by simp [F2]) (by simp [F2])
 ·replace hF := ite_f h2 hF
  have h2_ := h2
  try simp at h2_
  have F3 := And.intro h1 (And.intro h2 h2_)
  refine CF (by simp [F3] <;> omega) ?_
  refine AW.exit ?_
  try simp
  refine hK97 _ _ _ ?_
  refine SQ [] [none, none] fun _ _ g r => ?_
  try simp [F3]
  and_intros <;> first | exact g _ (by kernel_rfl) | refine r _ _ _ ?_ | omega | (simp [maxLen, F3] <;> omega)
  refine WK [(4, AV.slc 0 0 1 v4.length false)] [(0, .grow (List.map (AV.int .u8) v4))] 1 (by simp [F3]) (by simp [F3]) ?_
  simp only [Option.some.injEq] at hF
  subst hF
  refine AW.ret (hQ _ _ _ ?_ (matchO_0 ?_)).1
  ·simp [Try.f71, F3]
  ·simp [F3]
theorem w_ref02_Text (k : Nat) (v0 : (List Int)) (v1 : ByteArray) (v2 : (List Int)) (hF : ref02_Text k v0 v1 = some v2) :
  FCall Try.prog 70 [AV.lst false false (List.map (AV.int .u8) v0), AV.str v1] [] (AV.slc 0 0 1 v2.length false) [some (.grow (List.map (AV.int .u8) v2))] := by
 unfold ref02_Text at hF
 refine EN Try.func70 ?_
 intro c0 w0 Q h0 hQ
 refine WK [(0, Lb v0), (1, AV.str v1)] [] 0 (by simp) (by simp) ?_
 refine SQ [] [none] fun _ _ g r => ?_
 try simp
 and_intros <;> first | exact g _ (by kernel_rfl) | refine r _ _ _ ?_ | omega | (simp [maxLen] <;> omega)
 refine WK [(0, Lb v0), (1, AV.str v1)] [] 0 (by simp) (by simp) ?_
 refine SQ [] [none, none, none, none, none, none, none] fun _ _ g r => ?_
 try simp
 and_intros
 try any_goals first | omega | (simp [maxLen] <;> omega)
 obtain ⟨v3, h1, hF⟩ := bnd1_elim hF
 refine AC (w_ref02_Int k _ _ _ h1) (.cons (.same (by simp)) (.cons (.same (by simp)) .nil)) ?_
 obtain ⟨h2, hF⟩ := chk_elim hF
 have h2_ := h2
 try simp at h2_
 try simp [h2]
 and_intros <;> first | exact g _ (by kernel_rfl) | refine r _ _ _ ?_ | omega | (simp [h2, maxLen] <;> omega)
 refine RM h0 [(0, 1)] [(4, AV.slc 0 0 1 ((v3 ++ (bI v1)).length) false)] [(0, .grow (List.map (AV.int .u8) (v3 ++ (bI v1))))] 1 (by simp [h2] <;> omega) (by simp [h2]) ?_
 simp only [Option.some.injEq] at hF
 subst hF
 refine AW.ret (hQ _ _ _ ?_ (matchO_0 ?_)).1
 ·simp [Try.f70, h2]
 ·simp [h2]
theorem w_ref02_Ints (k : Nat) (v0 : (List Int)) (v1 : (List Int)) (v2 : (List Int)) (hF : ref02_Ints k v0 v1 = some v2) :
  FCall Try.prog 72 [AV.lst false false (List.map (AV.int .u8) v0), AV.lst false false (List.map (AV.int .i64) v1)] [] (AV.slc 0 0 1 v2.length false) [some (.grow (List.map (AV.int .u8) v2))] := by
 unfold ref02_Ints at hF
 refine EN Try.func72 ?_
 intro c0 w0 Q h0 hQ
 refine WK [(0, Lb v0), (1, Lz v1)] [] 0 (by simp) (by simp) ?_
 refine SQ [] [none] fun _ _ g r => ?_
 try simp
 and_intros <;> first | exact g _ (by kernel_rfl) | refine r _ _ _ ?_ | omega | (simp [maxLen] <;> omega)
 refine WK [(0, Lb v0), (1, Lz v1)] [] 0 (by simp) (by simp) ?_
 refine SQ [] [none, none, none, none, none] fun _ _ g r => ?_
 try simp
 and_intros
 try any_goals first | omega | (simp [maxLen] <;> omega)
 obtain ⟨v3, h1, hF⟩ := bnd1_elim hF
 refine AC (w_ref02_Int k _ _ _ h1) (.cons (.same (by simp)) (.cons (.same (by simp)) .nil)) ?_
 try simp
 and_intros <;> first | exact g _ (by kernel_rfl) | refine r _ _ _ ?_ | omega | (simp [maxLen] <;> omega)
 refine WK [(1, Lz v1), (5, AV.slc 0 0 1 v3.length false)] [(0, .grow (List.map (AV.int .u8) v3))] 1 (by simp) (by simp) ?_
 refine AW.seq fun K97 hK97 => ?_
 refine SQ [] [none] fun _ _ g r => ?_
 try simp
 and_intros <;> first | exact g _ (by kernel_rfl) | refine r _ _ _ ?_ | omega | (simp [maxLen] <;> omega)
 refine WK [(1, Lz v1), (5, AV.slc 0 0 1 v3.length false), (6, Iz 0)] [(0, .grow (List.map (AV.int .u8) v3))] 1 (by simp) (by simp) ?_
 refine AW.block ?_
 refine AW.loopF (α := (Int × (List Int))) (fun n (v4, v5) => ref02_Ints.L1 k v1 n v4 v5 = some v2) (fun (v4, v5) => [(1, Lz v1), (5, AV.slc 0 0 1 v5.length false), (6, Iz v4)]) (fun (v4, v5) => [(0, .grow (List.map (AV.int .u8) v5))]) 1 k ((0, v3)) hF (by simp) (by simp) (by simp) ?_
 rintro (_|n1) ⟨v4, v5⟩ hF K120 hK120
 ·try dsimp only at hF
  rw [ref02_Ints.L1] at hF; cases hF
 try dsimp only at hF
 rw [ref02_Ints.L1] at hF
 refine AW.seq fun K122 hK122 => ?_
 refine SQ [] [none, none, none, none] fun _ _ g r => ?_
 try simp
 and_intros <;> first | exact g _ (by kernel_rfl) | refine r _ _ _ ?_ | omega | (simp [maxLen] <;> omega)
 refine WK [(1, Lz v1), (5, AV.slc 0 0 1 v5.length false), (6, Iz v4), (14, AV.bool (decide (v4 < (v1.length : Int))))] [(0, .grow (List.map (AV.int .u8) v5))] 1 (by simp) (by simp) ?_
 by_cases h2 : v4 < (v1.length : Int)
 ·replace hF := ite_t h2 hF
  have h2_ := h2
  try simp at h2_
  refine CT (by simp [h2, h2_] <;> omega) ?_
  refine AW.skip ?_
  refine hK122 _ _ _ ?_
  refine WK [(1, Lz v1), (5, AV.slc 0 0 1 v5.length false), (6, Iz v4)] [(0, .grow (List.map (AV.int .u8) v5))] 1 (by simp [h2, h2_]) (by simp [h2, h2_]) ?_
  refine AW.frz 0 (o := .grow (List.map (AV.int .u8) v5)) (by simp [h2, h2_]) rfl [(5, Lb v5)] [] ⟨(.l (by simp) (by simp) (by simp) (by simp)), trivial⟩ trivial ?_
  refine WK [(1, Lz v1), (5, Lb v5), (6, Iz v4)] [] 1 (by simp [h2, h2_]) (by simp [h2, h2_]) ?_
  refine AW.seq fun K125 hK125 => ?_
  refine AW.block ?_
  refine RG [] [none, none, none, none, none, none, none] fun _ _ g r => ?_
  obtain ⟨v6, h3, h4, h5, hF⟩ := idx_elim hF
  have h5_ := get_of h5
  try simp at h5_
  have h4_ := h4
  try simp at h4_
  have F1 := And.intro h2 (And.intro h2_ (And.intro h3 (And.intro h4 (And.intro h5 (And.intro h5_ h4_)))))
  try simp [F1]
  and_intros
  try any_goals first | omega | (simp [maxLen, F1] <;> omega)
  obtain ⟨v7, h6, hF⟩ := bnd1_elim hF
  refine AC (w_ref02_Int k _ _ _ h6) (.cons (.same (by simp [F1])) (.cons (.same (by simp [F1])) .nil)) ?_
  try simp [F1]
  and_intros <;> first | exact g _ (by kernel_rfl) | refine r _ _ _ ?_ | omega | (simp [maxLen, F1] <;> omega)
  refine hK125 _ _ _ ?_
  refine WK [(1, Lz v1), (5, AV.slc 1 0 1 v7.length false), (6, Iz v4)] [(1, .grow (List.map (AV.int .u8) v7))] 2 (by simp [F1]) (by simp [F1]) ?_
  refine RG [] [none, none, none] fun _ _ g r => ?_
  try simp [F1]
  and_intros <;> first | exact g _ (by kernel_rfl) | refine r _ _ _ ?_ | omega | (simp [maxLen, F1] <;> omega)
  refine hK120 _ _ _ ?_
  refine RN h0 [(0, 1)] [(1, Lz v1), (5, AV.slc 0 0 1 v7.length false), (6, Iz (IntKind.wrap .i64 (v4 + 1)))] [(0, .grow (List.map (AV.int .u8) v7))] 1 (by simp [F1]) (by simp [F1]) ?_
  exact NX (k' := n1) ((IntKind.wrap .i64 (v4 + 1), v7)) hF (by simp [F1]) (by simp [F1])
 ·replace hF := ite_f h2 hF
  have h2_ := h2
  try simp at h2_
  refine CF (by simp [h2, h2_] <;> omega) ?_
  refine AW.exit ?_
  try simp
  refine hK97 _ _ _ ?_
  refine SQ [] [none, none] fun _ _ g r => ?_
  try simp [h2, h2_]
  and_intros <;> first | exact g _ (by kernel_rfl) | refine r _ _ _ ?_ | omega | (simp [h2, h2_, maxLen] <;> omega)
  refine WK [(4, AV.slc 0 0 1 v5.length false)] [(0, .grow (List.map (AV.int .u8) v5))] 1 (by simp [h2, h2_]) (by simp [h2, h2_]) ?_
  simp only [Option.some.injEq] at hF
  subst hF
  refine AW.ret (hQ _ _ _ ?_ (matchO_0 ?_)).1
  ·simp [Try.f72, h2, h2_]
  ·simp [h2, h2_]
abbrev c_ref03_Bytes (v0 : Int) (v1 : Int) (v2 : ByteArray) (v3 : Int) (v4 : Int) (v5 : Int) (v6 : Int) (v7 : Int) (v8 : (List Int)) (v9 : (List api_Pin)) (v10 : ByteArray) (v11 : Int) (v12 : ByteArray) : AObj := .cells [Iz v0, Iz v1, AV.str v2, Iz v3, Iz v4, Iz v5, Iz v6, Iz v7, Lz v8, AV.lst false false (List.map api_Pin.av v9), AV.str v10, Iz v11, AV.str v12]
theorem w_ref03_Bytes (k : Nat) (v0 : Int) (v1 : Int) (v2 : ByteArray) (v3 : Int) (v4 : Int) (v5 : Int) (v6 : Int) (v7 : Int) (v8 : (List Int)) (v9 : (List api_Pin)) (v10 : ByteArray) (v11 : Int) (v12 : ByteArray) (v13 : (List Int)) (hF : ref03_Bytes k v0 v1 v2 v3 v4 v5 v6 v7 v8 v9 v10 v11 v12 = some v13) :
  FCall Try.prog 65 [AV.agg [AV.int .i64 v0, AV.int .i64 v1, AV.str v2, AV.int .i64 v3, AV.int .i64 v4, AV.int .i64 v5, AV.int .i64 v6, AV.int .i64 v7, AV.lst false false (List.map (AV.int .i64) v8), AV.lst false false (List.map api_Pin.av v9), AV.str v10, AV.int .i64 v11, AV.str v12]] [] (AV.slc 0 0 1 v13.length false) [some (.grow (List.map (AV.int .u8) v13))] := by
 unfold ref03_Bytes at hF
 refine EN Try.func65 ?_
 intro c0 w0 Q h0 hQ
 refine WK [(0, AV.agg [Iz v0, Iz v1, AV.str v2, Iz v3, Iz v4, Iz v5, Iz v6, Iz v7, Lz v8, AV.lst false false (List.map api_Pin.av v9), AV.str v10, Iz v11, AV.str v12])] [] 0 (by simp) (by simp) ?_
 refine SQ [] [none, none] fun _ _ g r => ?_
 try simp
 and_intros <;> first | exact g _ (by kernel_rfl) | refine r _ _ _ ?_ | omega | (simp [maxLen] <;> omega)
 refine WK [(1, AV.ptr 0 0)] [(0, c_ref03_Bytes v0 v1 v2 v3 v4 v5 v6 v7 v8 v9 v10 v11 v12)] 1 (by simp) (by simp) ?_
 refine SQ [] [none, none, none, none, none, none, none, none, none, none] fun _ _ g r => ?_
 try simp
 and_intros
 try any_goals first | omega | (simp [maxLen] <;> omega)
 obtain ⟨v14, h1, hF⟩ := bnd1_elim hF
 refine AC (w_ref02_Int k _ _ _ h1) (.cons (Coe.fl (by simp)) (.cons (.same (by simp)) .nil)) ?_
 try simp
 and_intros
 try any_goals first | omega | (simp [maxLen] <;> omega)
 obtain ⟨v15, h2, hF⟩ := bnd1_elim hF
 refine aCall_l (w_ref02_Int k _ _ _ h2) (by simp) [] [1] [] rfl (.cons (Coe.l (o := .grow (List.map (AV.int .u8) v14)) (by simp) rfl (by simp) (by simp [noIdsL]) (by simp) (by simp)) (.cons (.same (by simp)) .nil)) (by simp) (by decide) (by simp) (by simp) (.inr ⟨by simp, by simp⟩) (by simp) (by simp) ?_
 try simp
 and_intros
 try any_goals first | omega | (simp [maxLen] <;> omega)
 obtain ⟨v16, h3, hF⟩ := bnd1_elim hF
 refine aCall_l (w_ref02_Text k _ _ _ h3) (by simp) [] [2] [] rfl (.cons (Coe.l (o := .grow (List.map (AV.int .u8) v15)) (by simp) rfl (by simp) (by simp [noIdsL]) (by simp) (by simp)) (.cons (.same (by simp)) .nil)) (by simp) (by decide) (by simp) (by simp) (.inr ⟨by simp, by simp⟩) (by simp) (by simp) ?_
 try simp
 and_intros <;> first | exact g _ (by kernel_rfl) | refine r _ _ _ ?_ | omega | (simp [maxLen] <;> omega)
 refine WK [(1, AV.ptr 0 0), (3, AV.slc 3 0 1 v16.length false)] [(0, c_ref03_Bytes v0 v1 v2 v3 v4 v5 v6 v7 v8 v9 v10 v11 v12), (3, .grow (List.map (AV.int .u8) v16))] 4 (by simp) (by simp) ?_
 refine AW.frz 3 (o := .grow (List.map (AV.int .u8) v16)) (by simp) rfl [(3, Lb v16)] [] ⟨(.l (by simp) (by simp) (by simp) (by simp)), trivial⟩ trivial ?_
 refine WK [(1, AV.ptr 0 0), (3, Lb v16)] [(0, c_ref03_Bytes v0 v1 v2 v3 v4 v5 v6 v7 v8 v9 v10 v11 v12)] 4 (by simp) (by simp) ?_
 refine AW.seq fun K187 hK187 => ?_
 refine SQ [] [none, none, none, none, none, none, none, none, none, none, none, none, none] fun _ _ g r => ?_
 try simp
 and_intros <;> first | exact g _ (by kernel_rfl) | refine r _ _ _ ?_ | omega | (simp [maxLen] <;> omega)
 refine WK [(1, AV.ptr 0 0), (3, Lb v16), (27, AV.lst false true (List.map (AV.int .i64) ([v3, v4, v5, v6, v7] : List Int))), (28, Iz (([v3, v4, v5, v6, v7] : List Int).length : Int)), (29, Iz 0)] [(0, c_ref03_Bytes v0 v1 v2 v3 v4 v5 v6 v7 v8 v9 v10 v11 v12)] 4 (by simp) (by simp) ?_
 refine AW.block ?_
 refine RM h0 [(0, 0)] [(1, AV.ptr 0 0), (3, Lb v16), (27, AV.lst false true (List.map (AV.int .i64) ([v3, v4, v5, v6, v7] : List Int))), (28, Iz (([v3, v4, v5, v6, v7] : List Int).length : Int)), (29, Iz 0)] [(0, c_ref03_Bytes v0 v1 v2 v3 v4 v5 v6 v7 v8 v9 v10 v11 v12)] 1 (by simp) (by simp) ?_
 refine AW.loopF (α := ((List Int) × Int)) (fun n (v17, v18) => ref03_Bytes.L1 k v3 v4 v5 v6 v7 v8 v9 v10 n v17 v18 = some v13) (fun (v17, v18) => [(1, AV.ptr 0 0), (3, Lb v17), (27, AV.lst false true (List.map (AV.int .i64) ([v3, v4, v5, v6, v7] : List Int))), (28, Iz (([v3, v4, v5, v6, v7] : List Int).length : Int)), (29, Iz v18)]) (fun (v17, v18) => [(0, c_ref03_Bytes v0 v1 v2 v3 v4 v5 v6 v7 v8 v9 v10 v11 v12)]) 1 k ((v16, 0)) hF (by simp) (by simp) (by simp) ?_
 rintro (_|n1) ⟨v17, v18⟩ hF K213 hK213
 ·try dsimp only at hF
  rw [ref03_Bytes.L1] at hF; cases hF
 try dsimp only at hF
 rw [ref03_Bytes.L1] at hF
 refine SQ [] [none] fun _ _ g r => ?_
 try simp
 and_intros <;> first | exact g _ (by kernel_rfl) | refine r _ _ _ ?_ | omega | (simp [maxLen] <;> omega)
 refine WK [(1, AV.ptr 0 0), (3, Lb v17), (27, AV.lst false true (List.map (AV.int .i64) ([v3, v4, v5, v6, v7] : List Int))), (28, Iz (([v3, v4, v5, v6, v7] : List Int).length : Int)), (29, Iz v18), (30, AV.bool (decide (v18 < (([v3, v4, v5, v6, v7] : List Int).length : Int))))] [(0, c_ref03_Bytes v0 v1 v2 v3 v4 v5 v6 v7 v8 v9 v10 v11 v12)] 1 (by simp) (by simp) ?_
 refine AW.seq fun K215 hK215 => ?_
 by_cases h4 : v18 < (([v3, v4, v5, v6, v7] : List Int).length : Int)
 ·replace hF := ite_t h4 hF
  have h4_ := h4
  try simp at h4_
  refine CT (by simp [h4, h4_] <;> omega) ?_
  refine AW.skip ?_
  refine hK215 _ _ _ ?_
  refine AW.seq fun K218 hK218 => ?_
  refine AW.block ?_
  refine SQ [] [none, none, none] fun _ _ g r => ?_
  obtain ⟨v19, h5, h6, h7, hF⟩ := idx_elim hF
  have h7_ := get_of h7
  try simp at h7_
  have h6_ := h6
  try simp at h6_
  have h7__ := get_of (map_get ((AV.int .i64)) h7)
  try simp at h7__
  have F1 := And.intro h4 (And.intro h4_ (And.intro h5 (And.intro h6 (And.intro h7 (And.intro h7_ (And.intro h6_ h7__))))))
  try simp [F1]
  and_intros <;> first | exact g _ (by kernel_rfl) | refine r _ _ _ ?_ | omega | (simp [maxLen, F1] <;> omega)
  refine WK [(1, AV.ptr 0 0), (3, Lb v17), (5, Iz v19), (27, AV.lst false true (List.map (AV.int .i64) ([v3, v4, v5, v6, v7] : List Int))), (28, Iz (([v3, v4, v5, v6, v7] : List Int).length : Int)), (29, Iz v18)] [(0, c_ref03_Bytes v0 v1 v2 v3 v4 v5 v6 v7 v8 v9 v10 v11 v12)] 1 (by simp [F1]) (by simp [F1]) ?_
  refine RG [] [none, none, none, none] fun _ _ g r => ?_
  try simp [F1]
  and_intros
  try any_goals first | omega | (simp [maxLen, F1] <;> omega)
  obtain ⟨v20, h8, hF⟩ := bnd1_elim hF
  refine AC (w_ref02_Int k _ _ _ h8) (.cons (.same (by simp [F1])) (.cons (.same (by simp [F1])) .nil)) ?_
  try simp [F1]
  and_intros <;> first | exact g _ (by kernel_rfl) | refine r _ _ _ ?_ | omega | (simp [maxLen, F1] <;> omega)
  refine hK218 _ _ _ ?_
  refine WK [(1, AV.ptr 0 0), (3, AV.slc 1 0 1 v20.length false), (27, AV.lst false true (List.map (AV.int .i64) ([v3, v4, v5, v6, v7] : List Int))), (28, Iz (([v3, v4, v5, v6, v7] : List Int).length : Int)), (29, Iz v18)] [(0, c_ref03_Bytes v0 v1 v2 v3 v4 v5 v6 v7 v8 v9 v10 v11 v12), (1, .grow (List.map (AV.int .u8) v20))] 2 (by simp [F1]) (by simp [F1]) ?_
  refine AW.frz 1 (o := .grow (List.map (AV.int .u8) v20)) (by simp [F1]) rfl [(3, Lb v20)] [] ⟨(.l (by simp) (by simp) (by simp) (by simp)), trivial⟩ trivial ?_
  refine WK [(1, AV.ptr 0 0), (3, Lb v20), (27, AV.lst false true (List.map (AV.int .i64) ([v3, v4, v5, v6, v7] : List Int))), (28, Iz (([v3, v4, v5, v6, v7] : List Int).length : Int)), (29, Iz v18)] [(0, c_ref03_Bytes v0 v1 v2 v3 v4 v5 v6 v7 v8 v9 v10 v11 v12)] 2 (by simp [F1]) (by simp [F1]) ?_
  refine RG [] [none, none] fun _ _ g r => ?_
  try simp [F1]
  and_intros <;> first | exact g _ (by kernel_rfl) | refine r _ _ _ ?_ | omega | (simp [maxLen, F1] <;> omega)
  refine hK213 _ _ _ ?_
  refine RN h0 [(0, 0)] [(1, AV.ptr 0 0), (3, Lb v20), (27, AV.lst false true (List.map (AV.int .i64) ([v3, v4, v5, v6, v7] : List Int))), (28, Iz (([v3, v4, v5, v6, v7] : List Int).length : Int)), (29, Iz (IntKind.wrap .i64 (v18 + 1)))] [(0, c_ref03_Bytes v0 v1 v2 v3 v4 v5 v6 v7 v8 v9 v10 v11 v12)] 1 (by simp [F1]) (by simp [F1]) ?_
  exact NX (k' := n1) ((v20, IntKind.wrap .i64 (v18 + 1))) hF (by simp [F1]) (by simp [F1])
 ·replace hF := ite_f h4 hF
  have h4_ := h4
  try simp at h4_
  refine CF (by simp [h4, h4_] <;> omega) ?_
  refine AW.exit ?_
  try simp
  refine hK187 _ _ _ ?_
  refine SQ [] [none, none, none, none, none, none, none, none, none] fun _ _ g r => ?_
  try simp [h4, h4_]
  and_intros
  try any_goals first | omega | (simp [h4, h4_, maxLen] <;> omega)
  obtain ⟨v21, h9, hF⟩ := bnd1_elim hF
  refine AC (w_ref02_Ints k _ _ _ h9) (.cons (.same (by simp [h4, h4_])) (.cons (.same (by simp [h4, h4_])) .nil)) ?_
  try simp [h4, h4_]
  and_intros
  try any_goals first | omega | (simp [h4, h4_, maxLen] <;> omega)
  obtain ⟨v22, h10, hF⟩ := bnd1_elim hF
  refine aCall_l (w_ref02_Int k _ _ _ h10) (by simp) [] [1] [] rfl (.cons (Coe.l (o := .grow (List.map (AV.int .u8) v21)) (by simp [h4, h4_]) rfl (by simp [h4, h4_]) (by simp [noIdsL]) (by simp [h4, h4_]) (by simp [h4, h4_])) (.cons (.same (by simp [h4, h4_])) .nil)) (by simp [h4, h4_]) (by decide) (by simp) (by simp) (.inr ⟨by simp, by simp⟩) (by simp) (by simp) ?_
  try simp [h4, h4_]
  and_intros <;> first | exact g _ (by kernel_rfl) | refine r _ _ _ ?_ | omega | (simp [h4, h4_, maxLen] <;> omega)
  refine WK [(1, AV.ptr 0 0), (3, AV.slc 2 0 1 v22.length false)] [(0, c_ref03_Bytes v0 v1 v2 v3 v4 v5 v6 v7 v8 v9 v10 v11 v12), (2, .grow (List.map (AV.int .u8) v22))] 3 (by simp [h4, h4_]) (by simp [h4, h4_]) ?_
  refine AW.frz 2 (o := .grow (List.map (AV.int .u8) v22)) (by simp [h4, h4_]) rfl [(3, Lb v22)] [] ⟨(.l (by simp) (by simp) (by simp) (by simp)), trivial⟩ trivial ?_
  refine WK [(1, AV.ptr 0 0), (3, Lb v22)] [(0, c_ref03_Bytes v0 v1 v2 v3 v4 v5 v6 v7 v8 v9 v10 v11 v12)] 3 (by simp [h4, h4_]) (by simp [h4, h4_]) ?_
  refine AW.seq fun K261 hK261 => ?_
  refine SQ [] [none] fun _ _ g r => ?_
  try simp [h4, h4_]
  and_intros <;> first | exact g _ (by kernel_rfl) | refine r _ _ _ ?_ | omega | (simp [h4, h4_, maxLen] <;> omega)
  refine WK [(1, AV.ptr 0 0), (3, Lb v22), (6, Iz 0)] [(0, c_ref03_Bytes v0 v1 v2 v3 v4 v5 v6 v7 v8 v9 v10 v11 v12)] 3 (by simp [h4, h4_]) (by simp [h4, h4_]) ?_
  refine AW.block ?_
  refine RM h0 [(0, 0)] [(1, AV.ptr 0 0), (3, Lb v22), (6, Iz 0)] [(0, c_ref03_Bytes v0 v1 v2 v3 v4 v5 v6 v7 v8 v9 v10 v11 v12)] 1 (by simp [h4, h4_]) (by simp [h4, h4_]) ?_
  refine AW.loopF (α := ((List Int) × Int)) (fun n (v23, v24) => ref03_Bytes.L2 k v9 v10 n v23 v24 = some v13) (fun (v23, v24) => [(1, AV.ptr 0 0), (3, Lb v23), (6, Iz v24)]) (fun (v23, v24) => [(0, c_ref03_Bytes v0 v1 v2 v3 v4 v5 v6 v7 v8 v9 v10 v11 v12)]) 1 k ((v22, 0)) hF (by simp [h4, h4_]) (by simp [h4, h4_]) (by simp) ?_
  rintro (_|n2) ⟨v23, v24⟩ hF K290 hK290
  ·try dsimp only at hF
   rw [ref03_Bytes.L2] at hF; cases hF
  try dsimp only at hF
  rw [ref03_Bytes.L2] at hF
  refine AW.seq fun K292 hK292 => ?_
  refine SQ [] [none, none, none, none, none] fun _ _ g r => ?_
  try simp [h4, h4_]
  and_intros <;> first | exact g _ (by kernel_rfl) | refine r _ _ _ ?_ | omega | (simp [h4, h4_, maxLen] <;> omega)
  refine WK [(1, AV.ptr 0 0), (3, Lb v23), (6, Iz v24), (49, AV.bool (decide (v24 < (v9.length : Int))))] [(0, c_ref03_Bytes v0 v1 v2 v3 v4 v5 v6 v7 v8 v9 v10 v11 v12)] 1 (by simp [h4, h4_]) (by simp [h4, h4_]) ?_
  by_cases h11 : v24 < (v9.length : Int)
  ·replace hF := ite_t h11 hF
   have h11_ := h11
   try simp at h11_
   have F2 := And.intro h4 (And.intro h4_ (And.intro h11 h11_))
   refine CT (by simp [F2] <;> omega) ?_
   refine AW.skip ?_
   refine hK292 _ _ _ ?_
   refine AW.seq fun K296 hK296 => ?_
   refine AW.block ?_
   refine SQ [] [none, none, none, none, none, none, none] fun _ _ g r => ?_
   obtain ⟨v25, h12, h13, h14, hF⟩ := idx_elim hF
   have h14_ := get_of h14
   try simp at h14_
   have h13_ := h13
   try simp at h13_
   have F3 := And.intro F2 (And.intro h12 (And.intro h13 (And.intro h14 (And.intro h14_ h13_))))
   try simp [F3]
   and_intros <;> first | exact g _ (by kernel_rfl) | refine r _ _ _ ?_ | omega | (simp [maxLen, F3] <;> omega)
   refine WK [(1, AV.ptr 0 0), (3, Lb v23), (6, Iz v24), (7, AV.ptr 1 0)] [(0, c_ref03_Bytes v0 v1 v2 v3 v4 v5 v6 v7 v8 v9 v10 v11 v12), (1, .cells [Iz v25.Author, Iz v25.Height, AV.str v25.Digest])] 2 (by simp [F3]) (by simp [F3]) ?_
   refine RG [] [none, none, none, none, none, none, none, none, none, none, none] fun _ _ g r => ?_
   try simp [F3]
   and_intros
   try any_goals first | omega | (simp [maxLen, F3] <;> omega)
   obtain ⟨v26, h15, hF⟩ := bnd1_elim hF
   refine AC (w_ref02_Int k _ _ _ h15) (.cons (.same (by simp [F3])) (.cons (.same (by simp [F3])) .nil)) ?_
   try simp [F3]
   and_intros
   try any_goals first | omega | (simp [maxLen, F3] <;> omega)
   obtain ⟨v27, h16, hF⟩ := bnd1_elim hF
   refine aCall_l (w_ref02_Int k _ _ _ h16) (by simp) [] [2] [] rfl (.cons (Coe.l (o := .grow (List.map (AV.int .u8) v26)) (by simp [F3]) rfl (by simp [F3]) (by simp [noIdsL]) (by simp [F3]) (by simp [F3])) (.cons (.same (by simp [F3])) .nil)) (by simp [F3]) (by decide) (by simp) (by simp) (.inr ⟨by simp, by simp⟩) (by simp) (by simp) ?_
   try simp [F3]
   and_intros
   try any_goals first | omega | (simp [maxLen, F3] <;> omega)
   obtain ⟨v28, h17, hF⟩ := bnd1_elim hF
   refine aCall_l (w_ref02_Text k _ _ _ h17) (by simp) [] [3] [] rfl (.cons (Coe.l (o := .grow (List.map (AV.int .u8) v27)) (by simp [F3]) rfl (by simp [F3]) (by simp [noIdsL]) (by simp [F3]) (by simp [F3])) (.cons (.same (by simp [F3])) .nil)) (by simp [F3]) (by decide) (by simp) (by simp) (.inr ⟨by simp, by simp⟩) (by simp) (by simp) ?_
   try simp [F3]
   and_intros <;> first | exact g _ (by kernel_rfl) | refine r _ _ _ ?_ | omega | (simp [maxLen, F3] <;> omega)
   refine hK296 _ _ _ ?_
   refine WK [(1, AV.ptr 0 0), (3, AV.slc 4 0 1 v28.length false), (6, Iz v24)] [(0, c_ref03_Bytes v0 v1 v2 v3 v4 v5 v6 v7 v8 v9 v10 v11 v12), (4, .grow (List.map (AV.int .u8) v28))] 5 (by simp [F3]) (by simp [F3]) ?_
   refine AW.frz 4 (o := .grow (List.map (AV.int .u8) v28)) (by simp [F3]) rfl [(3, Lb v28)] [] ⟨(.l (by simp) (by simp) (by simp) (by simp)), trivial⟩ trivial ?_
   refine WK [(1, AV.ptr 0 0), (3, Lb v28), (6, Iz v24)] [(0, c_ref03_Bytes v0 v1 v2 v3 v4 v5 v6 v7 v8 v9 v10 v11 v12)] 5 (by simp [F3]) (by simp [F3]) ?_
   refine RG [] [none, none, none] fun _ _ g r => ?_
   try simp [F3]
   and_intros <;> first | exact g _ (by kernel_rfl) | refine r _ _ _ ?_ | omega | (simp [maxLen, F3] <;> omega)
   refine hK290 _ _ _ ?_
   refine RN h0 [(0, 0)] [(1, AV.ptr 0 0), (3, Lb v28), (6, Iz (IntKind.wrap .i64 (v24 + 1)))] [(0, c_ref03_Bytes v0 v1 v2 v3 v4 v5 v6 v7 v8 v9 v10 v11 v12)] 1 (by simp [F3]) (by simp [F3]) ?_
   exact NX (k' := n2) ((v28, IntKind.wrap .i64 (v24 + 1))) hF (by simp [F3]) (by simp [F3])
  ·replace hF := ite_f h11 hF
   have h11_ := h11
   try simp at h11_
   have F4 := And.intro h4 (And.intro h4_ (And.intro h11 h11_))
   refine CF (by simp [F4] <;> omega) ?_
   refine AW.exit ?_
   try simp
   refine hK261 _ _ _ ?_
   refine SQ [] [none, none, none, none, none] fun _ _ g r => ?_
   try simp [F4]
   and_intros
   try any_goals first | omega | (simp [maxLen, F4] <;> omega)
   obtain ⟨v29, h18, hF⟩ := bnd1_elim hF
   refine AC (w_ref02_Text k _ _ _ h18) (.cons (.same (by simp [F4])) (.cons (.same (by simp [F4])) .nil)) ?_
   try simp [F4]
   and_intros <;> first | exact g _ (by kernel_rfl) | refine r _ _ _ ?_ | omega | (simp [maxLen, F4] <;> omega)
   refine RM h0 [(0, 1)] [(2, AV.slc 0 0 1 v29.length false)] [(0, .grow (List.map (AV.int .u8) v29))] 1 (by simp [F4]) (by simp [F4]) ?_
   simp only [Option.some.injEq] at hF
   subst hF
   refine AW.ret (hQ _ _ _ ?_ (matchO_0 ?_)).1
   ·simp [Try.f65, F4]
   ·simp [F4]
theorem w_ref01_constants (k : Nat) (v0 : (List Int)) (hF : ref01_constants k = some v0) :
  FCall Try.prog 68 [] [] (AV.lst false false (List.map (AV.int .u32) v0)) [] := by
 unfold ref01_constants at hF
 refine EN Try.func68 ?_
 intro c0 w0 Q h0 hQ
 refine WK [] [] 0 (by simp) (by simp) ?_
 refine SQ [] [none] fun _ _ g r => ?_
 try simp
 and_intros <;> first | exact g _ (by kernel_rfl) | refine r _ _ _ ?_ | omega | (simp [maxLen] <;> omega)
 refine WK [] [] 0 (by simp) (by simp) ?_
 refine SQ [] [none, none] fun _ _ g r => ?_
 try simp
 and_intros <;> first | exact g _ (by kernel_rfl) | refine r _ _ _ ?_ | omega | (simp [maxLen] <;> omega)
 refine WK [(0, AV.lst false true (List.map (AV.int .u32) ([1116352408, 1899447441, 3049323471, 3921009573, 961987163, 1508970993, 2453635748, 2870763221, 3624381080, 310598401, 607225278, 1426881987, 1925078388, 2162078206, 2614888103, 3248222580, 3835390401, 4022224774, 264347078, 604807628, 770255983, 1249150122, 1555081692, 1996064986, 2554220882, 2821834349, 2952996808, 3210313671, 3336571891, 3584528711, 113926993, 338241895, 666307205, 773529912, 1294757372, 1396182291, 1695183700, 1986661051, 2177026350, 2456956037, 2730485921, 2820302411, 3259730800, 3345764771, 3516065817, 3600352804, 4094571909, 275423344, 430227734, 506948616, 659060556, 883997877, 958139571, 1322822218, 1537002063, 1747873779, 1955562222, 2024104815, 2227730452, 2361852424, 2428436474, 2756734187, 3204031479, 3329325298] : List Int)))] [] 0 (by simp) (by simp) ?_
 refine AW.flg [(0, Lw ([1116352408, 1899447441, 3049323471, 3921009573, 961987163, 1508970993, 2453635748, 2870763221, 3624381080, 310598401, 607225278, 1426881987, 1925078388, 2162078206, 2614888103, 3248222580, 3835390401, 4022224774, 264347078, 604807628, 770255983, 1249150122, 1555081692, 1996064986, 2554220882, 2821834349, 2952996808, 3210313671, 3336571891, 3584528711, 113926993, 338241895, 666307205, 773529912, 1294757372, 1396182291, 1695183700, 1986661051, 2177026350, 2456956037, 2730485921, 2820302411, 3259730800, 3345764771, 3516065817, 3600352804, 4094571909, 275423344, 430227734, 506948616, 659060556, 883997877, 958139571, 1322822218, 1537002063, 1747873779, 1955562222, 2024104815, 2227730452, 2361852424, 2428436474, 2756734187, 3204031479, 3329325298] : List Int))] [] ⟨(.lst (by simp)), trivial⟩ trivial (by simp) ?_
 simp only [Option.some.injEq] at hF
 subst hF
 refine AW.ret (hQ _ _ _ ?_ (matchO_0 ?_)).1
 ·simp [Try.f68]
 ·simp
theorem w_ref01_turn (k : Nat) (v0 : Int) (v1 : Int) (v2 : Int) (hF : ref01_turn k v0 v1 = some v2) :
  FCall Try.prog 74 [AV.int .u32 v0, AV.int .u64 v1] [] (AV.int .u32 v2) [] := by
 unfold ref01_turn at hF
 refine EN Try.func74 ?_
 intro c0 w0 Q h0 hQ
 refine WK [(0, AV.int .u32 v0), (1, AV.int .u64 v1)] [] 0 (by simp) (by simp) ?_
 refine SQ [] [none] fun _ _ g r => ?_
 try simp
 and_intros <;> first | exact g _ (by kernel_rfl) | refine r _ _ _ ?_ | omega | (simp [maxLen] <;> omega)
 refine WK [(0, AV.int .u32 v0), (1, AV.int .u64 v1)] [] 0 (by simp) (by simp) ?_
 refine SQ [] [none, none, none, none, none, none, none, none, none] fun _ _ g r => ?_
 obtain ⟨h1, hF⟩ := chk_elim hF
 obtain ⟨h2, hF⟩ := chk_elim hF
 try simp [h1, h2]
 and_intros <;> first | exact g _ (by kernel_rfl) | refine r _ _ _ ?_ | omega | (simp [h1, h2, maxLen] <;> omega)
 refine WK [(4, AV.int .u32 (bitsV .or .u32 (Int.fdiv v0 (2 ^ (min v1.toNat 32))) (IntKind.wrap .u32 (v0 * 2 ^ (min ((IntKind.wrap .u64 (32 - v1)).toNat) 32)))))] [] 0 (by simp [h1, h2]) (by simp [h1, h2]) ?_
 simp only [Option.some.injEq] at hF
 subst hF
 refine AW.ret (hQ _ _ _ ?_ (matchO_0 ?_)).1
 ·simp [Try.f74, h1, h2]
 ·simp [h1, h2]
theorem w_ref01_block (k : Nat) (v0 : (List Int)) (v1 : (List Int)) (v2 : (List Int)) (v3 : (List Int)) (hF : ref01_block k v0 v1 v2 = some v3) :
  FCall Try.prog 69 [AV.lst false false (List.map (AV.int .u32) v0), AV.lst false false (List.map (AV.int .u8) v1), AV.lst false false (List.map (AV.int .u32) v2)] [] (AV.slc 0 0 1 v3.length false) [some (.grow (List.map (AV.int .u32) v3))] := by
 unfold ref01_block at hF
 refine EN Try.func69 ?_
 intro c0 w0 Q h0 hQ
 refine WK [(0, Lw v0), (1, Lb v1), (2, Lw v2)] [] 0 (by simp [-List.reduceReplicate, sOf_set, ofI_set, allU8_set]) (by simp [-List.reduceReplicate, sOf_set, ofI_set, allU8_set]) ?_
 refine SQ [] [none] fun _ _ g r => ?_
 try simp [-List.reduceReplicate, sOf_set, ofI_set, allU8_set]
 and_intros <;> first | exact g _ (by kernel_rfl) | refine r _ _ _ ?_ | omega | (simp [-List.reduceReplicate, sOf_set, ofI_set, allU8_set, maxLen] <;> omega)
 refine WK [(0, Lw v0), (1, Lb v1), (2, Lw v2)] [] 0 (by simp [-List.reduceReplicate, sOf_set, ofI_set, allU8_set]) (by simp [-List.reduceReplicate, sOf_set, ofI_set, allU8_set]) ?_
 refine SQ [19] [none, none] fun _ _ g r => ?_
 obtain ⟨h1, hF⟩ := chk_elim hF
 obtain ⟨v4, h2, hF⟩ := let1_elim hF
 have h2l : v4.length = 64 := by rw [← h2]; exact List.length_replicate
 have h2m : List.replicate 64 (AV.int .u32 0) = List.map (AV.int .u32) v4 := by rw [← h2]; exact (List.map_replicate ..).symm
 have h2n := ne_of_len h2l (by decide)
 have F1 := And.intro h1 (And.intro h2l (And.intro h2m h2n))
 try simp [-List.reduceReplicate, sOf_set, ofI_set, allU8_set, F1]
 and_intros <;> first | exact g _ (by kernel_rfl) | refine r _ _ _ ?_ | omega | (simp [-List.reduceReplicate, sOf_set, ofI_set, allU8_set, maxLen, F1] <;> omega)
 refine WK [(0, Lw v0), (1, Lb v1), (2, Lw v2), (7, AV.slc 0 0 1 v4.length true)] [(0, .cells (List.map (AV.int .u32) v4))] 1 (by simp [-List.reduceReplicate, sOf_set, ofI_set, allU8_set, F1]) (by simp [-List.reduceReplicate, sOf_set, ofI_set, allU8_set, F1]) ?_
 refine AW.seq fun K393 hK393 => ?_
 refine SQ [] [none] fun _ _ g r => ?_
 try simp [-List.reduceReplicate, sOf_set, ofI_set, allU8_set, F1]
 and_intros <;> first | exact g _ (by kernel_rfl) | refine r _ _ _ ?_ | omega | (simp [-List.reduceReplicate, sOf_set, ofI_set, allU8_set, maxLen, F1] <;> omega)
 refine WK [(0, Lw v0), (1, Lb v1), (2, Lw v2), (7, AV.slc 0 0 1 v4.length true), (8, Iz 0)] [(0, .cells (List.map (AV.int .u32) v4))] 1 (by simp [-List.reduceReplicate, sOf_set, ofI_set, allU8_set, F1]) (by simp [-List.reduceReplicate, sOf_set, ofI_set, allU8_set, F1]) ?_
 refine AW.block ?_
 refine AW.loopF (α := (Int × (List Int))) (fun n (v5, v6) => ref01_block.L1 k v0 v1 v2 n v5 v6 = some v3) (fun (v5, v6) => [(0, Lw v0), (1, Lb v1), (2, Lw v2), (7, AV.slc 0 0 1 v6.length true), (8, Iz v5)]) (fun (v5, v6) => [(0, .cells (List.map (AV.int .u32) v6))]) 1 k ((0, v4)) hF (by simp [-List.reduceReplicate, sOf_set, ofI_set, allU8_set, F1]) (by simp [-List.reduceReplicate, sOf_set, ofI_set, allU8_set, F1]) (by simp) ?_
 rintro (_|n1) ⟨v5, v6⟩ hF K416 hK416
 ·try dsimp only at hF
  rw [ref01_block.L1] at hF; cases hF
 try dsimp only at hF
 rw [ref01_block.L1] at hF
 refine AW.seq fun K418 hK418 => ?_
 refine SQ [] [none, none] fun _ _ g r => ?_
 try simp [-List.reduceReplicate, sOf_set, ofI_set, allU8_set, F1]
 and_intros <;> first | exact g _ (by kernel_rfl) | refine r _ _ _ ?_ | omega | (simp [-List.reduceReplicate, sOf_set, ofI_set, allU8_set, maxLen, F1] <;> omega)
 refine WK [(0, Lw v0), (1, Lb v1), (2, Lw v2), (7, AV.slc 0 0 1 v6.length true), (8, Iz v5), (21, AV.bool (decide (v5 < 16)))] [(0, .cells (List.map (AV.int .u32) v6))] 1 (by simp [-List.reduceReplicate, sOf_set, ofI_set, allU8_set, F1]) (by simp [-List.reduceReplicate, sOf_set, ofI_set, allU8_set, F1]) ?_
 by_cases h3 : v5 < 16
 ·replace hF := ite_t h3 hF
  have h3_ := h3
  try simp [-List.reduceReplicate] at h3_
  have F2 := And.intro F1 (And.intro h3 h3_)
  refine CT (by simp [-List.reduceReplicate, sOf_set, ofI_set, allU8_set, F2] <;> omega) ?_
  refine AW.skip ?_
  refine hK418 _ _ _ ?_
  refine AW.seq fun K421 hK421 => ?_
  refine AW.block ?_
  refine RG [] [none, none, none, none, none, none, none, none, none, none, none, none, none, none, none, none, none, none, none, none, none, none, none, none, none, none, none, none, none, none, none, none, none, none, none, none, none] fun _ _ g r => ?_
  obtain ⟨v7, h4, h5, h6, hF⟩ := idx_elim hF
  have h6_ := get_of h6
  try simp [-List.reduceReplicate] at h6_
  have h5_ := h5
  try simp [-List.reduceReplicate] at h5_
  obtain ⟨v8, h7, h8, h9, hF⟩ := idx_elim hF
  have h9_ := get_of h9
  try simp [-List.reduceReplicate] at h9_
  have h8_ := h8
  try simp [-List.reduceReplicate] at h8_
  obtain ⟨v9, h10, h11, h12, hF⟩ := idx_elim hF
  have h12_ := get_of h12
  try simp [-List.reduceReplicate] at h12_
  have h11_ := h11
  try simp [-List.reduceReplicate] at h11_
  obtain ⟨v10, h13, h14, h15, hF⟩ := idx_elim hF
  have h15_ := get_of h15
  try simp [-List.reduceReplicate] at h15_
  have h14_ := h14
  try simp [-List.reduceReplicate] at h14_
  obtain ⟨⟨h16, h17⟩, hF⟩ := chk_elim hF
  have h17_ := ne_of_lt h17
  have F3 := And.intro F2 (And.intro h4 (And.intro h5 (And.intro h6 (And.intro h6_ (And.intro h5_ (And.intro h7 (And.intro h8 (And.intro h9 (And.intro h9_ (And.intro h8_ (And.intro h10 (And.intro h11 (And.intro h12 (And.intro h12_ (And.intro h11_ (And.intro h13 (And.intro h14 (And.intro h15 (And.intro h15_ (And.intro h14_ (And.intro h16 (And.intro h17 h17_))))))))))))))))))))))
  try simp [-List.reduceReplicate, sOf_set, ofI_set, allU8_set, F3]
  and_intros <;> first | exact g _ (by kernel_rfl) | refine r _ _ _ ?_ | omega | (simp [-List.reduceReplicate, sOf_set, ofI_set, allU8_set, maxLen, F3] <;> omega)
  refine hK421 _ _ _ ?_
  refine WK [(0, Lw v0), (1, Lb v1), (2, Lw v2), (7, AV.slc 0 0 1 ((v6.set (v5).toNat (bitsV .or .u32 (bitsV .or .u32 (bitsV .or .u32 (IntKind.wrap .u32 ((IntKind.wrap .u32 v7) * 2 ^ (24))) (IntKind.wrap .u32 ((IntKind.wrap .u32 v8) * 2 ^ (16)))) (IntKind.wrap .u32 ((IntKind.wrap .u32 v9) * 2 ^ (8)))) (IntKind.wrap .u32 v10))).length) true), (8, Iz v5)] [(0, .cells (List.map (AV.int .u32) (v6.set (v5).toNat (bitsV .or .u32 (bitsV .or .u32 (bitsV .or .u32 (IntKind.wrap .u32 ((IntKind.wrap .u32 v7) * 2 ^ (24))) (IntKind.wrap .u32 ((IntKind.wrap .u32 v8) * 2 ^ (16)))) (IntKind.wrap .u32 ((IntKind.wrap .u32 v9) * 2 ^ (8)))) (IntKind.wrap .u32 v10)))))] 1 (by simp [-List.reduceReplicate, sOf_set, ofI_set, allU8_set, F3]) (by simp [-List.reduceReplicate, sOf_set, ofI_set, allU8_set, F3]) ?_
  refine RG [] [none, none, none] fun _ _ g r => ?_
  try simp [-List.reduceReplicate, sOf_set, ofI_set, allU8_set, F3]
  and_intros <;> first | exact g _ (by kernel_rfl) | refine r _ _ _ ?_ | omega | (simp [-List.reduceReplicate, sOf_set, ofI_set, allU8_set, maxLen, F3] <;> omega)
  refine hK416 _ _ _ ?_
  exact NX (k' := n1) ((IntKind.wrap .i64 (v5 + 1), v6.set (v5).toNat (bitsV .or .u32 (bitsV .or .u32 (bitsV .or .u32 (IntKind.wrap .u32 ((IntKind.wrap .u32 v7) * 2 ^ (24))) (IntKind.wrap .u32 ((IntKind.wrap .u32 v8) * 2 ^ (16)))) (IntKind.wrap .u32 ((IntKind.wrap .u32 v9) * 2 ^ (8)))) (IntKind.wrap .u32 v10)))) hF (by simp [-List.reduceReplicate, sOf_set, ofI_set, allU8_set, F3]) (by simp [-List.reduceReplicate, sOf_set, ofI_set, allU8_set, F3])
 ·replace hF := ite_f h3 hF
  have h3_ := h3
  try simp [-List.reduceReplicate] at h3_
  have F4 := And.intro F1 (And.intro h3 h3_)
  refine CF (by simp [-List.reduceReplicate, sOf_set, ofI_set, allU8_set, F4] <;> omega) ?_
  refine AW.exit ?_
  try simp [-List.reduceReplicate]
  refine hK393 _ _ _ ?_
  refine AW.seq fun K470 hK470 => ?_
  refine SQ [] [none] fun _ _ g r => ?_
  try simp [-List.reduceReplicate, sOf_set, ofI_set, allU8_set, F4]
  and_intros <;> first | exact g _ (by kernel_rfl) | refine r _ _ _ ?_ | omega | (simp [-List.reduceReplicate, sOf_set, ofI_set, allU8_set, maxLen, F4] <;> omega)
  refine WK [(0, Lw v0), (2, Lw v2), (7, AV.slc 0 0 1 v6.length true), (9, Iz 16)] [(0, .cells (List.map (AV.int .u32) v6))] 1 (by simp [-List.reduceReplicate, sOf_set, ofI_set, allU8_set, F4]) (by simp [-List.reduceReplicate, sOf_set, ofI_set, allU8_set, F4]) ?_
  refine AW.block ?_
  refine AW.loopF (α := (Int × (List Int))) (fun n (v11, v12) => ref01_block.L2 k v0 v2 n v11 v12 = some v3) (fun (v11, v12) => [(0, Lw v0), (2, Lw v2), (7, AV.slc 0 0 1 v12.length true), (9, Iz v11)]) (fun (v11, v12) => [(0, .cells (List.map (AV.int .u32) v12))]) 1 k ((16, v6)) hF (by simp [-List.reduceReplicate, sOf_set, ofI_set, allU8_set, F4]) (by simp [-List.reduceReplicate, sOf_set, ofI_set, allU8_set, F4]) (by simp) ?_
  rintro (_|n2) ⟨v11, v12⟩ hF K505 hK505
  ·try dsimp only at hF
   rw [ref01_block.L2] at hF; cases hF
  try dsimp only at hF
  rw [ref01_block.L2] at hF
  refine AW.seq fun K507 hK507 => ?_
  refine SQ [] [none, none] fun _ _ g r => ?_
  try simp [-List.reduceReplicate, sOf_set, ofI_set, allU8_set, F4]
  and_intros <;> first | exact g _ (by kernel_rfl) | refine r _ _ _ ?_ | omega | (simp [-List.reduceReplicate, sOf_set, ofI_set, allU8_set, maxLen, F4] <;> omega)
  refine WK [(0, Lw v0), (2, Lw v2), (7, AV.slc 0 0 1 v12.length true), (9, Iz v11), (61, AV.bool (decide (v11 < 64)))] [(0, .cells (List.map (AV.int .u32) v12))] 1 (by simp [-List.reduceReplicate, sOf_set, ofI_set, allU8_set, F4]) (by simp [-List.reduceReplicate, sOf_set, ofI_set, allU8_set, F4]) ?_
  by_cases h18 : v11 < 64
  ·replace hF := ite_t h18 hF
   have h18_ := h18
   try simp [-List.reduceReplicate] at h18_
   have F5 := And.intro F4 (And.intro h18 h18_)
   refine CT (by simp [-List.reduceReplicate, sOf_set, ofI_set, allU8_set, F5] <;> omega) ?_
   refine AW.skip ?_
   refine hK507 _ _ _ ?_
   refine AW.seq fun K512 hK512 => ?_
   refine AW.block ?_
   refine SQ [] [none, none, none, none, none, none, none, none, none, none, none, none, none, none, none, none, none, none, none, none, none] fun _ _ g r => ?_
   obtain ⟨⟨h19, h20⟩, hF⟩ := chk_elim hF
   have h20_ := ne_of_lt h20
   obtain ⟨v13, h21, h22, h23, hF⟩ := idx_elim hF
   have h23_ := get_of h23
   try simp [-List.reduceReplicate] at h23_
   have h22_ := h22
   try simp [-List.reduceReplicate] at h22_
   have F6 := And.intro F5 (And.intro h19 (And.intro h20 (And.intro h20_ (And.intro h21 (And.intro h22 (And.intro h23 (And.intro h23_ h22_)))))))
   try simp [-List.reduceReplicate, sOf_set, ofI_set, allU8_set, F6]
   and_intros
   try any_goals first | omega | (simp [-List.reduceReplicate, sOf_set, ofI_set, allU8_set, maxLen, F6] <;> omega)
   obtain ⟨v14, h24, hF⟩ := bnd1_elim hF
   refine AC (w_ref01_turn k _ _ _ h24) (.cons (.same (by simp [-List.reduceReplicate, sOf_set, ofI_set, allU8_set, F6])) (.cons (.same (by simp [-List.reduceReplicate, sOf_set, ofI_set, allU8_set, F6])) .nil)) ?_
   obtain ⟨⟨h25, h26⟩, hF⟩ := chk_elim hF
   have h26_ := ne_of_lt h26
   have F7 := And.intro F6 (And.intro h25 (And.intro h26 h26_))
   try simp [-List.reduceReplicate, sOf_set, ofI_set, allU8_set, F7]
   and_intros
   try any_goals first | omega | (simp [-List.reduceReplicate, sOf_set, ofI_set, allU8_set, maxLen, F7] <;> omega)
   obtain ⟨v15, h27, hF⟩ := bnd1_elim hF
   refine AC (w_ref01_turn k _ _ _ h27) (.cons (.same (by simp [-List.reduceReplicate, sOf_set, ofI_set, allU8_set, F7])) (.cons (.same (by simp [-List.reduceReplicate, sOf_set, ofI_set, allU8_set, F7])) .nil)) ?_
   obtain ⟨⟨h28, h29⟩, hF⟩ := chk_elim hF
   have h29_ := ne_of_lt h29
   have F8 := And.intro F7 (And.intro h28 (And.intro h29 h29_))
   try simp [-List.reduceReplicate, sOf_set, ofI_set, allU8_set, F8]
   and_intros <;> first | exact g _ (by kernel_rfl) | refine r _ _ _ ?_ | omega | (simp [-List.reduceReplicate, sOf_set, ofI_set, allU8_set, maxLen, F8] <;> omega)
   refine WK [(0, Lw v0), (2, Lw v2), (7, AV.slc 0 0 1 v12.length true), (9, Iz v11), (10, AV.int .u32 (bitsV .xor .u32 (bitsV .xor .u32 v14 v15) (Int.fdiv v13 (2 ^ (3)))))] [(0, .cells (List.map (AV.int .u32) v12))] 1 (by simp [-List.reduceReplicate, sOf_set, ofI_set, allU8_set, F8]) (by simp [-List.reduceReplicate, sOf_set, ofI_set, allU8_set, F8]) ?_
   refine SQ [] [none, none, none, none, none, none, none, none, none, none, none, none, none, none, none, none, none, none, none, none, none] fun _ _ g r => ?_
   obtain ⟨⟨h30, h31⟩, hF⟩ := chk_elim hF
   have h31_ := ne_of_lt h31
   obtain ⟨v16, h32, h33, h34, hF⟩ := idx_elim hF
   have h34_ := get_of h34
   try simp [-List.reduceReplicate] at h34_
   have h33_ := h33
   try simp [-List.reduceReplicate] at h33_
   have F9 := And.intro F8 (And.intro h30 (And.intro h31 (And.intro h31_ (And.intro h32 (And.intro h33 (And.intro h34 (And.intro h34_ h33_)))))))
   try simp [-List.reduceReplicate, sOf_set, ofI_set, allU8_set, F9]
   and_intros
   try any_goals first | omega | (simp [-List.reduceReplicate, sOf_set, ofI_set, allU8_set, maxLen, F9] <;> omega)
   obtain ⟨v17, h35, hF⟩ := bnd1_elim hF
   refine AC (w_ref01_turn k _ _ _ h35) (.cons (.same (by simp [-List.reduceReplicate, sOf_set, ofI_set, allU8_set, F9])) (.cons (.same (by simp [-List.reduceReplicate, sOf_set, ofI_set, allU8_set, F9])) .nil)) ?_
   obtain ⟨⟨h36, h37⟩, hF⟩ := chk_elim hF
   have h37_ := ne_of_lt h37
   have F10 := And.intro F9 (And.intro h36 (And.intro h37 h37_))
   try simp [-List.reduceReplicate, sOf_set, ofI_set, allU8_set, F10]
   and_intros
   try any_goals first | omega | (simp [-List.reduceReplicate, sOf_set, ofI_set, allU8_set, maxLen, F10] <;> omega)
   obtain ⟨v18, h38, hF⟩ := bnd1_elim hF
   refine AC (w_ref01_turn k _ _ _ h38) (.cons (.same (by simp [-List.reduceReplicate, sOf_set, ofI_set, allU8_set, F10])) (.cons (.same (by simp [-List.reduceReplicate, sOf_set, ofI_set, allU8_set, F10])) .nil)) ?_
   obtain ⟨⟨h39, h40⟩, hF⟩ := chk_elim hF
   have h40_ := ne_of_lt h40
   have F11 := And.intro F10 (And.intro h39 (And.intro h40 h40_))
   try simp [-List.reduceReplicate, sOf_set, ofI_set, allU8_set, F11]
   and_intros <;> first | exact g _ (by kernel_rfl) | refine r _ _ _ ?_ | omega | (simp [-List.reduceReplicate, sOf_set, ofI_set, allU8_set, maxLen, F11] <;> omega)
   refine WK [(0, Lw v0), (2, Lw v2), (7, AV.slc 0 0 1 v12.length true), (9, Iz v11), (10, AV.int .u32 (bitsV .xor .u32 (bitsV .xor .u32 v14 v15) (Int.fdiv v13 (2 ^ (3))))), (11, AV.int .u32 (bitsV .xor .u32 (bitsV .xor .u32 v17 v18) (Int.fdiv v16 (2 ^ (10)))))] [(0, .cells (List.map (AV.int .u32) v12))] 1 (by simp [-List.reduceReplicate, sOf_set, ofI_set, allU8_set, F11]) (by simp [-List.reduceReplicate, sOf_set, ofI_set, allU8_set, F11]) ?_
   refine RG [] [none, none, none, none, none, none, none, none, none, none, none, none, none, none, none, none, none, none, none] fun _ _ g r => ?_
   obtain ⟨⟨h41, h42⟩, hF⟩ := chk_elim hF
   have h42_ := ne_of_lt h42
   obtain ⟨v19, h43, h44, h45, hF⟩ := idx_elim hF
   have h45_ := get_of h45
   try simp [-List.reduceReplicate] at h45_
   have h44_ := h44
   try simp [-List.reduceReplicate] at h44_
   obtain ⟨⟨h46, h47⟩, hF⟩ := chk_elim hF
   have h47_ := ne_of_lt h47
   obtain ⟨v20, h48, h49, h50, hF⟩ := idx_elim hF
   have h50_ := get_of h50
   try simp [-List.reduceReplicate] at h50_
   have h49_ := h49
   try simp [-List.reduceReplicate] at h49_
   obtain ⟨⟨h51, h52⟩, hF⟩ := chk_elim hF
   have h52_ := ne_of_lt h52
   have F12 := And.intro F11 (And.intro h41 (And.intro h42 (And.intro h42_ (And.intro h43 (And.intro h44 (And.intro h45 (And.intro h45_ (And.intro h44_ (And.intro h46 (And.intro h47 (And.intro h47_ (And.intro h48 (And.intro h49 (And.intro h50 (And.intro h50_ (And.intro h49_ (And.intro h51 (And.intro h52 h52_))))))))))))))))))
   try simp [-List.reduceReplicate, sOf_set, ofI_set, allU8_set, F12]
   and_intros <;> first | exact g _ (by kernel_rfl) | refine r _ _ _ ?_ | omega | (simp [-List.reduceReplicate, sOf_set, ofI_set, allU8_set, maxLen, F12] <;> omega)
   refine hK512 _ _ _ ?_
   refine WK [(0, Lw v0), (2, Lw v2), (7, AV.slc 0 0 1 ((v12.set (v11).toNat (IntKind.wrap .u32 (IntKind.wrap .u32 (IntKind.wrap .u32 (v19 + bitsV .xor .u32 (bitsV .xor .u32 v14 v15) (Int.fdiv v13 (2 ^ (3)))) + v20) + bitsV .xor .u32 (bitsV .xor .u32 v17 v18) (Int.fdiv v16 (2 ^ (10)))))).length) true), (9, Iz v11)] [(0, .cells (List.map (AV.int .u32) (v12.set (v11).toNat (IntKind.wrap .u32 (IntKind.wrap .u32 (IntKind.wrap .u32 (v19 + bitsV .xor .u32 (bitsV .xor .u32 v14 v15) (Int.fdiv v13 (2 ^ (3)))) + v20) + bitsV .xor .u32 (bitsV .xor .u32 v17 v18) (Int.fdiv v16 (2 ^ (10))))))))] 1 (by simp [-List.reduceReplicate, sOf_set, ofI_set, allU8_set, F12]) (by simp [-List.reduceReplicate, sOf_set, ofI_set, allU8_set, F12]) ?_
   refine RG [] [none, none, none] fun _ _ g r => ?_
   try simp [-List.reduceReplicate, sOf_set, ofI_set, allU8_set, F12]
   and_intros <;> first | exact g _ (by kernel_rfl) | refine r _ _ _ ?_ | omega | (simp [-List.reduceReplicate, sOf_set, ofI_set, allU8_set, maxLen, F12] <;> omega)
   refine hK505 _ _ _ ?_
   exact NX (k' := n2) ((IntKind.wrap .i64 (v11 + 1), v12.set (v11).toNat (IntKind.wrap .u32 (IntKind.wrap .u32 (IntKind.wrap .u32 (v19 + bitsV .xor .u32 (bitsV .xor .u32 v14 v15) (Int.fdiv v13 (2 ^ (3)))) + v20) + bitsV .xor .u32 (bitsV .xor .u32 v17 v18) (Int.fdiv v16 (2 ^ (10))))))) hF (by simp [-List.reduceReplicate, sOf_set, ofI_set, allU8_set, F12]) (by simp [-List.reduceReplicate, sOf_set, ofI_set, allU8_set, F12])
  ·replace hF := ite_f h18 hF
   have h18_ := h18
   try simp [-List.reduceReplicate] at h18_
   have F13 := And.intro F4 (And.intro h18 h18_)
   refine CF (by simp [-List.reduceReplicate, sOf_set, ofI_set, allU8_set, F13] <;> omega) ?_
   refine AW.exit ?_
   try simp [-List.reduceReplicate]
   refine hK470 _ _ _ ?_
   refine WK [(0, Lw v0), (2, Lw v2), (7, AV.slc 0 0 1 v12.length true)] [(0, .cells (List.map (AV.int .u32) v12))] 1 (by simp [-List.reduceReplicate, sOf_set, ofI_set, allU8_set, F13]) (by simp [-List.reduceReplicate, sOf_set, ofI_set, allU8_set, F13]) ?_
   refine AW.frz 0 (o := .cells (List.map (AV.int .u32) v12)) (by simp [-List.reduceReplicate, sOf_set, ofI_set, allU8_set, F13]) rfl [(7, AV.lst false true (List.map (AV.int .u32) v12))] [] ⟨(.l (by simp) (by simp) (by simp) (by simp)), trivial⟩ trivial ?_
   refine WK [(0, Lw v0), (2, Lw v2), (7, AV.lst false true (List.map (AV.int .u32) v12))] [] 1 (by simp [-List.reduceReplicate, sOf_set, ofI_set, allU8_set, F13]) (by simp [-List.reduceReplicate, sOf_set, ofI_set, allU8_set, F13]) ?_
   refine SQ [123] [none, none, none] fun _ _ g r => ?_
   obtain ⟨h53, hF⟩ := chk_elim hF
   have h53_ := h53
   try simp [-List.reduceReplicate] at h53_
   have F14 := And.intro F13 h53
   try simp [-List.reduceReplicate, sOf_set, ofI_set, allU8_set, F14]
   and_intros <;> first | exact g _ (by kernel_rfl) | refine r _ _ _ ?_ | omega | (simp [-List.reduceReplicate, sOf_set, ofI_set, allU8_set, maxLen, F14] <;> omega)
   refine WK [(0, Lw v0), (2, Lw v2), (7, AV.lst false true (List.map (AV.int .u32) v12)), (12, AV.slc 1 0 1 v0.length false)] [(1, .grow (List.map (AV.int .u32) v0))] 2 (by simp [-List.reduceReplicate, sOf_set, ofI_set, allU8_set, F14]) (by simp [-List.reduceReplicate, sOf_set, ofI_set, allU8_set, F14]) ?_
   refine AW.seq fun K588 hK588 => ?_
   refine SQ [] [none] fun _ _ g r => ?_
   try simp [-List.reduceReplicate, sOf_set, ofI_set, allU8_set, F14]
   and_intros <;> first | exact g _ (by kernel_rfl) | refine r _ _ _ ?_ | omega | (simp [-List.reduceReplicate, sOf_set, ofI_set, allU8_set, maxLen, F14] <;> omega)
   refine WK [(0, Lw v0), (2, Lw v2), (7, AV.lst false true (List.map (AV.int .u32) v12)), (12, AV.slc 1 0 1 v0.length false), (13, Iz 0)] [(1, .grow (List.map (AV.int .u32) v0))] 2 (by simp [-List.reduceReplicate, sOf_set, ofI_set, allU8_set, F14]) (by simp [-List.reduceReplicate, sOf_set, ofI_set, allU8_set, F14]) ?_
   refine AW.block ?_
   refine RM h0 [(0, 1)] [(0, Lw v0), (2, Lw v2), (7, AV.lst false true (List.map (AV.int .u32) v12)), (12, AV.slc 0 0 1 v0.length false), (13, Iz 0)] [(0, .grow (List.map (AV.int .u32) v0))] 1 (by simp [-List.reduceReplicate, sOf_set, ofI_set, allU8_set, F14]) (by simp [-List.reduceReplicate, sOf_set, ofI_set, allU8_set, F14]) ?_
   refine AW.loopF (α := (Int × (List Int))) (fun n (v21, v22) => ref01_block.L3 k v0 v2 v12 n v21 v22 = some v3) (fun (v21, v22) => [(0, Lw v0), (2, Lw v2), (7, AV.lst false true (List.map (AV.int .u32) v12)), (12, AV.slc 0 0 1 v22.length false), (13, Iz v21)]) (fun (v21, v22) => [(0, .grow (List.map (AV.int .u32) v22))]) 1 k ((0, v0)) hF (by simp [-List.reduceReplicate, sOf_set, ofI_set, allU8_set, F14]) (by simp [-List.reduceReplicate, sOf_set, ofI_set, allU8_set, F14]) (by simp) ?_
   rintro (_|n3) ⟨v21, v22⟩ hF K641 hK641
   ·try dsimp only at hF
    rw [ref01_block.L3] at hF; cases hF
   try dsimp only at hF
   rw [ref01_block.L3] at hF
   refine AW.seq fun K643 hK643 => ?_
   refine SQ [] [none, none] fun _ _ g r => ?_
   try simp [-List.reduceReplicate, sOf_set, ofI_set, allU8_set, F14]
   and_intros <;> first | exact g _ (by kernel_rfl) | refine r _ _ _ ?_ | omega | (simp [-List.reduceReplicate, sOf_set, ofI_set, allU8_set, maxLen, F14] <;> omega)
   refine WK [(0, Lw v0), (2, Lw v2), (7, AV.lst false true (List.map (AV.int .u32) v12)), (12, AV.slc 0 0 1 v22.length false), (13, Iz v21), (125, AV.bool (decide (v21 < 64)))] [(0, .grow (List.map (AV.int .u32) v22))] 1 (by simp [-List.reduceReplicate, sOf_set, ofI_set, allU8_set, F14]) (by simp [-List.reduceReplicate, sOf_set, ofI_set, allU8_set, F14]) ?_
   by_cases h54 : v21 < 64
   ·replace hF := ite_t h54 hF
    have h54_ := h54
    try simp [-List.reduceReplicate] at h54_
    have F15 := And.intro F14 (And.intro h54 h54_)
    refine CT (by simp [-List.reduceReplicate, sOf_set, ofI_set, allU8_set, F15] <;> omega) ?_
    refine AW.skip ?_
    refine hK643 _ _ _ ?_
    refine WK [(0, Lw v0), (2, Lw v2), (7, AV.lst false true (List.map (AV.int .u32) v12)), (12, AV.slc 0 0 1 v22.length false), (13, Iz v21)] [(0, .grow (List.map (AV.int .u32) v22))] 1 (by simp [-List.reduceReplicate, sOf_set, ofI_set, allU8_set, F15]) (by simp [-List.reduceReplicate, sOf_set, ofI_set, allU8_set, F15]) ?_
    refine AW.frz 0 (o := .grow (List.map (AV.int .u32) v22)) (by simp [-List.reduceReplicate, sOf_set, ofI_set, allU8_set, F15]) rfl [(12, Lw v22)] [] ⟨(.l (by simp) (by simp) (by simp) (by simp)), trivial⟩ trivial ?_
    refine WK [(0, Lw v0), (2, Lw v2), (7, AV.lst false true (List.map (AV.int .u32) v12)), (12, Lw v22), (13, Iz v21)] [] 1 (by simp [-List.reduceReplicate, sOf_set, ofI_set, allU8_set, F15]) (by simp [-List.reduceReplicate, sOf_set, ofI_set, allU8_set, F15]) ?_
    refine AW.seq fun K651 hK651 => ?_
    refine AW.block ?_
    refine SQ [] [none, none, none, none, none, none, none, none, none, none, none, none, none, none, none] fun _ _ g r => ?_
    obtain ⟨v23, h55, h56, h57, hF⟩ := idx_elim hF
    have h57_ := get_of h57
    try simp [-List.reduceReplicate] at h57_
    have h56_ := h56
    try simp [-List.reduceReplicate] at h56_
    have F16 := And.intro F15 (And.intro h55 (And.intro h56 (And.intro h57 (And.intro h57_ h56_))))
    try simp [-List.reduceReplicate, sOf_set, ofI_set, allU8_set, F16]
    and_intros
    try any_goals first | omega | (simp [-List.reduceReplicate, sOf_set, ofI_set, allU8_set, maxLen, F16] <;> omega)
    obtain ⟨v24, h58, hF⟩ := bnd1_elim hF
    refine AC (w_ref01_turn k _ _ _ h58) (.cons (.same (by simp [-List.reduceReplicate, sOf_set, ofI_set, allU8_set, F16])) (.cons (.same (by simp [-List.reduceReplicate, sOf_set, ofI_set, allU8_set, F16])) .nil)) ?_
    try simp [-List.reduceReplicate, sOf_set, ofI_set, allU8_set, F16]
    and_intros
    try any_goals first | omega | (simp [-List.reduceReplicate, sOf_set, ofI_set, allU8_set, maxLen, F16] <;> omega)
    obtain ⟨v25, h59, hF⟩ := bnd1_elim hF
    refine AC (w_ref01_turn k _ _ _ h59) (.cons (.same (by simp [-List.reduceReplicate, sOf_set, ofI_set, allU8_set, F16])) (.cons (.same (by simp [-List.reduceReplicate, sOf_set, ofI_set, allU8_set, F16])) .nil)) ?_
    try simp [-List.reduceReplicate, sOf_set, ofI_set, allU8_set, F16]
    and_intros
    try any_goals first | omega | (simp [-List.reduceReplicate, sOf_set, ofI_set, allU8_set, maxLen, F16] <;> omega)
    obtain ⟨v26, h60, hF⟩ := bnd1_elim hF
    refine AC (w_ref01_turn k _ _ _ h60) (.cons (.same (by simp [-List.reduceReplicate, sOf_set, ofI_set, allU8_set, F16])) (.cons (.same (by simp [-List.reduceReplicate, sOf_set, ofI_set, allU8_set, F16])) .nil)) ?_
    try simp [-List.reduceReplicate, sOf_set, ofI_set, allU8_set, F16]
    and_intros <;> first | exact g _ (by kernel_rfl) | refine r _ _ _ ?_ | omega | (simp [-List.reduceReplicate, sOf_set, ofI_set, allU8_set, maxLen, F16] <;> omega)
    refine WK [(0, Lw v0), (2, Lw v2), (7, AV.lst false true (List.map (AV.int .u32) v12)), (12, Lw v22), (13, Iz v21), (14, AV.int .u32 (bitsV .xor .u32 (bitsV .xor .u32 v24 v25) v26))] [] 1 (by simp [-List.reduceReplicate, sOf_set, ofI_set, allU8_set, F16]) (by simp [-List.reduceReplicate, sOf_set, ofI_set, allU8_set, F16]) ?_
    refine SQ [] [none, none, none, none, none, none, none, none, none, none, none, none, none, none, none, none, none] fun _ _ g r => ?_
    obtain ⟨v27, h61, h62, h63, hF⟩ := idx_elim hF
    have h63_ := get_of h63
    try simp [-List.reduceReplicate] at h63_
    have h62_ := h62
    try simp [-List.reduceReplicate] at h62_
    obtain ⟨v28, h64, h65, h66, hF⟩ := idx_elim hF
    have h66_ := get_of h66
    try simp [-List.reduceReplicate] at h66_
    have h65_ := h65
    try simp [-List.reduceReplicate] at h65_
    have F17 := And.intro F16 (And.intro h61 (And.intro h62 (And.intro h63 (And.intro h63_ (And.intro h62_ (And.intro h64 (And.intro h65 (And.intro h66 (And.intro h66_ h65_)))))))))
    try simp [-List.reduceReplicate, sOf_set, ofI_set, allU8_set, F17]
    and_intros <;> first | exact g _ (by kernel_rfl) | refine r _ _ _ ?_ | omega | (simp [-List.reduceReplicate, sOf_set, ofI_set, allU8_set, maxLen, F17] <;> omega)
    refine WK [(0, Lw v0), (2, Lw v2), (7, AV.lst false true (List.map (AV.int .u32) v12)), (12, Lw v22), (13, Iz v21), (14, AV.int .u32 (bitsV .xor .u32 (bitsV .xor .u32 v24 v25) v26)), (15, AV.int .u32 (bitsV .xor .u32 (bitsV .and .u32 v23 v27) (bitsV .and .u32 (bitsV .xor .u32 (IntKind.max .u32) v23) v28)))] [] 1 (by simp [-List.reduceReplicate, sOf_set, ofI_set, allU8_set, F17]) (by simp [-List.reduceReplicate, sOf_set, ofI_set, allU8_set, F17]) ?_
    refine SQ [] [none, none, none, none, none, none, none, none, none, none, none, none, none, none, none, none, none, none] fun _ _ g r => ?_
    obtain ⟨v29, h67, h68, h69, hF⟩ := idx_elim hF
    have h69_ := get_of h69
    try simp [-List.reduceReplicate] at h69_
    have h68_ := h68
    try simp [-List.reduceReplicate] at h68_
    obtain ⟨v30, h70, h71, h72, hF⟩ := idx_elim hF
    have h72_ := get_of h72
    try simp [-List.reduceReplicate] at h72_
    have h71_ := h71
    try simp [-List.reduceReplicate] at h71_
    obtain ⟨v31, h73, h74, h75, hF⟩ := idx_elim hF
    have h75_ := get_of h75
    try simp [-List.reduceReplicate] at h75_
    have h74_ := h74
    try simp [-List.reduceReplicate] at h74_
    have F18 := And.intro F17 (And.intro h67 (And.intro h68 (And.intro h69 (And.intro h69_ (And.intro h68_ (And.intro h70 (And.intro h71 (And.intro h72 (And.intro h72_ (And.intro h71_ (And.intro h73 (And.intro h74 (And.intro h75 (And.intro h75_ h74_))))))))))))))
    try simp [-List.reduceReplicate, sOf_set, ofI_set, allU8_set, F18]
    and_intros <;> first | exact g _ (by kernel_rfl) | refine r _ _ _ ?_ | omega | (simp [-List.reduceReplicate, sOf_set, ofI_set, allU8_set, maxLen, F18] <;> omega)
    refine WK [(0, Lw v0), (2, Lw v2), (7, AV.lst false true (List.map (AV.int .u32) v12)), (12, Lw v22), (13, Iz v21), (16, AV.int .u32 (IntKind.wrap .u32 (IntKind.wrap .u32 (IntKind.wrap .u32 (IntKind.wrap .u32 (v29 + bitsV .xor .u32 (bitsV .xor .u32 v24 v25) v26) + bitsV .xor .u32 (bitsV .and .u32 v23 v27) (bitsV .and .u32 (bitsV .xor .u32 (IntKind.max .u32) v23) v28)) + v30) + v31)))] [] 1 (by simp [-List.reduceReplicate, sOf_set, ofI_set, allU8_set, F18]) (by simp [-List.reduceReplicate, sOf_set, ofI_set, allU8_set, F18]) ?_
    refine SQ [] [none, none, none, none, none, none, none, none, none, none, none, none, none, none, none] fun _ _ g r => ?_
    obtain ⟨v32, h76, h77, h78, hF⟩ := idx_elim hF
    have h78_ := get_of h78
    try simp [-List.reduceReplicate] at h78_
    have h77_ := h77
    try simp [-List.reduceReplicate] at h77_
    have h78z := head_of h78
    have F19 := And.intro F18 (And.intro h76 (And.intro h77 (And.intro h78 (And.intro h78_ (And.intro h77_ h78z)))))
    try simp [-List.reduceReplicate, sOf_set, ofI_set, allU8_set, F19]
    and_intros
    try any_goals first | omega | (simp [-List.reduceReplicate, sOf_set, ofI_set, allU8_set, maxLen, F19] <;> omega)
    obtain ⟨v33, h79, hF⟩ := bnd1_elim hF
    refine AC (w_ref01_turn k _ _ _ h79) (.cons (.same (by simp [-List.reduceReplicate, sOf_set, ofI_set, allU8_set, F19])) (.cons (.same (by simp [-List.reduceReplicate, sOf_set, ofI_set, allU8_set, F19])) .nil)) ?_
    try simp [-List.reduceReplicate, sOf_set, ofI_set, allU8_set, F19]
    and_intros
    try any_goals first | omega | (simp [-List.reduceReplicate, sOf_set, ofI_set, allU8_set, maxLen, F19] <;> omega)
    obtain ⟨v34, h80, hF⟩ := bnd1_elim hF
    refine AC (w_ref01_turn k _ _ _ h80) (.cons (.same (by simp [-List.reduceReplicate, sOf_set, ofI_set, allU8_set, F19])) (.cons (.same (by simp [-List.reduceReplicate, sOf_set, ofI_set, allU8_set, F19])) .nil)) ?_
    try simp [-List.reduceReplicate, sOf_set, ofI_set, allU8_set, F19]
    and_intros
    try any_goals first | omega | (simp [-List.reduceReplicate, sOf_set, ofI_set, allU8_set, maxLen, F19] <;> omega)
    obtain ⟨v35, h81, hF⟩ := bnd1_elim hF
    refine AC (w_ref01_turn k _ _ _ h81) (.cons (.same (by simp [-List.reduceReplicate, sOf_set, ofI_set, allU8_set, F19])) (.cons (.same (by simp [-List.reduceReplicate, sOf_set, ofI_set, allU8_set, F19])) .nil)) ?_
    try simp [-List.reduceReplicate, sOf_set, ofI_set, allU8_set, F19]
    and_intros <;> first | exact g _ (by kernel_rfl) | refine r _ _ _ ?_ | omega | (simp [-List.reduceReplicate, sOf_set, ofI_set, allU8_set, maxLen, F19] <;> omega)
    refine WK [(0, Lw v0), (2, Lw v2), (7, AV.lst false true (List.map (AV.int .u32) v12)), (12, Lw v22), (13, Iz v21), (14, AV.int .u32 (bitsV .xor .u32 (bitsV .xor .u32 v33 v34) v35)), (16, AV.int .u32 (IntKind.wrap .u32 (IntKind.wrap .u32 (IntKind.wrap .u32 (IntKind.wrap .u32 (v29 + bitsV .xor .u32 (bitsV .xor .u32 v24 v25) v26) + bitsV .xor .u32 (bitsV .and .u32 v23 v27) (bitsV .and .u32 (bitsV .xor .u32 (IntKind.max .u32) v23) v28)) + v30) + v31)))] [] 1 (by simp [-List.reduceReplicate, sOf_set, ofI_set, allU8_set, F19]) (by simp [-List.reduceReplicate, sOf_set, ofI_set, allU8_set, F19]) ?_
    refine SQ [] [none, none, none, none, none, none, none, none, none, none, none, none, none, none, none, none, none, none, none, none, none, none, none, none] fun _ _ g r => ?_
    obtain ⟨v36, h82, h83, h84, hF⟩ := idx_elim hF
    have h84_ := get_of h84
    try simp [-List.reduceReplicate] at h84_
    have h83_ := h83
    try simp [-List.reduceReplicate] at h83_
    obtain ⟨v37, h85, h86, h87, hF⟩ := idx_elim hF
    have h87_ := get_of h87
    try simp [-List.reduceReplicate] at h87_
    have h86_ := h86
    try simp [-List.reduceReplicate] at h86_
    have F20 := And.intro F19 (And.intro h82 (And.intro h83 (And.intro h84 (And.intro h84_ (And.intro h83_ (And.intro h85 (And.intro h86 (And.intro h87 (And.intro h87_ h86_)))))))))
    try simp [-List.reduceReplicate, sOf_set, ofI_set, allU8_set, F20]
    and_intros <;> first | exact g _ (by kernel_rfl) | refine r _ _ _ ?_ | omega | (simp [-List.reduceReplicate, sOf_set, ofI_set, allU8_set, maxLen, F20] <;> omega)
    refine WK [(0, Lw v0), (2, Lw v2), (7, AV.lst false true (List.map (AV.int .u32) v12)), (12, Lw v22), (13, Iz v21), (14, AV.int .u32 (bitsV .xor .u32 (bitsV .xor .u32 v33 v34) v35)), (16, AV.int .u32 (IntKind.wrap .u32 (IntKind.wrap .u32 (IntKind.wrap .u32 (IntKind.wrap .u32 (v29 + bitsV .xor .u32 (bitsV .xor .u32 v24 v25) v26) + bitsV .xor .u32 (bitsV .and .u32 v23 v27) (bitsV .and .u32 (bitsV .xor .u32 (IntKind.max .u32) v23) v28)) + v30) + v31))), (17, AV.int .u32 (bitsV .xor .u32 (bitsV .xor .u32 (bitsV .and .u32 v32 v36) (bitsV .and .u32 v32 v37)) (bitsV .and .u32 v36 v37)))] [] 1 (by simp [-List.reduceReplicate, sOf_set, ofI_set, allU8_set, F20]) (by simp [-List.reduceReplicate, sOf_set, ofI_set, allU8_set, F20]) ?_
    refine RG [240] [none, none, none, none, none, none, none, none, none, none, none, none, none, none, none, none, none, none, none, none, none, none, none, none, none, none, none, none, none, none] fun _ _ g r => ?_
    obtain ⟨v38, h88, h89, h90, hF⟩ := idx_elim hF
    have h90_ := get_of h90
    try simp [-List.reduceReplicate] at h90_
    have h89_ := h89
    try simp [-List.reduceReplicate] at h89_
    have F21 := And.intro F20 (And.intro h88 (And.intro h89 (And.intro h90 (And.intro h90_ h89_))))
    try simp [-List.reduceReplicate, sOf_set, ofI_set, allU8_set, F21]
    and_intros <;> first | exact g _ (by kernel_rfl) | refine r _ _ _ ?_ | omega | (simp [-List.reduceReplicate, sOf_set, ofI_set, allU8_set, maxLen, F21] <;> omega)
    refine hK651 _ _ _ ?_
    refine WK [(0, Lw v0), (2, Lw v2), (7, AV.lst false true (List.map (AV.int .u32) v12)), (12, AV.slc 1 0 1 (([IntKind.wrap .u32 (IntKind.wrap .u32 (IntKind.wrap .u32 (IntKind.wrap .u32 (IntKind.wrap .u32 (IntKind.wrap .u32 (v29 + bitsV .xor .u32 (bitsV .xor .u32 v24 v25) v26) + bitsV .xor .u32 (bitsV .and .u32 v23 v27) (bitsV .and .u32 (bitsV .xor .u32 (IntKind.max .u32) v23) v28)) + v30) + v31) + bitsV .xor .u32 (bitsV .xor .u32 v33 v34) v35) + bitsV .xor .u32 (bitsV .xor .u32 (bitsV .and .u32 v32 v36) (bitsV .and .u32 v32 v37)) (bitsV .and .u32 v36 v37)), v32, v36, v37, IntKind.wrap .u32 (v38 + IntKind.wrap .u32 (IntKind.wrap .u32 (IntKind.wrap .u32 (IntKind.wrap .u32 (v29 + bitsV .xor .u32 (bitsV .xor .u32 v24 v25) v26) + bitsV .xor .u32 (bitsV .and .u32 v23 v27) (bitsV .and .u32 (bitsV .xor .u32 (IntKind.max .u32) v23) v28)) + v30) + v31)), v23, v27, v28] : List Int).length) true), (13, Iz v21)] [(1, .cells (List.map (AV.int .u32) ([IntKind.wrap .u32 (IntKind.wrap .u32 (IntKind.wrap .u32 (IntKind.wrap .u32 (IntKind.wrap .u32 (IntKind.wrap .u32 (v29 + bitsV .xor .u32 (bitsV .xor .u32 v24 v25) v26) + bitsV .xor .u32 (bitsV .and .u32 v23 v27) (bitsV .and .u32 (bitsV .xor .u32 (IntKind.max .u32) v23) v28)) + v30) + v31) + bitsV .xor .u32 (bitsV .xor .u32 v33 v34) v35) + bitsV .xor .u32 (bitsV .xor .u32 (bitsV .and .u32 v32 v36) (bitsV .and .u32 v32 v37)) (bitsV .and .u32 v36 v37)), v32, v36, v37, IntKind.wrap .u32 (v38 + IntKind.wrap .u32 (IntKind.wrap .u32 (IntKind.wrap .u32 (IntKind.wrap .u32 (v29 + bitsV .xor .u32 (bitsV .xor .u32 v24 v25) v26) + bitsV .xor .u32 (bitsV .and .u32 v23 v27) (bitsV .and .u32 (bitsV .xor .u32 (IntKind.max .u32) v23) v28)) + v30) + v31)), v23, v27, v28] : List Int)))] 2 (by simp [-List.reduceReplicate, sOf_set, ofI_set, allU8_set, F21]) (by simp [-List.reduceReplicate, sOf_set, ofI_set, allU8_set, F21]) ?_
    refine RG [] [none, none, none] fun _ _ g r => ?_
    try simp [-List.reduceReplicate, sOf_set, ofI_set, allU8_set, F21]
    and_intros <;> first | exact g _ (by kernel_rfl) | refine r _ _ _ ?_ | omega | (simp [-List.reduceReplicate, sOf_set, ofI_set, allU8_set, maxLen, F21] <;> omega)
    refine hK641 _ _ _ ?_
    refine RN h0 [(0, 1)] [(0, Lw v0), (2, Lw v2), (7, AV.lst false true (List.map (AV.int .u32) v12)), (12, AV.slc 0 0 1 (([IntKind.wrap .u32 (IntKind.wrap .u32 (IntKind.wrap .u32 (IntKind.wrap .u32 (IntKind.wrap .u32 (IntKind.wrap .u32 (v29 + bitsV .xor .u32 (bitsV .xor .u32 v24 v25) v26) + bitsV .xor .u32 (bitsV .and .u32 v23 v27) (bitsV .and .u32 (bitsV .xor .u32 (IntKind.max .u32) v23) v28)) + v30) + v31) + bitsV .xor .u32 (bitsV .xor .u32 v33 v34) v35) + bitsV .xor .u32 (bitsV .xor .u32 (bitsV .and .u32 v32 v36) (bitsV .and .u32 v32 v37)) (bitsV .and .u32 v36 v37)), v32, v36, v37, IntKind.wrap .u32 (v38 + IntKind.wrap .u32 (IntKind.wrap .u32 (IntKind.wrap .u32 (IntKind.wrap .u32 (v29 + bitsV .xor .u32 (bitsV .xor .u32 v24 v25) v26) + bitsV .xor .u32 (bitsV .and .u32 v23 v27) (bitsV .and .u32 (bitsV .xor .u32 (IntKind.max .u32) v23) v28)) + v30) + v31)), v23, v27, v28] : List Int).length) true), (13, Iz (IntKind.wrap .i64 (v21 + 1)))] [(0, .cells (List.map (AV.int .u32) ([IntKind.wrap .u32 (IntKind.wrap .u32 (IntKind.wrap .u32 (IntKind.wrap .u32 (IntKind.wrap .u32 (IntKind.wrap .u32 (v29 + bitsV .xor .u32 (bitsV .xor .u32 v24 v25) v26) + bitsV .xor .u32 (bitsV .and .u32 v23 v27) (bitsV .and .u32 (bitsV .xor .u32 (IntKind.max .u32) v23) v28)) + v30) + v31) + bitsV .xor .u32 (bitsV .xor .u32 v33 v34) v35) + bitsV .xor .u32 (bitsV .xor .u32 (bitsV .and .u32 v32 v36) (bitsV .and .u32 v32 v37)) (bitsV .and .u32 v36 v37)), v32, v36, v37, IntKind.wrap .u32 (v38 + IntKind.wrap .u32 (IntKind.wrap .u32 (IntKind.wrap .u32 (IntKind.wrap .u32 (v29 + bitsV .xor .u32 (bitsV .xor .u32 v24 v25) v26) + bitsV .xor .u32 (bitsV .and .u32 v23 v27) (bitsV .and .u32 (bitsV .xor .u32 (IntKind.max .u32) v23) v28)) + v30) + v31)), v23, v27, v28] : List Int)))] 1 (by simp [-List.reduceReplicate, sOf_set, ofI_set, allU8_set, F21]) (by simp [-List.reduceReplicate, sOf_set, ofI_set, allU8_set, F21]) ?_
    refine Can.flg [(12, AV.slc 0 0 1 (([IntKind.wrap .u32 (IntKind.wrap .u32 (IntKind.wrap .u32 (IntKind.wrap .u32 (IntKind.wrap .u32 (IntKind.wrap .u32 (v29 + bitsV .xor .u32 (bitsV .xor .u32 v24 v25) v26) + bitsV .xor .u32 (bitsV .and .u32 v23 v27) (bitsV .and .u32 (bitsV .xor .u32 (IntKind.max .u32) v23) v28)) + v30) + v31) + bitsV .xor .u32 (bitsV .xor .u32 v33 v34) v35) + bitsV .xor .u32 (bitsV .xor .u32 (bitsV .and .u32 v32 v36) (bitsV .and .u32 v32 v37)) (bitsV .and .u32 v36 v37)), v32, v36, v37, IntKind.wrap .u32 (v38 + IntKind.wrap .u32 (IntKind.wrap .u32 (IntKind.wrap .u32 (IntKind.wrap .u32 (v29 + bitsV .xor .u32 (bitsV .xor .u32 v24 v25) v26) + bitsV .xor .u32 (bitsV .and .u32 v23 v27) (bitsV .and .u32 (bitsV .xor .u32 (IntKind.max .u32) v23) v28)) + v30) + v31)), v23, v27, v28] : List Int).length) false)] [(0, .grow (List.map (AV.int .u32) ([IntKind.wrap .u32 (IntKind.wrap .u32 (IntKind.wrap .u32 (IntKind.wrap .u32 (IntKind.wrap .u32 (IntKind.wrap .u32 (v29 + bitsV .xor .u32 (bitsV .xor .u32 v24 v25) v26) + bitsV .xor .u32 (bitsV .and .u32 v23 v27) (bitsV .and .u32 (bitsV .xor .u32 (IntKind.max .u32) v23) v28)) + v30) + v31) + bitsV .xor .u32 (bitsV .xor .u32 v33 v34) v35) + bitsV .xor .u32 (bitsV .xor .u32 (bitsV .and .u32 v32 v36) (bitsV .and .u32 v32 v37)) (bitsV .and .u32 v36 v37)), v32, v36, v37, IntKind.wrap .u32 (v38 + IntKind.wrap .u32 (IntKind.wrap .u32 (IntKind.wrap .u32 (IntKind.wrap .u32 (v29 + bitsV .xor .u32 (bitsV .xor .u32 v24 v25) v26) + bitsV .xor .u32 (bitsV .and .u32 v23 v27) (bitsV .and .u32 (bitsV .xor .u32 (IntKind.max .u32) v23) v28)) + v30) + v31)), v23, v27, v28] : List Int)))] ⟨.slc, trivial⟩ ⟨⟨AObj.cells (List.map (AV.int .u32) ([IntKind.wrap .u32 (IntKind.wrap .u32 (IntKind.wrap .u32 (IntKind.wrap .u32 (IntKind.wrap .u32 (IntKind.wrap .u32 (v29 + bitsV .xor .u32 (bitsV .xor .u32 v24 v25) v26) + bitsV .xor .u32 (bitsV .and .u32 v23 v27) (bitsV .and .u32 (bitsV .xor .u32 (IntKind.max .u32) v23) v28)) + v30) + v31) + bitsV .xor .u32 (bitsV .xor .u32 v33 v34) v35) + bitsV .xor .u32 (bitsV .xor .u32 (bitsV .and .u32 v32 v36) (bitsV .and .u32 v32 v37)) (bitsV .and .u32 v36 v37)), v32, v36, v37, IntKind.wrap .u32 (v38 + IntKind.wrap .u32 (IntKind.wrap .u32 (IntKind.wrap .u32 (IntKind.wrap .u32 (v29 + bitsV .xor .u32 (bitsV .xor .u32 v24 v25) v26) + bitsV .xor .u32 (bitsV .and .u32 v23 v27) (bitsV .and .u32 (bitsV .xor .u32 (IntKind.max .u32) v23) v28)) + v30) + v31)), v23, v27, v28] : List Int)), by simp [-List.reduceReplicate, sOf_set, ofI_set, allU8_set, F21], (.gr (by simp [-List.reduceReplicate, sOf_set, ofI_set, allU8_set, F21]))⟩, trivial⟩ (by simp) ?_
    exact NX (k' := n3) ((IntKind.wrap .i64 (v21 + 1), ([IntKind.wrap .u32 (IntKind.wrap .u32 (IntKind.wrap .u32 (IntKind.wrap .u32 (IntKind.wrap .u32 (IntKind.wrap .u32 (v29 + bitsV .xor .u32 (bitsV .xor .u32 v24 v25) v26) + bitsV .xor .u32 (bitsV .and .u32 v23 v27) (bitsV .and .u32 (bitsV .xor .u32 (IntKind.max .u32) v23) v28)) + v30) + v31) + bitsV .xor .u32 (bitsV .xor .u32 v33 v34) v35) + bitsV .xor .u32 (bitsV .xor .u32 (bitsV .and .u32 v32 v36) (bitsV .and .u32 v32 v37)) (bitsV .and .u32 v36 v37)), v32, v36, v37, IntKind.wrap .u32 (v38 + IntKind.wrap .u32 (IntKind.wrap .u32 (IntKind.wrap .u32 (IntKind.wrap .u32 (v29 + bitsV .xor .u32 (bitsV .xor .u32 v24 v25) v26) + bitsV .xor .u32 (bitsV .and .u32 v23 v27) (bitsV .and .u32 (bitsV .xor .u32 (IntKind.max .u32) v23) v28)) + v30) + v31)), v23, v27, v28] : List Int))) hF (by simp [-List.reduceReplicate, sOf_set, ofI_set, allU8_set, F21]) (by simp [-List.reduceReplicate, sOf_set, ofI_set, allU8_set, F21])
   ·replace hF := ite_f h54 hF
    have h54_ := h54
    try simp [-List.reduceReplicate] at h54_
    have F22 := And.intro F14 (And.intro h54 h54_)
    refine CF (by simp [-List.reduceReplicate, sOf_set, ofI_set, allU8_set, F22] <;> omega) ?_
    refine AW.exit ?_
    try simp [-List.reduceReplicate]
    refine hK588 _ _ _ ?_
    refine AW.seq fun K689 hK689 => ?_
    refine SQ [] [none] fun _ _ g r => ?_
    try simp [-List.reduceReplicate, sOf_set, ofI_set, allU8_set, F22]
    and_intros <;> first | exact g _ (by kernel_rfl) | refine r _ _ _ ?_ | omega | (simp [-List.reduceReplicate, sOf_set, ofI_set, allU8_set, maxLen, F22] <;> omega)
    refine WK [(0, Lw v0), (12, AV.slc 0 0 1 v22.length false), (18, Iz 0)] [(0, .grow (List.map (AV.int .u32) v22))] 1 (by simp [-List.reduceReplicate, sOf_set, ofI_set, allU8_set, F22]) (by simp [-List.reduceReplicate, sOf_set, ofI_set, allU8_set, F22]) ?_
    refine AW.block ?_
    refine AW.loopF (α := (Int × (List Int))) (fun n (v39, v40) => ref01_block.L4 k v0 n v39 v40 = some v3) (fun (v39, v40) => [(0, Lw v0), (12, AV.slc 0 0 1 v40.length false), (18, Iz v39)]) (fun (v39, v40) => [(0, .grow (List.map (AV.int .u32) v40))]) 1 k ((0, v22)) hF (by simp [-List.reduceReplicate, sOf_set, ofI_set, allU8_set, F22]) (by simp [-List.reduceReplicate, sOf_set, ofI_set, allU8_set, F22]) (by simp) ?_
    rintro (_|n4) ⟨v39, v40⟩ hF K712 hK712
    ·try dsimp only at hF
     rw [ref01_block.L4] at hF; cases hF
    try dsimp only at hF
    rw [ref01_block.L4] at hF
    refine AW.seq fun K714 hK714 => ?_
    refine SQ [] [none, none] fun _ _ g r => ?_
    try simp [-List.reduceReplicate, sOf_set, ofI_set, allU8_set, F22]
    and_intros <;> first | exact g _ (by kernel_rfl) | refine r _ _ _ ?_ | omega | (simp [-List.reduceReplicate, sOf_set, ofI_set, allU8_set, maxLen, F22] <;> omega)
    refine WK [(0, Lw v0), (12, AV.slc 0 0 1 v40.length false), (18, Iz v39), (242, AV.bool (decide (v39 < 8)))] [(0, .grow (List.map (AV.int .u32) v40))] 1 (by simp [-List.reduceReplicate, sOf_set, ofI_set, allU8_set, F22]) (by simp [-List.reduceReplicate, sOf_set, ofI_set, allU8_set, F22]) ?_
    by_cases h91 : v39 < 8
    ·replace hF := ite_t h91 hF
     have h91_ := h91
     try simp [-List.reduceReplicate] at h91_
     have F23 := And.intro F22 (And.intro h91 h91_)
     refine CT (by simp [-List.reduceReplicate, sOf_set, ofI_set, allU8_set, F23] <;> omega) ?_
     refine AW.skip ?_
     refine hK714 _ _ _ ?_
     refine AW.seq fun K717 hK717 => ?_
     refine AW.block ?_
     refine RG [] [none, none, none, none, none, none, none, none, none, none, none] fun _ _ g r => ?_
     obtain ⟨⟨h92, h93⟩, hF⟩ := chk_elim hF
     have h93_ := ne_of_lt h93
     obtain ⟨v41, h94, h95, h96, hF⟩ := idx_elim hF
     have h96_ := get_of h96
     try simp [-List.reduceReplicate] at h96_
     have h95_ := h95
     try simp [-List.reduceReplicate] at h95_
     obtain ⟨v42, h97, h98, h99, hF⟩ := idx_elim hF
     have h99_ := get_of h99
     try simp [-List.reduceReplicate] at h99_
     have h98_ := h98
     try simp [-List.reduceReplicate] at h98_
     obtain ⟨⟨h100, h101⟩, hF⟩ := chk_elim hF
     have h101_ := ne_of_lt h101
     have F24 := And.intro F23 (And.intro h92 (And.intro h93 (And.intro h93_ (And.intro h94 (And.intro h95 (And.intro h96 (And.intro h96_ (And.intro h95_ (And.intro h97 (And.intro h98 (And.intro h99 (And.intro h99_ (And.intro h98_ (And.intro h100 (And.intro h101 h101_)))))))))))))))
     try simp [-List.reduceReplicate, sOf_set, ofI_set, allU8_set, F24]
     and_intros <;> first | exact g _ (by kernel_rfl) | refine r _ _ _ ?_ | omega | (simp [-List.reduceReplicate, sOf_set, ofI_set, allU8_set, maxLen, F24] <;> omega)
     refine hK717 _ _ _ ?_
     refine WK [(0, Lw v0), (12, AV.slc 0 0 1 ((v40.set (v39).toNat (IntKind.wrap .u32 (v41 + v42))).length) false), (18, Iz v39)] [(0, .grow (List.map (AV.int .u32) (v40.set (v39).toNat (IntKind.wrap .u32 (v41 + v42)))))] 1 (by simp [-List.reduceReplicate, sOf_set, ofI_set, allU8_set, F24]) (by simp [-List.reduceReplicate, sOf_set, ofI_set, allU8_set, F24]) ?_
     refine RG [] [none, none, none] fun _ _ g r => ?_
     try simp [-List.reduceReplicate, sOf_set, ofI_set, allU8_set, F24]
     and_intros <;> first | exact g _ (by kernel_rfl) | refine r _ _ _ ?_ | omega | (simp [-List.reduceReplicate, sOf_set, ofI_set, allU8_set, maxLen, F24] <;> omega)
     refine hK712 _ _ _ ?_
     exact NX (k' := n4) ((IntKind.wrap .i64 (v39 + 1), v40.set (v39).toNat (IntKind.wrap .u32 (v41 + v42)))) hF (by simp [-List.reduceReplicate, sOf_set, ofI_set, allU8_set, F24]) (by simp [-List.reduceReplicate, sOf_set, ofI_set, allU8_set, F24])
    ·replace hF := ite_f h91 hF
     have h91_ := h91
     try simp [-List.reduceReplicate] at h91_
     have F25 := And.intro F22 (And.intro h91 h91_)
     refine CF (by simp [-List.reduceReplicate, sOf_set, ofI_set, allU8_set, F25] <;> omega) ?_
     refine AW.exit ?_
     try simp [-List.reduceReplicate]
     refine hK689 _ _ _ ?_
     refine SQ [] [none, none] fun _ _ g r => ?_
     try simp [-List.reduceReplicate, sOf_set, ofI_set, allU8_set, F25]
     and_intros <;> first | exact g _ (by kernel_rfl) | refine r _ _ _ ?_ | omega | (simp [-List.reduceReplicate, sOf_set, ofI_set, allU8_set, maxLen, F25] <;> omega)
     refine WK [(6, AV.slc 0 0 1 v40.length false)] [(0, .grow (List.map (AV.int .u32) v40))] 1 (by simp [-List.reduceReplicate, sOf_set, ofI_set, allU8_set, F25]) (by simp [-List.reduceReplicate, sOf_set, ofI_set, allU8_set, F25]) ?_
     simp only [Option.some.injEq] at hF
     subst hF
     refine AW.ret (hQ _ _ _ ?_ (matchO_0 ?_)).1
     ·simp [Try.f69, F25]
     ·simp [F25]
end Go.TF
