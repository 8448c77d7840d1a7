/- Walks: the Go text computes the Lean functions (printed by a program of our own). -/
import Derived.Test.YtepdfenlkeaefaaIPu
import Derived.Test.YtepdfenlkeaefaaIAbsT
import Derived.Test.YtepdfenlkeaefaaIWa0
import Derived.Test.YtepdfenlkeaefaaIWa1
import Derived.Test.YtepdfenlkeaefaaIWa2
import Derived.Test.YtepdfenlkeaefaaIWa3
set_option linter.unusedVariables false
set_option linter.unusedSimpArgs false
set_option maxRecDepth 100000
set_option maxHeartbeats 4000000
namespace Go.TF
open Go Go.Abs Go.Proofs Go.Proofs.YtepdfenlkeaefaaIT
theorem w_roster_Minus (k : Nat) (v0 : (List Int)) (v1 : (List Int)) (v2 : (List Int)) (hF : roster_Minus k v0 v1 = some v2) :
  FCall Try.prog 88 [AV.lst false false (List.map (AV.int .i64) v0), AV.lst false false (List.map (AV.int .i64) v1)] [] (AV.slc 0 0 1 v2.length false) [some (.grow (List.map (AV.int .i64) v2))] := by
 unfold roster_Minus at hF
 refine EN Try.func88 ?_
 intro c0 w0 Q h0 hQ
 refine WK [(0, Lz v0), (1, Lz v1)] [] 0 (by simp) (by simp) ?_
 refine SQ [] [none] fun _ _ g r => ?_
 try simp
 and_intros <;> first | exact g _ (by kernel_rfl) | refine r _ _ _ ?_ | omega | (simp [maxLen] <;> omega)
 refine WK [(0, Lz v0), (1, Lz v1)] [] 0 (by simp) (by simp) ?_
 refine SQ [] [none, none, none, none, none, none, none, none] fun _ _ g r => ?_
 try simp
 and_intros
 try any_goals first | omega | (simp [maxLen] <;> omega)
 obtain ⟨v3, h1, hF⟩ := bnd1_elim hF
 refine AC (w_roster_of k _ _ h1) (.cons (.same (by simp)) .nil) ?_
 try simp
 and_intros
 try any_goals first | omega | (simp [maxLen] <;> omega)
 obtain ⟨v4, h2, hF⟩ := bnd1_elim hF
 refine AC (w_roster_of k _ _ h2) (.cons (.same (by simp)) .nil) ?_
 obtain ⟨h3, hF⟩ := chk_elim hF
 obtain ⟨h4, hF⟩ := chk_elim hF
 try simp [h3, h4]
 and_intros <;> first | exact g _ (by kernel_rfl) | refine r _ _ _ ?_ | omega | (simp [h3, h4, maxLen] <;> omega)
 refine WK [(5, AV.ptr 0 0), (6, AV.ptr 1 0)] [(0, .cells (List.map AV.bool v3)), (1, .cells (List.map AV.bool v4))] 2 (by simp [h3, h4]) (by simp [h3, h4]) ?_
 refine SQ [] [none, none, none] fun _ _ g r => ?_
 try simp [h3, h4]
 and_intros
 try any_goals first | omega | (simp [h3, h4, maxLen] <;> omega)
 obtain ⟨v5, h5, hF⟩ := bnd1_elim hF
 refine aCall_l (w_roster_keys_Minus_1 k _ _ _ h5) (by simp) [0, 1] [] [] rfl (.cons (.same (by simp [h3, h4])) .nil) (by simp [h3, h4]) (by decide) (by simp) (by simp) (.inl rfl) (by simp) (by simp) ?_
 try simp [h3, h4]
 and_intros <;> first | exact g _ (by kernel_rfl) | refine r _ _ _ ?_ | omega | (simp [h3, h4, maxLen] <;> omega)
 refine RM h0 [(0, 2)] [(4, AV.slc 0 0 1 v5.length false)] [(0, .grow (List.map (AV.int .i64) v5))] 1 (by simp [h3, h4]) (by simp [h3, h4]) ?_
 simp only [Option.some.injEq] at hF
 subst hF
 refine AW.ret (hQ _ _ _ ?_ (matchO_0 ?_)).1
 ·simp [Try.f88, h3, h4]
 ·simp [h3, h4]
theorem w_committee_Of (k : Nat) (v0 : (List Int)) (v1 : (List Int)) (v2 : (List Int)) (v3 : Int) (v4 : Int) (v5 : Int) (v6 : Int) (v7 : ByteArray) (v8 : (List Int)) (v9 : Int) (v10 : Int) (v11 : Int) (v12 : Int) (v13 : (List Int)) (v14 : Int) (hF : committee_Of k v0 v1 v2 v3 v4 v5 v6 v7 v8 v9 v10 v11 v12 = some (v13, v14)) :
  FCall Try.prog 52 [AV.agg [AV.lst false false (List.map (AV.int .i64) v0), AV.lst false false (List.map (AV.int .i64) v1), AV.lst false false (List.map (AV.int .i64) v2), AV.int .i64 v3, AV.int .i64 v4, AV.int .i64 v5, AV.int .i64 v6], AV.str v7, AV.lst false false (List.map (AV.int .i64) v8), AV.agg [AV.int .i64 v9, AV.int .i64 v10, AV.int .i64 v11, AV.int .i64 v12]] [] (AV.tup [AV.slc 0 0 1 v13.length false, AV.int .i64 v14]) [some (.grow (List.map (AV.int .i64) v13))] := by
 unfold committee_Of at hF
 refine EN Try.func52 ?_
 intro c0 w0 Q h0 hQ
 refine WK [(0, AV.agg [Lz v0, Lz v1, Lz v2, Iz v3, Iz v4, Iz v5, Iz v6]), (1, AV.str v7), (2, Lz v8), (3, AV.agg [Iz v9, Iz v10, Iz v11, Iz v12])] [] 0 (by simp) (by simp) ?_
 refine SQ [] [none, none, none, none] fun _ _ g r => ?_
 try simp
 and_intros <;> first | exact g _ (by kernel_rfl) | refine r _ _ _ ?_ | omega | (simp [maxLen] <;> omega)
 refine WK [(1, AV.str v7), (2, Lz v8), (4, AV.ptr 0 0), (7, AV.ptr 1 0)] [(0, .cells [Lz v0, Lz v1, Lz v2, Iz v3, Iz v4, Iz v5, Iz v6]), (1, .cells [Iz v9, Iz v10, Iz v11, Iz v12])] 2 (by simp) (by simp) ?_
 refine AW.seq fun K37 hK37 => ?_
 refine SQ [] [none, none, none] fun _ _ g r => ?_
 try simp
 and_intros
 try any_goals first | omega | (simp [maxLen] <;> omega)
 obtain ⟨v15, h1, hF⟩ := bnd1_elim hF
 refine AC (w_roster_Check k _ _ _ _ _ _ _ _ h1) (.cons (.same (by simp)) .nil) ?_
 try simp
 and_intros <;> first | exact g _ (by kernel_rfl) | refine r _ _ _ ?_ | omega | (simp [maxLen] <;> omega)
 refine WK [(1, AV.str v7), (2, Lz v8), (4, AV.ptr 0 0), (7, AV.ptr 1 0), (10, Iz v15)] [(0, .cells [Lz v0, Lz v1, Lz v2, Iz v3, Iz v4, Iz v5, Iz v6]), (1, .cells [Iz v9, Iz v10, Iz v11, Iz v12])] 2 (by simp) (by simp) ?_
 refine SQ [] [none, none] fun _ _ g r => ?_
 try simp
 and_intros <;> first | exact g _ (by kernel_rfl) | refine r _ _ _ ?_ | omega | (simp [maxLen] <;> omega)
 refine WK [(1, AV.str v7), (2, Lz v8), (4, AV.ptr 0 0), (7, AV.ptr 1 0), (10, Iz v15), (17, AV.bool (v15 != 0))] [(0, .cells [Lz v0, Lz v1, Lz v2, Iz v3, Iz v4, Iz v5, Iz v6]), (1, .cells [Iz v9, Iz v10, Iz v11, Iz v12])] 2 (by simp) (by simp) ?_
 by_cases h2 : v15 ≠ 0
 ·replace hF := ite_t h2 hF
  have h2_ := eqb_f h2
  have h2__ := neb_t h2
  have F1 := And.intro h2 (And.intro h2_ h2__)
  refine CT (by simp [F1] <;> omega) ?_
  refine SQ [] [none, none, none] fun _ _ g r => ?_
  try simp [F1]
  and_intros <;> first | exact g _ (by kernel_rfl) | refine r _ _ _ ?_ | omega | (simp [maxLen, F1] <;> omega)
  refine WK [(8, AV.lst true true (List.map (AV.int .i64) ([] : List Int))), (9, Iz v15)] [] 2 (by simp [F1]) (by simp [F1]) ?_
  refine AW.own' 8 1 true (by simp [F1]) (by decide) ?_
  refine RM h0 [(0, 2)] [(8, AV.slc 0 0 1 (([] : List Int).length) false), (9, Iz v15)] [(0, .grow (List.map (AV.int .i64) ([] : List Int)))] 1 (by simp [F1]) (by simp [F1]) ?_
  simp only [Option.some.injEq, Prod.mk.injEq] at hF
  obtain ⟨e0, e1⟩ := hF
  subst e0 e1
  refine AW.ret (hQ _ _ _ ?_ (matchO_0 ?_)).1
  ·simp [Try.f52, F1]
  ·simp [F1]
 ·replace hF := ite_f h2 hF
  have h2q : v15 = 0 := Classical.not_not.1 h2
  have h2_ := eqb_t h2q
  have h2__ := neb_f h2q
  have F2 := And.intro h2_ (And.intro h2__ h2q)
  refine CF (by simp [F2] <;> omega) ?_
  refine AW.skip ?_
  refine hK37 _ _ _ ?_
  refine AW.seq fun K45 hK45 => ?_
  refine AW.block ?_
  refine SQ [] [none, none, none, none] fun _ _ g r => ?_
  try simp [F2]
  and_intros
  try any_goals first | omega | (simp [maxLen, F2] <;> omega)
  obtain ⟨v16, h3, hF⟩ := bnd1_elim hF
  refine AC (w_roster_Valid k _ _ h3) (.cons (.same (by simp [F2])) .nil) ?_
  try simp [F2]
  and_intros <;> first | exact g _ (by kernel_rfl) | refine r _ _ _ ?_ | omega | (simp [maxLen, F2] <;> omega)
  refine WK [(1, AV.str v7), (2, Lz v8), (4, AV.ptr 0 0), (7, AV.ptr 1 0), (19, AV.bool (!v16))] [(0, .cells [Lz v0, Lz v1, Lz v2, Iz v3, Iz v4, Iz v5, Iz v6]), (1, .cells [Iz v9, Iz v10, Iz v11, Iz v12])] 2 (by simp [F2]) (by simp [F2]) ?_
  by_cases h4 : (!v16) = true
  ·replace hF := ite_t h4 hF
   have h4_ := h4
   try simp at h4_
   have F3 := And.intro F2 (And.intro h4 h4_)
   refine CT (by simp [F3] <;> omega) ?_
   refine SQ [] [none, none] fun _ _ g r => ?_
   try simp [F3]
   and_intros <;> first | exact g _ (by kernel_rfl) | refine r _ _ _ ?_ | omega | (simp [maxLen, F3] <;> omega)
   refine WK [(8, AV.lst true true (List.map (AV.int .i64) ([] : List Int))), (9, Iz 43)] [] 2 (by simp [F3]) (by simp [F3]) ?_
   refine AW.own' 8 1 true (by simp [F3]) (by decide) ?_
   refine RM h0 [(0, 2)] [(8, AV.slc 0 0 1 (([] : List Int).length) false), (9, Iz 43)] [(0, .grow (List.map (AV.int .i64) ([] : List Int)))] 1 (by simp [F3]) (by simp [F3]) ?_
   simp only [Option.some.injEq, Prod.mk.injEq] at hF
   obtain ⟨e0, e1⟩ := hF
   subst e0 e1
   refine AW.ret (hQ _ _ _ ?_ (matchO_0 ?_)).1
   ·simp [Try.f52, F3]
   ·simp [F3]
  ·replace hF := ite_f h4 hF
   have h4_ := h4
   try simp at h4_
   have F4 := And.intro F2 (And.intro h4 h4_)
   refine CF (by simp [F4] <;> omega) ?_
   refine SQ [] [none, none, none, none] fun _ _ g r => ?_
   try simp [F4]
   and_intros
   try any_goals first | omega | (simp [maxLen, F4] <;> omega)
   obtain ⟨v17, h5, hF⟩ := bnd1_elim hF
   refine AC (w_cases_Valid k _ _ _ _ _ h5) (.cons (.same (by simp [F4])) .nil) ?_
   try simp [F4]
   and_intros <;> first | exact g _ (by kernel_rfl) | refine r _ _ _ ?_ | omega | (simp [maxLen, F4] <;> omega)
   refine WK [(1, AV.str v7), (2, Lz v8), (4, AV.ptr 0 0), (7, AV.ptr 1 0), (23, AV.bool (!v17))] [(0, .cells [Lz v0, Lz v1, Lz v2, Iz v3, Iz v4, Iz v5, Iz v6]), (1, .cells [Iz v9, Iz v10, Iz v11, Iz v12])] 2 (by simp [F4]) (by simp [F4]) ?_
   by_cases h6 : (!v17) = true
   ·replace hF := ite_t h6 hF
    have h6_ := h6
    try simp at h6_
    have F5 := And.intro F4 (And.intro h6 h6_)
    refine CT (by simp [F5] <;> omega) ?_
    refine SQ [] [none, none] fun _ _ g r => ?_
    try simp [F5]
    and_intros <;> first | exact g _ (by kernel_rfl) | refine r _ _ _ ?_ | omega | (simp [maxLen, F5] <;> omega)
    refine WK [(8, AV.lst true true (List.map (AV.int .i64) ([] : List Int))), (9, Iz 41)] [] 2 (by simp [F5]) (by simp [F5]) ?_
    refine AW.own' 8 1 true (by simp [F5]) (by decide) ?_
    refine RM h0 [(0, 2)] [(8, AV.slc 0 0 1 (([] : List Int).length) false), (9, Iz 41)] [(0, .grow (List.map (AV.int .i64) ([] : List Int)))] 1 (by simp [F5]) (by simp [F5]) ?_
    simp only [Option.some.injEq, Prod.mk.injEq] at hF
    obtain ⟨e0, e1⟩ := hF
    subst e0 e1
    refine AW.ret (hQ _ _ _ ?_ (matchO_0 ?_)).1
    ·simp [Try.f52, F5]
    ·simp [F5]
   ·replace hF := ite_f h6 hF
    have h6_ := h6
    try simp at h6_
    have F6 := And.intro F4 (And.intro h6 h6_)
    refine CF (by simp [F6] <;> omega) ?_
    refine AW.skip ?_
    refine hK45 _ _ _ ?_
    refine SQ [] [none, none, none, none, none, none, none, none, none, none] fun _ _ g r => ?_
    try simp [F6]
    and_intros
    try any_goals first | omega | (simp [maxLen, F6] <;> omega)
    obtain ⟨v18, v19, h7, hF⟩ := bnd2_elim hF
    refine AC (w_committee_draw k _ _ _ _ _ _ _ _ _ _ _ _ _ _ _ _ h7) (.cons (.same (by simp [F6])) (.cons (.same (by simp [F6])) (.cons (.same (by simp [F6])) (.cons (.same (by simp [F6])) (.cons (.same (by simp [F6])) .nil))))) ?_
    try simp [F6]
    and_intros <;> first | exact g _ (by kernel_rfl) | refine r _ _ _ ?_ | omega | (simp [maxLen, F6] <;> omega)
    refine WK [(1, AV.str v7), (2, Lz v8), (4, AV.ptr 0 0), (7, AV.ptr 1 0), (11, AV.slc 2 0 1 v18.length false), (12, Iz v19)] [(0, .cells [Lz v0, Lz v1, Lz v2, Iz v3, Iz v4, Iz v5, Iz v6]), (1, .cells [Iz v9, Iz v10, Iz v11, Iz v12]), (2, .grow (List.map (AV.int .i64) v18))] 3 (by simp [F6]) (by simp [F6]) ?_
    refine AW.seq fun K54 hK54 => ?_
    refine SQ [] [none, none, none, some (37, false), some (37, false), some (37, false), none] fun _ _ g r => ?_
    by_cases h8 : v19 ≠ 0
    ·replace hF := ite_t h8 hF
     have h8_ := eqb_f h8
     have h8__ := neb_t h8
     have F7 := And.intro F6 (And.intro h8 (And.intro h8_ h8__))
     try simp [F7]
     and_intros <;> first | exact g _ (by kernel_rfl) | refine r _ _ _ ?_ | omega | (simp [maxLen, F7] <;> omega)
     refine WK [(1, AV.str v7), (2, Lz v8), (4, AV.ptr 0 0), (7, AV.ptr 1 0), (11, AV.slc 2 0 1 v18.length false), (12, Iz v19), (41, AV.bool true)] [(0, .cells [Lz v0, Lz v1, Lz v2, Iz v3, Iz v4, Iz v5, Iz v6]), (1, .cells [Iz v9, Iz v10, Iz v11, Iz v12]), (2, .grow (List.map (AV.int .i64) v18))] 3 (by simp [F7]) (by simp [F7]) ?_
     refine CT (by simp [F7]) ?_
     refine SQ [] [none, none, none, none] fun _ _ g r => ?_
     try simp [F7]
     and_intros <;> first | exact g _ (by kernel_rfl) | refine r _ _ _ ?_ | omega | (simp [maxLen, F7] <;> omega)
     refine RM h0 [(0, 2)] [(8, AV.slc 0 0 1 v18.length false), (9, Iz v19)] [(0, .grow (List.map (AV.int .i64) v18))] 1 (by simp [F7]) (by simp [F7]) ?_
     simp only [Option.some.injEq, Prod.mk.injEq] at hF
     obtain ⟨e0, e1⟩ := hF
     subst e0 e1
     refine AW.ret (hQ _ _ _ ?_ (matchO_0 ?_)).1
     ·simp [Try.f52, F7]
     ·simp [F7]
    ·replace hF := ite_f h8 hF
     have h8q : v19 = 0 := Classical.not_not.1 h8
     have h8_ := eqb_t h8q
     have h8__ := neb_f h8q
     have F8 := And.intro F6 (And.intro h8_ (And.intro h8__ h8q))
     try simp [F8]
     and_intros <;> first | exact g _ (by kernel_rfl) | refine r _ _ _ ?_ | omega | (simp [maxLen, F8] <;> omega)
     refine WK [(1, AV.str v7), (2, Lz v8), (4, AV.ptr 0 0), (7, AV.ptr 1 0), (11, AV.slc 2 0 1 v18.length false), (12, Iz v19), (41, AV.bool (v12 == 0))] [(0, .cells [Lz v0, Lz v1, Lz v2, Iz v3, Iz v4, Iz v5, Iz v6]), (1, .cells [Iz v9, Iz v10, Iz v11, Iz v12]), (2, .grow (List.map (AV.int .i64) v18))] 3 (by simp [F8]) (by simp [F8]) ?_
     by_cases h9 : v12 = 0
     ·replace hF := ite_t h9 hF
      have h9q : v12 = 0 := h9
      have h9_ := eqb_t h9q
      have h9__ := neb_f h9q
      have F9 := And.intro F8 (And.intro h9_ (And.intro h9__ h9q))
      refine CT (by simp [F9] <;> omega) ?_
      refine SQ [] [none, none, none, none] fun _ _ g r => ?_
      try simp [F9]
      and_intros <;> first | exact g _ (by kernel_rfl) | refine r _ _ _ ?_ | omega | (simp [maxLen, F9] <;> omega)
      refine RM h0 [(0, 2)] [(8, AV.slc 0 0 1 v18.length false), (9, Iz v19)] [(0, .grow (List.map (AV.int .i64) v18))] 1 (by simp [F9]) (by simp [F9]) ?_
      simp only [Option.some.injEq, Prod.mk.injEq] at hF
      obtain ⟨e0, e1⟩ := hF
      subst e0 e1
      refine AW.ret (hQ _ _ _ ?_ (matchO_0 ?_)).1
      ·simp [Try.f52, F9]
      ·simp [F9]
     ·replace hF := ite_f h9 hF
      have h9_ := eqb_f h9
      have h9__ := neb_t h9
      have F10 := And.intro F8 (And.intro h9 (And.intro h9_ h9__))
      refine CF (by simp [F10] <;> omega) ?_
      refine AW.skip ?_
      refine hK54 _ _ _ ?_
      refine WK [(1, AV.str v7), (2, Lz v8), (4, AV.ptr 0 0), (7, AV.ptr 1 0), (11, AV.slc 2 0 1 v18.length false)] [(0, .cells [Lz v0, Lz v1, Lz v2, Iz v3, Iz v4, Iz v5, Iz v6]), (1, .cells [Iz v9, Iz v10, Iz v11, Iz v12]), (2, .grow (List.map (AV.int .i64) v18))] 3 (by simp [F10]) (by simp [F10]) ?_
      refine AW.frz 2 (o := .grow (List.map (AV.int .i64) v18)) (by simp [F10]) rfl [(11, Lz v18)] [] ⟨(.l (by simp) (by simp) (by simp) (by simp)), trivial⟩ trivial ?_
      refine WK [(1, AV.str v7), (2, Lz v8), (4, AV.ptr 0 0), (7, AV.ptr 1 0), (11, Lz v18)] [(0, .cells [Lz v0, Lz v1, Lz v2, Iz v3, Iz v4, Iz v5, Iz v6]), (1, .cells [Iz v9, Iz v10, Iz v11, Iz v12])] 3 (by simp [F10]) (by simp [F10]) ?_
      refine SQ [] [none, none, none, none] fun _ _ g r => ?_
      try simp [F10]
      and_intros
      try any_goals first | omega | (simp [maxLen, F10] <;> omega)
      obtain ⟨v20, h10, hF⟩ := bnd1_elim hF
      refine AC (w_roster_Minus k _ _ _ h10) (.cons (.same (by simp [F10])) (.cons (.same (by simp [F10])) .nil)) ?_
      try simp [F10]
      and_intros <;> first | exact g _ (by kernel_rfl) | refine r _ _ _ ?_ | omega | (simp [maxLen, F10] <;> omega)
      refine WK [(1, AV.str v7), (4, AV.ptr 0 0), (7, AV.ptr 1 0), (13, AV.slc 3 0 1 v20.length false)] [(0, .cells [Lz v0, Lz v1, Lz v2, Iz v3, Iz v4, Iz v5, Iz v6]), (1, .cells [Iz v9, Iz v10, Iz v11, Iz v12]), (3, .grow (List.map (AV.int .i64) v20))] 4 (by simp [F10]) (by simp [F10]) ?_
      refine AW.frz 3 (o := .grow (List.map (AV.int .i64) v20)) (by simp [F10]) rfl [(13, Lz v20)] [] ⟨(.l (by simp) (by simp) (by simp) (by simp)), trivial⟩ trivial ?_
      refine WK [(1, AV.str v7), (4, AV.ptr 0 0), (7, AV.ptr 1 0), (13, Lz v20)] [(0, .cells [Lz v0, Lz v1, Lz v2, Iz v3, Iz v4, Iz v5, Iz v6]), (1, .cells [Iz v9, Iz v10, Iz v11, Iz v12])] 4 (by simp [F10]) (by simp [F10]) ?_
      refine AW.seq fun K61 hK61 => ?_
      refine SQ [] [none, none, none] fun _ _ g r => ?_
      try simp [F10]
      and_intros <;> first | exact g _ (by kernel_rfl) | refine r _ _ _ ?_ | omega | (simp [maxLen, F10] <;> omega)
      refine WK [(1, AV.str v7), (4, AV.ptr 0 0), (7, AV.ptr 1 0), (13, Lz v20), (49, AV.bool ((v20.length : Int) == 0))] [(0, .cells [Lz v0, Lz v1, Lz v2, Iz v3, Iz v4, Iz v5, Iz v6]), (1, .cells [Iz v9, Iz v10, Iz v11, Iz v12])] 4 (by simp [F10]) (by simp [F10]) ?_
      by_cases h11 : (v20.length : Int) = 0
      ·replace hF := ite_t h11 hF
       have h11q : (v20.length : Int) = 0 := h11
       have h11_ := eqb_t h11q
       have h11__ := neb_f h11q
       have F11 := And.intro F10 (And.intro h11_ (And.intro h11__ h11q))
       refine CT (by simp [F11] <;> omega) ?_
       refine SQ [] [none, none] fun _ _ g r => ?_
       try simp [F11]
       and_intros <;> first | exact g _ (by kernel_rfl) | refine r _ _ _ ?_ | omega | (simp [maxLen, F11] <;> omega)
       refine WK [(8, AV.lst true true (List.map (AV.int .i64) ([] : List Int))), (9, Iz 44)] [] 4 (by simp [F11]) (by simp [F11]) ?_
       refine AW.own' 8 1 true (by simp [F11]) (by decide) ?_
       refine RM h0 [(0, 4)] [(8, AV.slc 0 0 1 (([] : List Int).length) false), (9, Iz 44)] [(0, .grow (List.map (AV.int .i64) ([] : List Int)))] 1 (by simp [F11]) (by simp [F11]) ?_
       simp only [Option.some.injEq, Prod.mk.injEq] at hF
       obtain ⟨e0, e1⟩ := hF
       subst e0 e1
       refine AW.ret (hQ _ _ _ ?_ (matchO_0 ?_)).1
       ·simp [Try.f52, F11]
       ·simp [F11]
      ·replace hF := ite_f h11 hF
       have h11_ := eqb_f h11
       have h11__ := neb_t h11
       have F12 := And.intro F10 (And.intro h11 (And.intro h11_ h11__))
       refine CF (by simp [F12] <;> omega) ?_
       refine AW.skip ?_
       refine hK61 _ _ _ ?_
       refine SQ [] [none, none, none, none, none, none, none, none, none] fun _ _ g r => ?_
       try simp [F12]
       and_intros
       try any_goals first | omega | (simp [maxLen, F12] <;> omega)
       obtain ⟨v21, v22, h12, hF⟩ := bnd2_elim hF
       refine AC (w_committee_draw k _ _ _ _ _ _ _ _ _ _ _ _ _ _ _ _ h12) (.cons (.same (by simp [F12])) (.cons (.same (by simp [F12])) (.cons (.same (by simp [F12])) (.cons (.same (by simp [F12])) (.cons (.same (by simp [F12])) .nil))))) ?_
       try simp [F12]
       and_intros <;> first | exact g _ (by kernel_rfl) | refine r _ _ _ ?_ | omega | (simp [maxLen, F12] <;> omega)
       refine RM h0 [(0, 4)] [(8, AV.slc 0 0 1 v21.length false), (9, Iz v22)] [(0, .grow (List.map (AV.int .i64) v21))] 1 (by simp [F12]) (by simp [F12]) ?_
       simp only [Option.some.injEq, Prod.mk.injEq] at hF
       obtain ⟨e0, e1⟩ := hF
       subst e0 e1
       refine AW.ret (hQ _ _ _ ?_ (matchO_0 ?_)).1
       ·simp [Try.f52, F12]
       ·simp [F12]
theorem w_ref24_Valid (k : Nat) (v0 : (List Int)) (v1 : Bool) (hF : ref24_Valid k v0 = some v1) :
  FCall Try.prog 90 [AV.lst false false (List.map (AV.int .i64) v0)] [] (AV.bool v1) [] := by
 unfold ref24_Valid at hF
 refine EN Try.func90 ?_
 intro c0 w0 Q h0 hQ
 refine WK [(0, Lz v0)] [] 0 (by simp) (by simp) ?_
 refine SQ [] [none] fun _ _ g r => ?_
 try simp
 and_intros <;> first | exact g _ (by kernel_rfl) | refine r _ _ _ ?_ | omega | (simp [maxLen] <;> omega)
 refine WK [(0, Lz v0)] [] 0 (by simp) (by simp) ?_
 refine AW.seq fun K115 hK115 => ?_
 refine SQ [] [none, none, none, none, some (7, false), some (7, false), some (7, false), none] fun _ _ g r => ?_
 by_cases h1 : (v0.length : Int) = 0
 ·replace hF := ite_t h1 hF
  have h1q : (v0.length : Int) = 0 := h1
  have h1_ := eqb_t h1q
  have h1__ := neb_f h1q
  have F1 := And.intro h1_ (And.intro h1__ h1q)
  try simp [F1]
  and_intros <;> first | exact g _ (by kernel_rfl) | refine r _ _ _ ?_ | omega | (simp [maxLen, F1] <;> omega)
  refine WK [(0, Lz v0), (11, AV.bool true)] [] 0 (by simp [F1]) (by simp [F1]) ?_
  refine CT (by simp [F1]) ?_
  refine SQ [] [none] fun _ _ g r => ?_
  try simp [F1]
  and_intros <;> first | exact g _ (by kernel_rfl) | refine r _ _ _ ?_ | omega | (simp [maxLen, F1] <;> omega)
  refine WK [(2, AV.bool false)] [] 0 (by simp [F1]) (by simp [F1]) ?_
  simp only [Option.some.injEq] at hF
  subst hF
  refine AW.ret (hQ _ _ _ ?_ (matchO_0 ?_)).1
  ·simp [Try.f90, F1]
  ·simp [F1]
 ·replace hF := ite_f h1 hF
  have h1_ := eqb_f h1
  have h1__ := neb_t h1
  have F2 := And.intro h1 (And.intro h1_ h1__)
  try simp [F2]
  and_intros <;> first | exact g _ (by kernel_rfl) | refine r _ _ _ ?_ | omega | (simp [maxLen, F2] <;> omega)
  refine WK [(0, Lz v0), (11, AV.bool (decide (64 < (v0.length : Int))))] [] 0 (by simp [F2]) (by simp [F2]) ?_
  by_cases h2 : 64 < (v0.length : Int)
  ·replace hF := ite_t h2 hF
   have h2_ := h2
   try simp at h2_
   have F3 := And.intro F2 (And.intro h2 h2_)
   refine CT (by simp [F3] <;> omega) ?_
   refine SQ [] [none] fun _ _ g r => ?_
   try simp [F3]
   and_intros <;> first | exact g _ (by kernel_rfl) | refine r _ _ _ ?_ | omega | (simp [maxLen, F3] <;> omega)
   refine WK [(2, AV.bool false)] [] 0 (by simp [F3]) (by simp [F3]) ?_
   simp only [Option.some.injEq] at hF
   subst hF
   refine AW.ret (hQ _ _ _ ?_ (matchO_0 ?_)).1
   ·simp [Try.f90, F3]
   ·simp [F3]
  ·replace hF := ite_f h2 hF
   have h2_ := h2
   try simp at h2_
   have F4 := And.intro F2 (And.intro h2 h2_)
   refine CF (by simp [F4] <;> omega) ?_
   refine AW.skip ?_
   refine hK115 _ _ _ ?_
   refine AW.seq fun K169 hK169 => ?_
   refine SQ [] [none] fun _ _ g r => ?_
   try simp [F4]
   and_intros <;> first | exact g _ (by kernel_rfl) | refine r _ _ _ ?_ | omega | (simp [maxLen, F4] <;> omega)
   refine WK [(0, Lz v0), (3, Iz 0)] [] 0 (by simp [F4]) (by simp [F4]) ?_
   refine AW.block ?_
   refine AW.loopF (α := Int) (fun n v2 => ref24_Valid.L1 k v0 n v2 = some v1) (fun v2 => [(0, Lz v0), (3, Iz v2)]) (fun v2 => []) 0 k (0) hF (by simp [F4]) (by simp [F4]) (by simp) ?_
   rintro (_|n1) v2 hF K206 hK206
   ·try dsimp only at hF
    rw [ref24_Valid.L1] at hF; cases hF
   try dsimp only at hF
   rw [ref24_Valid.L1] at hF
   refine AW.seq fun K208 hK208 => ?_
   refine SQ [] [none, none, none, none] fun _ _ g r => ?_
   try simp [F4]
   and_intros <;> first | exact g _ (by kernel_rfl) | refine r _ _ _ ?_ | omega | (simp [maxLen, F4] <;> omega)
   refine WK [(0, Lz v0), (3, Iz v2), (15, AV.bool (decide (v2 < (v0.length : Int))))] [] 0 (by simp [F4]) (by simp [F4]) ?_
   by_cases h3 : v2 < (v0.length : Int)
   ·replace hF := ite_t h3 hF
    have h3_ := h3
    try simp at h3_
    have F5 := And.intro F4 (And.intro h3 h3_)
    refine CT (by simp [F5] <;> omega) ?_
    refine AW.skip ?_
    refine hK208 _ _ _ ?_
    refine AW.midF (α := Unit) (fun _ => ref24_Valid.J2 k v2 (fun v2_ => ref24_Valid.L1 k v0 n1 v2_) = some v1) (fun _ => [(0, Lz v0), (3, Iz v2)]) (fun _ => []) 0 (fun K215 hK215 => ?_) ?_
    ·refine AW.block ?_
     refine SQ [] [none, none, none, none, none, none, some (23, false), some (23, false), some (23, false), some (23, false), some (23, false), none, none, some (30, false), some (30, false), some (30, false), some (33, true), some (33, true), some (33, true), some (33, true), some (33, true), some (33, true), some (33, true), some (33, true), some (33, true), some (33, true), some (30, false), none] fun _ _ g r => ?_
     obtain ⟨v3, h4, h5, h6, hF⟩ := idx_elim hF
     have h6_ := get_of h6
     try simp at h6_
     have h5_ := h5
     try simp at h5_
     by_cases h7 : v3 < 0
     ·replace hF := ite_t h7 hF
      have h7_ := h7
      try simp at h7_
      have F6 := And.intro F5 (And.intro h4 (And.intro h5 (And.intro h6 (And.intro h6_ (And.intro h5_ (And.intro h7 h7_))))))
      try simp [F6]
      and_intros <;> first | exact g _ (by kernel_rfl) | refine r _ _ _ ?_ | omega | (simp [maxLen, F6] <;> omega)
      refine WK [(0, Lz v0), (3, Iz v2), (45, AV.bool true)] [] 0 (by simp [F6]) (by simp [F6]) ?_
      refine CT (by simp [F6]) ?_
      refine SQ [] [none] fun _ _ g r => ?_
      try simp [F6]
      and_intros <;> first | exact g _ (by kernel_rfl) | refine r _ _ _ ?_ | omega | (simp [maxLen, F6] <;> omega)
      refine WK [(2, AV.bool false)] [] 0 (by simp [F6]) (by simp [F6]) ?_
      simp only [Option.some.injEq] at hF
      subst hF
      refine AW.ret (hQ _ _ _ ?_ (matchO_0 ?_)).1
      ·simp [Try.f90, F6]
      ·simp [F6]
     ·replace hF := ite_f h7 hF
      have h7_ := h7
      try simp at h7_
      by_cases h8 : 64 ≤ v3
      ·replace hF := ite_t h8 hF
       have h8_ := h8
       try simp at h8_
       have F7 := And.intro F5 (And.intro h4 (And.intro h5 (And.intro h6 (And.intro h6_ (And.intro h5_ (And.intro h7 (And.intro h7_ (And.intro h8 h8_))))))))
       try simp [F7]
       and_intros <;> first | exact g _ (by kernel_rfl) | refine r _ _ _ ?_ | omega | (simp [maxLen, F7] <;> omega)
       refine WK [(0, Lz v0), (3, Iz v2), (45, AV.bool true)] [] 0 (by simp [F7]) (by simp [F7]) ?_
       refine CT (by simp [F7]) ?_
       refine SQ [] [none] fun _ _ g r => ?_
       try simp [F7]
       and_intros <;> first | exact g _ (by kernel_rfl) | refine r _ _ _ ?_ | omega | (simp [maxLen, F7] <;> omega)
       refine WK [(2, AV.bool false)] [] 0 (by simp [F7]) (by simp [F7]) ?_
       simp only [Option.some.injEq] at hF
       subst hF
       refine AW.ret (hQ _ _ _ ?_ (matchO_0 ?_)).1
       ·simp [Try.f90, F7]
       ·simp [F7]
      ·replace hF := ite_f h8 hF
       have h8_ := h8
       try simp at h8_
       by_cases h9 : 0 < v2
       ·replace hF := ite_t h9 hF
        have h9_ := h9
        try simp at h9_
        obtain ⟨v4, h10, h11, h12, hF⟩ := idx_elim hF
        have h12_ := get_of h12
        try simp at h12_
        have h11_ := h11
        try simp at h11_
        have F8 := And.intro F5 (And.intro h4 (And.intro h5 (And.intro h6 (And.intro h6_ (And.intro h5_ (And.intro h7 (And.intro h7_ (And.intro h8 (And.intro h8_ (And.intro h9 (And.intro h9_ (And.intro h10 (And.intro h11 (And.intro h12 (And.intro h12_ h11_)))))))))))))))
        try simp [F8]
        and_intros <;> first | exact g _ (by kernel_rfl) | refine r _ _ _ ?_ | omega | (simp [maxLen, F8] <;> omega)
        refine WK [(0, Lz v0), (3, Iz v2), (45, AV.bool (decide (v3 ≤ v4)))] [] 0 (by simp [F8]) (by simp [F8]) ?_
        by_cases h13 : v3 ≤ v4
        ·replace hF := ite_t h13 hF
         have h13_ := h13
         try simp at h13_
         have F9 := And.intro F8 (And.intro h13 h13_)
         refine CT (by simp [F9] <;> omega) ?_
         refine SQ [] [none] fun _ _ g r => ?_
         try simp [F9]
         and_intros <;> first | exact g _ (by kernel_rfl) | refine r _ _ _ ?_ | omega | (simp [maxLen, F9] <;> omega)
         refine WK [(2, AV.bool false)] [] 0 (by simp [F9]) (by simp [F9]) ?_
         simp only [Option.some.injEq] at hF
         subst hF
         refine AW.ret (hQ _ _ _ ?_ (matchO_0 ?_)).1
         ·simp [Try.f90, F9]
         ·simp [F9]
        ·replace hF := ite_f h13 hF
         have h13_ := h13
         try simp at h13_
         have F10 := And.intro F8 (And.intro h13 h13_)
         refine CF (by simp [F10] <;> omega) ?_
         refine AW.skip ?_
         refine hK215 _ _ _ ?_
         exact JN (()) hF (by simp [F10]) (by simp [F10])
       ·replace hF := ite_f h9 hF
        have h9_ := h9
        try simp at h9_
        have F11 := And.intro F5 (And.intro h4 (And.intro h5 (And.intro h6 (And.intro h6_ (And.intro h5_ (And.intro h7 (And.intro h7_ (And.intro h8 (And.intro h8_ (And.intro h9 h9_))))))))))
        try simp [F11]
        and_intros <;> first | exact g _ (by kernel_rfl) | refine r _ _ _ ?_ | omega | (simp [maxLen, F11] <;> omega)
        refine WK [(0, Lz v0), (3, Iz v2), (45, AV.bool false)] [] 0 (by simp [F11]) (by simp [F11]) ?_
        refine CF (by simp [F11]) ?_
        refine AW.skip ?_
        refine hK215 _ _ _ ?_
        exact JN (()) hF (by simp [F11]) (by simp [F11])
    ·rintro ⟨⟩ hF
     try dsimp only at hF
     unfold ref24_Valid.J2 at hF
     refine RG [] [none, none, none] fun _ _ g r => ?_
     try simp [F5]
     and_intros <;> first | exact g _ (by kernel_rfl) | refine r _ _ _ ?_ | omega | (simp [maxLen, F5] <;> omega)
     refine hK206 _ _ _ ?_
     exact NX (k' := n1) (IntKind.wrap .i64 (v2 + 1)) hF (by simp [F5]) (by simp [F5])
   ·replace hF := ite_f h3 hF
    have h3_ := h3
    try simp at h3_
    have F12 := And.intro F4 (And.intro h3 h3_)
    refine CF (by simp [F12] <;> omega) ?_
    refine AW.exit ?_
    try simp
    refine hK169 _ _ _ ?_
    refine SQ [] [none] fun _ _ g r => ?_
    try simp [F12]
    and_intros <;> first | exact g _ (by kernel_rfl) | refine r _ _ _ ?_ | omega | (simp [maxLen, F12] <;> omega)
    refine WK [(2, AV.bool true)] [] 0 (by simp [F12]) (by simp [F12]) ?_
    simp only [Option.some.injEq] at hF
    subst hF
    refine AW.ret (hQ _ _ _ ?_ (matchO_0 ?_)).1
    ·simp [Try.f90, F12]
    ·simp [F12]
theorem w_ref11_Set (k : Nat) (v0 : (List Int)) (v1 : Int) (v2 : Bool) (hF : ref11_Set k v0 v1 = some v2) :
  FCall Try.prog 132 [AV.lst false false (List.map (AV.int .i64) v0), AV.int .i64 v1] [] (AV.bool v2) [] := by
 unfold ref11_Set at hF
 refine EN Try.func132 ?_
 intro c0 w0 Q h0 hQ
 refine WK [(0, Lz v0), (1, Iz v1)] [] 0 (by simp) (by simp) ?_
 refine SQ [] [none] fun _ _ g r => ?_
 try simp
 and_intros <;> first | exact g _ (by kernel_rfl) | refine r _ _ _ ?_ | omega | (simp [maxLen] <;> omega)
 refine WK [(0, Lz v0), (1, Iz v1)] [] 0 (by simp) (by simp) ?_
 refine AW.seq fun K155 hK155 => ?_
 refine SQ [] [none] fun _ _ g r => ?_
 try simp
 and_intros <;> first | exact g _ (by kernel_rfl) | refine r _ _ _ ?_ | omega | (simp [maxLen] <;> omega)
 refine WK [(0, Lz v0), (1, Iz v1), (5, Iz 0)] [] 0 (by simp) (by simp) ?_
 refine AW.block ?_
 refine AW.loopF (α := Int) (fun n v3 => ref11_Set.L1 k v0 v1 n v3 = some v2) (fun v3 => [(0, Lz v0), (1, Iz v1), (5, Iz v3)]) (fun v3 => []) 0 k (0) hF (by simp) (by simp) (by simp) ?_
 rintro (_|n1) v3 hF K192 hK192
 ·try dsimp only at hF
  rw [ref11_Set.L1] at hF; cases hF
 try dsimp only at hF
 rw [ref11_Set.L1] at hF
 refine AW.seq fun K194 hK194 => ?_
 refine SQ [] [none, none, none, none] fun _ _ g r => ?_
 try simp
 and_intros <;> first | exact g _ (by kernel_rfl) | refine r _ _ _ ?_ | omega | (simp [maxLen] <;> omega)
 refine WK [(0, Lz v0), (1, Iz v1), (5, Iz v3), (9, AV.bool (decide (v3 < (v0.length : Int))))] [] 0 (by simp) (by simp) ?_
 by_cases h1 : v3 < (v0.length : Int)
 ·replace hF := ite_t h1 hF
  have h1_ := h1
  try simp at h1_
  refine CT (by simp [h1, h1_] <;> omega) ?_
  refine AW.skip ?_
  refine hK194 _ _ _ ?_
  refine AW.midF (α := Unit) (fun _ => ref11_Set.J2 k v3 (fun v3_ => ref11_Set.L1 k v0 v1 n1 v3_) = some v2) (fun _ => [(0, Lz v0), (1, Iz v1), (5, Iz v3)]) (fun _ => []) 0 (fun K201 hK201 => ?_) ?_
  ·refine AW.block ?_
   refine SQ [] [none, none, none, none, none, none, some (17, false), some (17, false), some (17, false), some (17, false), some (17, false), some (17, false), none, none, some (25, false), some (25, false), some (25, false), some (28, true), some (28, true), some (28, true), some (28, true), some (28, true), some (28, true), some (28, true), some (28, true), some (28, true), some (28, true), some (25, false), none] fun _ _ g r => ?_
   obtain ⟨v4, h2, h3, h4, hF⟩ := idx_elim hF
   have h4_ := get_of h4
   try simp at h4_
   have h3_ := h3
   try simp at h3_
   by_cases h5 : v4 < 0
   ·replace hF := ite_t h5 hF
    have h5_ := h5
    try simp at h5_
    have F1 := And.intro h1 (And.intro h1_ (And.intro h2 (And.intro h3 (And.intro h4 (And.intro h4_ (And.intro h3_ (And.intro h5 h5_)))))))
    try simp [F1]
    and_intros <;> first | exact g _ (by kernel_rfl) | refine r _ _ _ ?_ | omega | (simp [maxLen, F1] <;> omega)
    refine WK [(0, Lz v0), (1, Iz v1), (5, Iz v3), (40, AV.bool true)] [] 0 (by simp [F1]) (by simp [F1]) ?_
    refine CT (by simp [F1]) ?_
    refine SQ [] [none] fun _ _ g r => ?_
    try simp [F1]
    and_intros <;> first | exact g _ (by kernel_rfl) | refine r _ _ _ ?_ | omega | (simp [maxLen, F1] <;> omega)
    refine WK [(4, AV.bool false)] [] 0 (by simp [F1]) (by simp [F1]) ?_
    simp only [Option.some.injEq] at hF
    subst hF
    refine AW.ret (hQ _ _ _ ?_ (matchO_0 ?_)).1
    ·simp [Try.f132, F1]
    ·simp [F1]
   ·replace hF := ite_f h5 hF
    have h5_ := h5
    try simp at h5_
    by_cases h6 : v1 ≤ v4
    ·replace hF := ite_t h6 hF
     have h6_ := h6
     try simp at h6_
     have F2 := And.intro h1 (And.intro h1_ (And.intro h2 (And.intro h3 (And.intro h4 (And.intro h4_ (And.intro h3_ (And.intro h5 (And.intro h5_ (And.intro h6 h6_)))))))))
     try simp [F2]
     and_intros <;> first | exact g _ (by kernel_rfl) | refine r _ _ _ ?_ | omega | (simp [maxLen, F2] <;> omega)
     refine WK [(0, Lz v0), (1, Iz v1), (5, Iz v3), (40, AV.bool true)] [] 0 (by simp [F2]) (by simp [F2]) ?_
     refine CT (by simp [F2]) ?_
     refine SQ [] [none] fun _ _ g r => ?_
     try simp [F2]
     and_intros <;> first | exact g _ (by kernel_rfl) | refine r _ _ _ ?_ | omega | (simp [maxLen, F2] <;> omega)
     refine WK [(4, AV.bool false)] [] 0 (by simp [F2]) (by simp [F2]) ?_
     simp only [Option.some.injEq] at hF
     subst hF
     refine AW.ret (hQ _ _ _ ?_ (matchO_0 ?_)).1
     ·simp [Try.f132, F2]
     ·simp [F2]
    ·replace hF := ite_f h6 hF
     have h6_ := h6
     try simp at h6_
     by_cases h7 : 0 < v3
     ·replace hF := ite_t h7 hF
      have h7_ := h7
      try simp at h7_
      obtain ⟨v5, h8, h9, h10, hF⟩ := idx_elim hF
      have h10_ := get_of h10
      try simp at h10_
      have h9_ := h9
      try simp at h9_
      have F3 := And.intro h1 (And.intro h1_ (And.intro h2 (And.intro h3 (And.intro h4 (And.intro h4_ (And.intro h3_ (And.intro h5 (And.intro h5_ (And.intro h6 (And.intro h6_ (And.intro h7 (And.intro h7_ (And.intro h8 (And.intro h9 (And.intro h10 (And.intro h10_ h9_))))))))))))))))
      try simp [F3]
      and_intros <;> first | exact g _ (by kernel_rfl) | refine r _ _ _ ?_ | omega | (simp [maxLen, F3] <;> omega)
      refine WK [(0, Lz v0), (1, Iz v1), (5, Iz v3), (40, AV.bool (decide (v4 ≤ v5)))] [] 0 (by simp [F3]) (by simp [F3]) ?_
      by_cases h11 : v4 ≤ v5
      ·replace hF := ite_t h11 hF
       have h11_ := h11
       try simp at h11_
       have F4 := And.intro F3 (And.intro h11 h11_)
       refine CT (by simp [F4] <;> omega) ?_
       refine SQ [] [none] fun _ _ g r => ?_
       try simp [F4]
       and_intros <;> first | exact g _ (by kernel_rfl) | refine r _ _ _ ?_ | omega | (simp [maxLen, F4] <;> omega)
       refine WK [(4, AV.bool false)] [] 0 (by simp [F4]) (by simp [F4]) ?_
       simp only [Option.some.injEq] at hF
       subst hF
       refine AW.ret (hQ _ _ _ ?_ (matchO_0 ?_)).1
       ·simp [Try.f132, F4]
       ·simp [F4]
      ·replace hF := ite_f h11 hF
       have h11_ := h11
       try simp at h11_
       have F5 := And.intro F3 (And.intro h11 h11_)
       refine CF (by simp [F5] <;> omega) ?_
       refine AW.skip ?_
       refine hK201 _ _ _ ?_
       exact JN (()) hF (by simp [F5]) (by simp [F5])
     ·replace hF := ite_f h7 hF
      have h7_ := h7
      try simp at h7_
      have F6 := And.intro h1 (And.intro h1_ (And.intro h2 (And.intro h3 (And.intro h4 (And.intro h4_ (And.intro h3_ (And.intro h5 (And.intro h5_ (And.intro h6 (And.intro h6_ (And.intro h7 h7_)))))))))))
      try simp [F6]
      and_intros <;> first | exact g _ (by kernel_rfl) | refine r _ _ _ ?_ | omega | (simp [maxLen, F6] <;> omega)
      refine WK [(0, Lz v0), (1, Iz v1), (5, Iz v3), (40, AV.bool false)] [] 0 (by simp [F6]) (by simp [F6]) ?_
      refine CF (by simp [F6]) ?_
      refine AW.skip ?_
      refine hK201 _ _ _ ?_
      exact JN (()) hF (by simp [F6]) (by simp [F6])
  ·rintro ⟨⟩ hF
   try dsimp only at hF
   unfold ref11_Set.J2 at hF
   refine RG [] [none, none, none] fun _ _ g r => ?_
   try simp [h1, h1_]
   and_intros <;> first | exact g _ (by kernel_rfl) | refine r _ _ _ ?_ | omega | (simp [h1, h1_, maxLen] <;> omega)
   refine hK192 _ _ _ ?_
   exact NX (k' := n1) (IntKind.wrap .i64 (v3 + 1)) hF (by simp [h1, h1_]) (by simp [h1, h1_])
 ·replace hF := ite_f h1 hF
  have h1_ := h1
  try simp at h1_
  refine CF (by simp [h1, h1_] <;> omega) ?_
  refine AW.exit ?_
  try simp
  refine hK155 _ _ _ ?_
  refine SQ [] [none] fun _ _ g r => ?_
  try simp [h1, h1_]
  and_intros <;> first | exact g _ (by kernel_rfl) | refine r _ _ _ ?_ | omega | (simp [h1, h1_, maxLen] <;> omega)
  refine WK [(4, AV.bool true)] [] 0 (by simp [h1, h1_]) (by simp [h1, h1_]) ?_
  simp only [Option.some.injEq] at hF
  subst hF
  refine AW.ret (hQ _ _ _ ?_ (matchO_0 ?_)).1
  ·simp [Try.f132, h1, h1_]
  ·simp [h1, h1_]
theorem w_ref11_Has (k : Nat) (v0 : (List Int)) (v1 : Int) (v2 : Bool) (hF : ref11_Has k v0 v1 = some v2) :
  FCall Try.prog 134 [AV.lst false false (List.map (AV.int .i64) v0), AV.int .i64 v1] [] (AV.bool v2) [] := by
 unfold ref11_Has at hF
 refine EN Try.func134 ?_
 intro c0 w0 Q h0 hQ
 refine WK [(0, Lz v0), (1, Iz v1)] [] 0 (by simp) (by simp) ?_
 refine SQ [] [none] fun _ _ g r => ?_
 try simp
 and_intros <;> first | exact g _ (by kernel_rfl) | refine r _ _ _ ?_ | omega | (simp [maxLen] <;> omega)
 refine WK [(0, Lz v0), (1, Iz v1)] [] 0 (by simp) (by simp) ?_
 refine AW.seq fun K119 hK119 => ?_
 refine SQ [] [none] fun _ _ g r => ?_
 try simp
 and_intros <;> first | exact g _ (by kernel_rfl) | refine r _ _ _ ?_ | omega | (simp [maxLen] <;> omega)
 refine WK [(0, Lz v0), (1, Iz v1), (5, Iz 0)] [] 0 (by simp) (by simp) ?_
 refine AW.block ?_
 refine AW.loopF (α := Int) (fun n v3 => ref11_Has.L1 k v0 v1 n v3 = some v2) (fun v3 => [(0, Lz v0), (1, Iz v1), (5, Iz v3)]) (fun v3 => []) 0 k (0) hF (by simp) (by simp) (by simp) ?_
 rintro (_|n1) v3 hF K148 hK148
 ·try dsimp only at hF
  rw [ref11_Has.L1] at hF; cases hF
 try dsimp only at hF
 rw [ref11_Has.L1] at hF
 refine AW.seq fun K150 hK150 => ?_
 refine SQ [] [none, none, none, none] fun _ _ g r => ?_
 try simp
 and_intros <;> first | exact g _ (by kernel_rfl) | refine r _ _ _ ?_ | omega | (simp [maxLen] <;> omega)
 refine WK [(0, Lz v0), (1, Iz v1), (5, Iz v3), (9, AV.bool (decide (v3 < (v0.length : Int))))] [] 0 (by simp) (by simp) ?_
 by_cases h1 : v3 < (v0.length : Int)
 ·replace hF := ite_t h1 hF
  have h1_ := h1
  try simp at h1_
  refine CT (by simp [h1, h1_] <;> omega) ?_
  refine AW.skip ?_
  refine hK150 _ _ _ ?_
  refine AW.seq fun K154 hK154 => ?_
  refine AW.block ?_
  refine SQ [] [none, none, none, none, none, none] fun _ _ g r => ?_
  obtain ⟨v4, h2, h3, h4, hF⟩ := idx_elim hF
  have h4_ := get_of h4
  try simp at h4_
  have h3_ := h3
  try simp at h3_
  have F1 := And.intro h1 (And.intro h1_ (And.intro h2 (And.intro h3 (And.intro h4 (And.intro h4_ h3_)))))
  try simp [F1]
  and_intros <;> first | exact g _ (by kernel_rfl) | refine r _ _ _ ?_ | omega | (simp [maxLen, F1] <;> omega)
  refine WK [(0, Lz v0), (1, Iz v1), (5, Iz v3), (17, AV.bool (v4 == v1))] [] 0 (by simp [F1]) (by simp [F1]) ?_
  by_cases h5 : v4 = v1
  ·replace hF := ite_t h5 hF
   have h5q : v4 = v1 := h5
   have h5_ := eqb_t h5q
   have h5__ := neb_f h5q
   have F2 := And.intro F1 (And.intro h5_ h5__)
   refine CT (by simp [F2] <;> omega) ?_
   refine SQ [] [none] fun _ _ g r => ?_
   try simp [F2]
   and_intros <;> first | exact g _ (by kernel_rfl) | refine r _ _ _ ?_ | omega | (simp [maxLen, F2] <;> omega)
   refine WK [(4, AV.bool true)] [] 0 (by simp [F2]) (by simp [F2]) ?_
   simp only [Option.some.injEq] at hF
   subst hF
   refine AW.ret (hQ _ _ _ ?_ (matchO_0 ?_)).1
   ·simp [Try.f134, F2]
   ·simp [F2]
  ·replace hF := ite_f h5 hF
   have h5_ := eqb_f h5
   have h5__ := neb_t h5
   have F3 := And.intro F1 (And.intro h5 (And.intro h5_ h5__))
   refine CF (by simp [F3] <;> omega) ?_
   refine AW.skip ?_
   refine hK154 _ _ _ ?_
   refine RG [] [none, none, none] fun _ _ g r => ?_
   try simp [F3]
   and_intros <;> first | exact g _ (by kernel_rfl) | refine r _ _ _ ?_ | omega | (simp [maxLen, F3] <;> omega)
   refine hK148 _ _ _ ?_
   exact NX (k' := n1) (IntKind.wrap .i64 (v3 + 1)) hF (by simp [F3]) (by simp [F3])
 ·replace hF := ite_f h1 hF
  have h1_ := h1
  try simp at h1_
  refine CF (by simp [h1, h1_] <;> omega) ?_
  refine AW.exit ?_
  try simp
  refine hK119 _ _ _ ?_
  refine SQ [] [none] fun _ _ g r => ?_
  try simp [h1, h1_]
  and_intros <;> first | exact g _ (by kernel_rfl) | refine r _ _ _ ?_ | omega | (simp [h1, h1_, maxLen] <;> omega)
  refine WK [(4, AV.bool false)] [] 0 (by simp [h1, h1_]) (by simp [h1, h1_]) ?_
  simp only [Option.some.injEq] at hF
  subst hF
  refine AW.ret (hQ _ _ _ ?_ (matchO_0 ?_)).1
  ·simp [Try.f134, h1, h1_]
  ·simp [h1, h1_]
theorem w_ref11_before (k : Nat) (v0 : Int) (v1 : Int) (v2 : Int) (v3 : Int) (v4 : Int) (v5 : Int) (v6 : Bool) (hF : ref11_before k v0 v1 v2 v3 v4 v5 = some v6) :
  FCall Try.prog 133 [AV.agg [AV.int .i64 v0, AV.int .i64 v1, AV.int .i64 v2], AV.agg [AV.int .i64 v3, AV.int .i64 v4, AV.int .i64 v5]] [] (AV.bool v6) [] := by
 unfold ref11_before at hF
 refine EN Try.func133 ?_
 intro c0 w0 Q h0 hQ
 refine WK [(0, AV.agg [Iz v0, Iz v1, Iz v2]), (1, AV.agg [Iz v3, Iz v4, Iz v5])] [] 0 (by simp) (by simp) ?_
 refine SQ [] [none, none, none] fun _ _ g r => ?_
 try simp
 and_intros <;> first | exact g _ (by kernel_rfl) | refine r _ _ _ ?_ | omega | (simp [maxLen] <;> omega)
 refine WK [(2, AV.ptr 0 0), (3, AV.ptr 1 0)] [(0, .cells [Iz v0, Iz v1, Iz v2]), (1, .cells [Iz v3, Iz v4, Iz v5])] 2 (by simp) (by simp) ?_
 refine SQ [] [none, none, none, none, none, none, some (10, false), some (10, false), some (10, false), some (10, false), some (10, false), some (10, false), some (16, true), some (16, true), some (16, true), some (16, true), some (16, true), some (10, false), none, none] fun _ _ g r => ?_
 by_cases h1 : v0 < v3
 ·replace hF := ite_t h1 hF
  have h1_ := h1
  try simp at h1_
  try simp [h1, h1_]
  and_intros <;> first | exact g _ (by kernel_rfl) | refine r _ _ _ ?_ | omega | (simp [h1, h1_, maxLen] <;> omega)
  refine WK [(4, AV.bool true)] [] 2 (by simp [h1, h1_]) (by simp [h1, h1_]) ?_
  simp only [Option.some.injEq] at hF
  subst hF
  refine AW.ret (hQ _ _ _ ?_ (matchO_0 ?_)).1
  ·simp [Try.f133, h1, h1_]
  ·simp [h1, h1_]
 ·replace hF := ite_f h1 hF
  have h1_ := h1
  try simp at h1_
  by_cases h2 : v0 = v3
  ·replace hF := ite_t h2 hF
   have h2q : v0 = v3 := h2
   have h2_ := eqb_t h2q
   have h2__ := neb_f h2q
   have F1 := And.intro h1 (And.intro h1_ (And.intro h2_ h2__))
   try simp [F1]
   and_intros <;> first | exact g _ (by kernel_rfl) | refine r _ _ _ ?_ | omega | (simp [maxLen, F1] <;> omega)
   refine WK [(4, AV.bool (decide (v1 < v4)))] [] 2 (by simp [F1]) (by simp [F1]) ?_
   simp only [Option.some.injEq] at hF
   subst hF
   refine AW.ret (hQ _ _ _ ?_ (matchO_0 ?_)).1
   ·simp [Try.f133, F1]
   ·simp [F1]
  ·replace hF := ite_f h2 hF
   have h2_ := eqb_f h2
   have h2__ := neb_t h2
   have F2 := And.intro h1 (And.intro h1_ (And.intro h2 (And.intro h2_ h2__)))
   try simp [F2]
   and_intros <;> first | exact g _ (by kernel_rfl) | refine r _ _ _ ?_ | omega | (simp [maxLen, F2] <;> omega)
   refine WK [(4, AV.bool false)] [] 2 (by simp [F2]) (by simp [F2]) ?_
   simp only [Option.some.injEq] at hF
   subst hF
   refine AW.ret (hQ _ _ _ ?_ (matchO_0 ?_)).1
   ·simp [Try.f133, F2]
   ·simp [F2]
theorem w_ref11_Check (k : Nat) (v0 : Int) (v1 : (List api_Edge)) (v2 : (List Int)) (v3 : Int) (hF : ref11_Check k v0 v1 v2 = some v3) :
  FCall Try.prog 121 [AV.agg [AV.int .i64 v0, AV.lst false false (List.map api_Edge.av v1), AV.lst false false (List.map (AV.int .i64) v2)]] [] (AV.int .i64 v3) [] := by
 unfold ref11_Check at hF
 refine EN Try.func121 ?_
 intro c0 w0 Q h0 hQ
 refine WK [(0, AV.agg [Iz v0, AV.lst false false (List.map api_Edge.av v1), Lz v2])] [] 0 (by simp) (by simp) ?_
 refine SQ [] [none, none] fun _ _ g r => ?_
 try simp
 and_intros <;> first | exact g _ (by kernel_rfl) | refine r _ _ _ ?_ | omega | (simp [maxLen] <;> omega)
 refine WK [(1, AV.ptr 0 0)] [(0, .cells [Iz v0, AV.lst false false (List.map api_Edge.av v1), Lz v2])] 1 (by simp) (by simp) ?_
 refine AW.seq fun K401 hK401 => ?_
 refine SQ [] [none, none, none, none, some (8, false), some (8, false), some (8, false), none, none, some (13, false), some (13, false), some (13, false), some (13, false), none, none, some (19, false), some (19, false), some (19, false), some (19, false), some (19, false), some (19, false), none] fun _ _ g r => ?_
 by_cases h1 : v0 < 0
 ·replace hF := ite_t h1 hF
  have h1_ := h1
  try simp at h1_
  try simp [h1, h1_]
  and_intros <;> first | exact g _ (by kernel_rfl) | refine r _ _ _ ?_ | omega | (simp [h1, h1_, maxLen] <;> omega)
  refine WK [(1, AV.ptr 0 0), (26, AV.bool true)] [(0, .cells [Iz v0, AV.lst false false (List.map api_Edge.av v1), Lz v2])] 1 (by simp [h1, h1_]) (by simp [h1, h1_]) ?_
  refine CT (by simp [h1, h1_]) ?_
  refine SQ [] [none] fun _ _ g r => ?_
  try simp [h1, h1_]
  and_intros <;> first | exact g _ (by kernel_rfl) | refine r _ _ _ ?_ | omega | (simp [h1, h1_, maxLen] <;> omega)
  refine WK [(2, Iz 14)] [] 1 (by simp [h1, h1_]) (by simp [h1, h1_]) ?_
  simp only [Option.some.injEq] at hF
  subst hF
  refine AW.ret (hQ _ _ _ ?_ (matchO_0 ?_)).1
  ·simp [Try.f121, h1, h1_]
  ·simp [h1, h1_]
 ·replace hF := ite_f h1 hF
  have h1_ := h1
  try simp at h1_
  by_cases h2 : 64 < v0
  ·replace hF := ite_t h2 hF
   have h2_ := h2
   try simp at h2_
   have F1 := And.intro h1 (And.intro h1_ (And.intro h2 h2_))
   try simp [F1]
   and_intros <;> first | exact g _ (by kernel_rfl) | refine r _ _ _ ?_ | omega | (simp [maxLen, F1] <;> omega)
   refine WK [(1, AV.ptr 0 0), (26, AV.bool true)] [(0, .cells [Iz v0, AV.lst false false (List.map api_Edge.av v1), Lz v2])] 1 (by simp [F1]) (by simp [F1]) ?_
   refine CT (by simp [F1]) ?_
   refine SQ [] [none] fun _ _ g r => ?_
   try simp [F1]
   and_intros <;> first | exact g _ (by kernel_rfl) | refine r _ _ _ ?_ | omega | (simp [maxLen, F1] <;> omega)
   refine WK [(2, Iz 14)] [] 1 (by simp [F1]) (by simp [F1]) ?_
   simp only [Option.some.injEq] at hF
   subst hF
   refine AW.ret (hQ _ _ _ ?_ (matchO_0 ?_)).1
   ·simp [Try.f121, F1]
   ·simp [F1]
  ·replace hF := ite_f h2 hF
   have h2_ := h2
   try simp at h2_
   by_cases h3 : 500 < (v1.length : Int)
   ·replace hF := ite_t h3 hF
    have h3_ := h3
    try simp at h3_
    have F2 := And.intro h1 (And.intro h1_ (And.intro h2 (And.intro h2_ (And.intro h3 h3_))))
    try simp [F2]
    and_intros <;> first | exact g _ (by kernel_rfl) | refine r _ _ _ ?_ | omega | (simp [maxLen, F2] <;> omega)
    refine WK [(1, AV.ptr 0 0), (26, AV.bool true)] [(0, .cells [Iz v0, AV.lst false false (List.map api_Edge.av v1), Lz v2])] 1 (by simp [F2]) (by simp [F2]) ?_
    refine CT (by simp [F2]) ?_
    refine SQ [] [none] fun _ _ g r => ?_
    try simp [F2]
    and_intros <;> first | exact g _ (by kernel_rfl) | refine r _ _ _ ?_ | omega | (simp [maxLen, F2] <;> omega)
    refine WK [(2, Iz 14)] [] 1 (by simp [F2]) (by simp [F2]) ?_
    simp only [Option.some.injEq] at hF
    subst hF
    refine AW.ret (hQ _ _ _ ?_ (matchO_0 ?_)).1
    ·simp [Try.f121, F2]
    ·simp [F2]
   ·replace hF := ite_f h3 hF
    have h3_ := h3
    try simp at h3_
    have F3 := And.intro h1 (And.intro h1_ (And.intro h2 (And.intro h2_ (And.intro h3 h3_))))
    try simp [F3]
    and_intros
    try any_goals first | omega | (simp [maxLen, F3] <;> omega)
    obtain ⟨v4, h4, hF⟩ := bnd1_elim hF
    refine AC (w_ref11_Set k _ _ _ h4) (.cons (.same (by simp [F3])) (.cons (.same (by simp [F3])) .nil)) ?_
    try simp [F3]
    and_intros <;> first | exact g _ (by kernel_rfl) | refine r _ _ _ ?_ | omega | (simp [maxLen, F3] <;> omega)
    refine WK [(1, AV.ptr 0 0), (26, AV.bool (!v4))] [(0, .cells [Iz v0, AV.lst false false (List.map api_Edge.av v1), Lz v2])] 1 (by simp [F3]) (by simp [F3]) ?_
    by_cases h5 : (!v4) = true
    ·replace hF := ite_t h5 hF
     have h5_ := h5
     try simp at h5_
     have F4 := And.intro F3 (And.intro h5 h5_)
     refine CT (by simp [F4] <;> omega) ?_
     refine SQ [] [none] fun _ _ g r => ?_
     try simp [F4]
     and_intros <;> first | exact g _ (by kernel_rfl) | refine r _ _ _ ?_ | omega | (simp [maxLen, F4] <;> omega)
     refine WK [(2, Iz 14)] [] 1 (by simp [F4]) (by simp [F4]) ?_
     simp only [Option.some.injEq] at hF
     subst hF
     refine AW.ret (hQ _ _ _ ?_ (matchO_0 ?_)).1
     ·simp [Try.f121, F4]
     ·simp [F4]
    ·replace hF := ite_f h5 hF
     have h5_ := h5
     try simp at h5_
     have F5 := And.intro F3 (And.intro h5 h5_)
     refine CF (by simp [F5] <;> omega) ?_
     refine AW.skip ?_
     refine hK401 _ _ _ ?_
     refine AW.seq fun K597 hK597 => ?_
     refine SQ [] [none] fun _ _ g r => ?_
     try simp [F5]
     and_intros <;> first | exact g _ (by kernel_rfl) | refine r _ _ _ ?_ | omega | (simp [maxLen, F5] <;> omega)
     refine WK [(1, AV.ptr 0 0), (3, Iz 0)] [(0, .cells [Iz v0, AV.lst false false (List.map api_Edge.av v1), Lz v2])] 1 (by simp [F5]) (by simp [F5]) ?_
     refine AW.block ?_
     refine AW.loopF (α := Int) (fun n v5 => ref11_Check.L1 k v0 v1 v2 n v5 = some v3) (fun v5 => [(1, AV.ptr 0 0), (3, Iz v5)]) (fun v5 => [(0, .cells [Iz v0, AV.lst false false (List.map api_Edge.av v1), Lz v2])]) 1 k (0) hF (by simp [F5]) (by simp [F5]) (by simp) ?_
     rintro (_|n1) v5 hF K740 hK740
     ·try dsimp only at hF
      rw [ref11_Check.L1] at hF; cases hF
     try dsimp only at hF
     rw [ref11_Check.L1] at hF
     refine AW.seq fun K742 hK742 => ?_
     refine SQ [] [none, none, none, none, none] fun _ _ g r => ?_
     try simp [F5]
     and_intros <;> first | exact g _ (by kernel_rfl) | refine r _ _ _ ?_ | omega | (simp [maxLen, F5] <;> omega)
     refine WK [(1, AV.ptr 0 0), (3, Iz v5), (31, AV.bool (decide (v5 < (v1.length : Int))))] [(0, .cells [Iz v0, AV.lst false false (List.map api_Edge.av v1), Lz v2])] 1 (by simp [F5]) (by simp [F5]) ?_
     by_cases h6 : v5 < (v1.length : Int)
     ·replace hF := ite_t h6 hF
      have h6_ := h6
      try simp at h6_
      have F6 := And.intro F5 (And.intro h6 h6_)
      refine CT (by simp [F6] <;> omega) ?_
      refine AW.skip ?_
      refine hK742 _ _ _ ?_
      refine AW.seq fun K765 hK765 => ?_
      refine AW.block ?_
      refine SQ [] [none, none, none, none, none, none, none] fun _ _ g r => ?_
      obtain ⟨v6, h7, h8, h9, hF⟩ := idx_elim hF
      have h9_ := get_of h9
      try simp at h9_
      have h8_ := h8
      try simp at h8_
      have F7 := And.intro F6 (And.intro h7 (And.intro h8 (And.intro h9 (And.intro h9_ h8_))))
      try simp [F7]
      and_intros <;> first | exact g _ (by kernel_rfl) | refine r _ _ _ ?_ | omega | (simp [maxLen, F7] <;> omega)
      refine WK [(1, AV.ptr 0 0), (3, Iz v5), (4, AV.ptr 1 0)] [(0, .cells [Iz v0, AV.lst false false (List.map api_Edge.av v1), Lz v2]), (1, .cells [Iz v6.From, Iz v6.To, Iz v6.Level])] 2 (by simp [F7]) (by simp [F7]) ?_
      refine AW.seq fun K775 hK775 => ?_
      refine SQ [] [none, none, none, none, some (42, false), some (42, false), some (42, false), some (42, false), some (42, false), none, none, some (49, false), some (49, false), some (49, false), none, none, some (54, false), some (54, false), some (54, false), some (54, false), some (54, false), none, none, some (61, false), some (61, false), some (61, false), some (61, false), some (61, false), none, none, some (68, false), some (68, false), some (68, false), none, none, some (73, false), some (73, false), some (73, false), none] fun _ _ g r => ?_
      by_cases h10 : v6.From < 0
      ·replace hF := ite_t h10 hF
       have h10_ := h10
       try simp at h10_
       have F8 := And.intro F7 (And.intro h10 h10_)
       try simp [F8]
       and_intros <;> first | exact g _ (by kernel_rfl) | refine r _ _ _ ?_ | omega | (simp [maxLen, F8] <;> omega)
       refine WK [(1, AV.ptr 0 0), (3, Iz v5), (4, AV.ptr 1 0), (77, AV.bool true)] [(0, .cells [Iz v0, AV.lst false false (List.map api_Edge.av v1), Lz v2]), (1, .cells [Iz v6.From, Iz v6.To, Iz v6.Level])] 2 (by simp [F8]) (by simp [F8]) ?_
       refine CT (by simp [F8]) ?_
       refine SQ [] [none] fun _ _ g r => ?_
       try simp [F8]
       and_intros <;> first | exact g _ (by kernel_rfl) | refine r _ _ _ ?_ | omega | (simp [maxLen, F8] <;> omega)
       refine WK [(2, Iz 14)] [] 2 (by simp [F8]) (by simp [F8]) ?_
       simp only [Option.some.injEq] at hF
       subst hF
       refine AW.ret (hQ _ _ _ ?_ (matchO_0 ?_)).1
       ·simp [Try.f121, F8]
       ·simp [F8]
      ·replace hF := ite_f h10 hF
       have h10_ := h10
       try simp at h10_
       by_cases h11 : v0 ≤ v6.From
       ·replace hF := ite_t h11 hF
        have h11_ := h11
        try simp at h11_
        have F9 := And.intro F7 (And.intro h10 (And.intro h10_ (And.intro h11 h11_)))
        try simp [F9]
        and_intros <;> first | exact g _ (by kernel_rfl) | refine r _ _ _ ?_ | omega | (simp [maxLen, F9] <;> omega)
        refine WK [(1, AV.ptr 0 0), (3, Iz v5), (4, AV.ptr 1 0), (77, AV.bool true)] [(0, .cells [Iz v0, AV.lst false false (List.map api_Edge.av v1), Lz v2]), (1, .cells [Iz v6.From, Iz v6.To, Iz v6.Level])] 2 (by simp [F9]) (by simp [F9]) ?_
        refine CT (by simp [F9]) ?_
        refine SQ [] [none] fun _ _ g r => ?_
        try simp [F9]
        and_intros <;> first | exact g _ (by kernel_rfl) | refine r _ _ _ ?_ | omega | (simp [maxLen, F9] <;> omega)
        refine WK [(2, Iz 14)] [] 2 (by simp [F9]) (by simp [F9]) ?_
        simp only [Option.some.injEq] at hF
        subst hF
        refine AW.ret (hQ _ _ _ ?_ (matchO_0 ?_)).1
        ·simp [Try.f121, F9]
        ·simp [F9]
       ·replace hF := ite_f h11 hF
        have h11_ := h11
        try simp at h11_
        by_cases h12 : v6.To < 0
        ·replace hF := ite_t h12 hF
         have h12_ := h12
         try simp at h12_
         have F10 := And.intro F7 (And.intro h10 (And.intro h10_ (And.intro h11 (And.intro h11_ (And.intro h12 h12_)))))
         try simp [F10]
         and_intros <;> first | exact g _ (by kernel_rfl) | refine r _ _ _ ?_ | omega | (simp [maxLen, F10] <;> omega)
         refine WK [(1, AV.ptr 0 0), (3, Iz v5), (4, AV.ptr 1 0), (77, AV.bool true)] [(0, .cells [Iz v0, AV.lst false false (List.map api_Edge.av v1), Lz v2]), (1, .cells [Iz v6.From, Iz v6.To, Iz v6.Level])] 2 (by simp [F10]) (by simp [F10]) ?_
         refine CT (by simp [F10]) ?_
         refine SQ [] [none] fun _ _ g r => ?_
         try simp [F10]
         and_intros <;> first | exact g _ (by kernel_rfl) | refine r _ _ _ ?_ | omega | (simp [maxLen, F10] <;> omega)
         refine WK [(2, Iz 14)] [] 2 (by simp [F10]) (by simp [F10]) ?_
         simp only [Option.some.injEq] at hF
         subst hF
         refine AW.ret (hQ _ _ _ ?_ (matchO_0 ?_)).1
         ·simp [Try.f121, F10]
         ·simp [F10]
        ·replace hF := ite_f h12 hF
         have h12_ := h12
         try simp at h12_
         by_cases h13 : v0 ≤ v6.To
         ·replace hF := ite_t h13 hF
          have h13_ := h13
          try simp at h13_
          have F11 := And.intro F7 (And.intro h10 (And.intro h10_ (And.intro h11 (And.intro h11_ (And.intro h12 (And.intro h12_ (And.intro h13 h13_)))))))
          try simp [F11]
          and_intros <;> first | exact g _ (by kernel_rfl) | refine r _ _ _ ?_ | omega | (simp [maxLen, F11] <;> omega)
          refine WK [(1, AV.ptr 0 0), (3, Iz v5), (4, AV.ptr 1 0), (77, AV.bool true)] [(0, .cells [Iz v0, AV.lst false false (List.map api_Edge.av v1), Lz v2]), (1, .cells [Iz v6.From, Iz v6.To, Iz v6.Level])] 2 (by simp [F11]) (by simp [F11]) ?_
          refine CT (by simp [F11]) ?_
          refine SQ [] [none] fun _ _ g r => ?_
          try simp [F11]
          and_intros <;> first | exact g _ (by kernel_rfl) | refine r _ _ _ ?_ | omega | (simp [maxLen, F11] <;> omega)
          refine WK [(2, Iz 14)] [] 2 (by simp [F11]) (by simp [F11]) ?_
          simp only [Option.some.injEq] at hF
          subst hF
          refine AW.ret (hQ _ _ _ ?_ (matchO_0 ?_)).1
          ·simp [Try.f121, F11]
          ·simp [F11]
         ·replace hF := ite_f h13 hF
          have h13_ := h13
          try simp at h13_
          by_cases h14 : v6.From = v6.To
          ·replace hF := ite_t h14 hF
           have h14q : v6.From = v6.To := h14
           have h14_ := eqb_t h14q
           have h14__ := neb_f h14q
           have F12 := And.intro F7 (And.intro h10 (And.intro h10_ (And.intro h11 (And.intro h11_ (And.intro h12 (And.intro h12_ (And.intro h13 (And.intro h13_ (And.intro h14_ h14__)))))))))
           try simp [F12]
           and_intros <;> first | exact g _ (by kernel_rfl) | refine r _ _ _ ?_ | omega | (simp [maxLen, F12] <;> omega)
           refine WK [(1, AV.ptr 0 0), (3, Iz v5), (4, AV.ptr 1 0), (77, AV.bool true)] [(0, .cells [Iz v0, AV.lst false false (List.map api_Edge.av v1), Lz v2]), (1, .cells [Iz v6.From, Iz v6.To, Iz v6.Level])] 2 (by simp [F12]) (by simp [F12]) ?_
           refine CT (by simp [F12]) ?_
           refine SQ [] [none] fun _ _ g r => ?_
           try simp [F12]
           and_intros <;> first | exact g _ (by kernel_rfl) | refine r _ _ _ ?_ | omega | (simp [maxLen, F12] <;> omega)
           refine WK [(2, Iz 14)] [] 2 (by simp [F12]) (by simp [F12]) ?_
           simp only [Option.some.injEq] at hF
           subst hF
           refine AW.ret (hQ _ _ _ ?_ (matchO_0 ?_)).1
           ·simp [Try.f121, F12]
           ·simp [F12]
          ·replace hF := ite_f h14 hF
           have h14_ := eqb_f h14
           have h14__ := neb_t h14
           by_cases h15 : v6.Level < 1
           ·replace hF := ite_t h15 hF
            have h15_ := h15
            try simp at h15_
            have F13 := And.intro F7 (And.intro h10 (And.intro h10_ (And.intro h11 (And.intro h11_ (And.intro h12 (And.intro h12_ (And.intro h13 (And.intro h13_ (And.intro h14 (And.intro h14_ (And.intro h14__ (And.intro h15 h15_))))))))))))
            try simp [F13]
            and_intros <;> first | exact g _ (by kernel_rfl) | refine r _ _ _ ?_ | omega | (simp [maxLen, F13] <;> omega)
            refine WK [(1, AV.ptr 0 0), (3, Iz v5), (4, AV.ptr 1 0), (77, AV.bool true)] [(0, .cells [Iz v0, AV.lst false false (List.map api_Edge.av v1), Lz v2]), (1, .cells [Iz v6.From, Iz v6.To, Iz v6.Level])] 2 (by simp [F13]) (by simp [F13]) ?_
            refine CT (by simp [F13]) ?_
            refine SQ [] [none] fun _ _ g r => ?_
            try simp [F13]
            and_intros <;> first | exact g _ (by kernel_rfl) | refine r _ _ _ ?_ | omega | (simp [maxLen, F13] <;> omega)
            refine WK [(2, Iz 14)] [] 2 (by simp [F13]) (by simp [F13]) ?_
            simp only [Option.some.injEq] at hF
            subst hF
            refine AW.ret (hQ _ _ _ ?_ (matchO_0 ?_)).1
            ·simp [Try.f121, F13]
            ·simp [F13]
           ·replace hF := ite_f h15 hF
            have h15_ := h15
            try simp at h15_
            have F14 := And.intro F7 (And.intro h10 (And.intro h10_ (And.intro h11 (And.intro h11_ (And.intro h12 (And.intro h12_ (And.intro h13 (And.intro h13_ (And.intro h14 (And.intro h14_ (And.intro h14__ (And.intro h15 h15_))))))))))))
            try simp [F14]
            and_intros <;> first | exact g _ (by kernel_rfl) | refine r _ _ _ ?_ | omega | (simp [maxLen, F14] <;> omega)
            refine WK [(1, AV.ptr 0 0), (3, Iz v5), (4, AV.ptr 1 0), (77, AV.bool (decide (3 < v6.Level)))] [(0, .cells [Iz v0, AV.lst false false (List.map api_Edge.av v1), Lz v2]), (1, .cells [Iz v6.From, Iz v6.To, Iz v6.Level])] 2 (by simp [F14]) (by simp [F14]) ?_
            by_cases h16 : 3 < v6.Level
            ·replace hF := ite_t h16 hF
             have h16_ := h16
             try simp at h16_
             have F15 := And.intro F14 (And.intro h16 h16_)
             refine CT (by simp [F15] <;> omega) ?_
             refine SQ [] [none] fun _ _ g r => ?_
             try simp [F15]
             and_intros <;> first | exact g _ (by kernel_rfl) | refine r _ _ _ ?_ | omega | (simp [maxLen, F15] <;> omega)
             refine WK [(2, Iz 14)] [] 2 (by simp [F15]) (by simp [F15]) ?_
             simp only [Option.some.injEq] at hF
             subst hF
             refine AW.ret (hQ _ _ _ ?_ (matchO_0 ?_)).1
             ·simp [Try.f121, F15]
             ·simp [F15]
            ·replace hF := ite_f h16 hF
             have h16_ := h16
             try simp at h16_
             have F16 := And.intro F14 (And.intro h16 h16_)
             refine CF (by simp [F16] <;> omega) ?_
             refine AW.skip ?_
             refine hK775 _ _ _ ?_
             refine AW.midF (α := Bool) (fun v7 => ref11_Check.J2 k v5 (fun v5_ => ref11_Check.L1 k v0 v1 v2 n1 v5_) v7 = some v3) (fun v7 => [(1, AV.ptr 0 0), (3, Iz v5), (104, AV.bool v7)]) (fun v7 => [(0, .cells [Iz v0, AV.lst false false (List.map api_Edge.av v1), Lz v2])]) 1 (fun K787 hK787 => ?_) ?_
             ·refine RG [] [none, none, none, some (80, true), some (80, true), some (80, true), some (80, true), some (80, true), some (80, true), some (80, true), some (80, true), some (80, true), none, none, some (91, false), some (91, false), some (91, false), some (91, false), some (91, false), none, none, some (98, false), some (98, false), some (98, false), some (98, false), some (98, false), none] fun _ _ g r => ?_
              by_cases h18 : 0 < v5
              ·replace hF := ite_t h18 hF
               have h18_ := h18
               try simp at h18_
               obtain ⟨v8, h19, h20, h21, hF⟩ := idx_elim hF
               have h21_ := get_of h21
               try simp at h21_
               have h20_ := h20
               try simp at h20_
               have F17 := And.intro F16 (And.intro h18 (And.intro h18_ (And.intro h19 (And.intro h20 (And.intro h21 (And.intro h21_ h20_))))))
               try simp [F17]
               and_intros
               try any_goals first | omega | (simp [maxLen, F17] <;> omega)
               obtain ⟨v9, h22, hF⟩ := bnd1_elim hF
               refine AC (w_ref11_before k _ _ _ _ _ _ _ h22) (.cons (.same (by simp [F17])) (.cons (.same (by simp [F17])) .nil)) ?_
               by_cases h23 : (!v9) = true
               ·replace hF := ite_t h23 hF
                have h23_ := h23
                try simp at h23_
                have F18 := And.intro F17 (And.intro h23 h23_)
                try simp [F18]
                and_intros <;> first | exact g _ (by kernel_rfl) | refine r _ _ _ ?_ | omega | (simp [maxLen, F18] <;> omega)
                refine hK787 _ _ _ ?_
                refine RN h0 [(0, 0)] [(1, AV.ptr 0 0), (3, Iz v5), (104, AV.bool true)] [(0, .cells [Iz v0, AV.lst false false (List.map api_Edge.av v1), Lz v2])] 1 (by simp [F18]) (by simp [F18]) ?_
                exact JN (true) hF (by simp [F18]) (by simp [F18])
               ·replace hF := ite_f h23 hF
                have h23_ := h23
                try simp at h23_
                have F19 := And.intro F17 (And.intro h23 h23_)
                try simp [F19]
                and_intros
                try any_goals first | omega | (simp [maxLen, F19] <;> omega)
                obtain ⟨v10, h24, hF⟩ := bnd1_elim hF
                refine AC (w_ref11_Has k _ _ _ h24) (.cons (.same (by simp [F19])) (.cons (.same (by simp [F19])) .nil)) ?_
                by_cases h25 : v10 = true
                ·replace hF := ite_t h25 hF
                 have h25_ := h25
                 try simp at h25_
                 have F20 := And.intro F19 (And.intro h25 h25_)
                 try simp [F20]
                 and_intros <;> first | exact g _ (by kernel_rfl) | refine r _ _ _ ?_ | omega | (simp [maxLen, F20] <;> omega)
                 refine hK787 _ _ _ ?_
                 refine RN h0 [(0, 0)] [(1, AV.ptr 0 0), (3, Iz v5), (104, AV.bool true)] [(0, .cells [Iz v0, AV.lst false false (List.map api_Edge.av v1), Lz v2])] 1 (by simp [F20]) (by simp [F20]) ?_
                 exact JN (true) hF (by simp [F20]) (by simp [F20])
                ·replace hF := ite_f h25 hF
                 have h25_ := h25
                 try simp at h25_
                 have F21 := And.intro F19 (And.intro h25 h25_)
                 try simp [F21]
                 and_intros
                 try any_goals first | omega | (simp [maxLen, F21] <;> omega)
                 obtain ⟨v11, h26, hF⟩ := bnd1_elim hF
                 refine AC (w_ref11_Has k _ _ _ h26) (.cons (.same (by simp [F21])) (.cons (.same (by simp [F21])) .nil)) ?_
                 try simp [F21]
                 and_intros <;> first | exact g _ (by kernel_rfl) | refine r _ _ _ ?_ | omega | (simp [maxLen, F21] <;> omega)
                 refine hK787 _ _ _ ?_
                 refine RN h0 [(0, 0)] [(1, AV.ptr 0 0), (3, Iz v5), (104, AV.bool v11)] [(0, .cells [Iz v0, AV.lst false false (List.map api_Edge.av v1), Lz v2])] 1 (by simp [F21]) (by simp [F21]) ?_
                 exact JN (v11) hF (by simp [F21]) (by simp [F21])
              ·replace hF := ite_f h18 hF
               have h18_ := h18
               try simp at h18_
               have F22 := And.intro F16 (And.intro h18 h18_)
               try simp [F22]
               and_intros
               try any_goals first | omega | (simp [maxLen, F22] <;> omega)
               obtain ⟨v12, h27, hF⟩ := bnd1_elim hF
               refine AC (w_ref11_Has k _ _ _ h27) (.cons (.same (by simp [F22])) (.cons (.same (by simp [F22])) .nil)) ?_
               by_cases h28 : v12 = true
               ·replace hF := ite_t h28 hF
                have h28_ := h28
                try simp at h28_
                have F23 := And.intro F22 (And.intro h28 h28_)
                try simp [F23]
                and_intros <;> first | exact g _ (by kernel_rfl) | refine r _ _ _ ?_ | omega | (simp [maxLen, F23] <;> omega)
                refine hK787 _ _ _ ?_
                refine RN h0 [(0, 0)] [(1, AV.ptr 0 0), (3, Iz v5), (104, AV.bool true)] [(0, .cells [Iz v0, AV.lst false false (List.map api_Edge.av v1), Lz v2])] 1 (by simp [F23]) (by simp [F23]) ?_
                exact JN (true) hF (by simp [F23]) (by simp [F23])
               ·replace hF := ite_f h28 hF
                have h28_ := h28
                try simp at h28_
                have F24 := And.intro F22 (And.intro h28 h28_)
                try simp [F24]
                and_intros
                try any_goals first | omega | (simp [maxLen, F24] <;> omega)
                obtain ⟨v13, h29, hF⟩ := bnd1_elim hF
                refine AC (w_ref11_Has k _ _ _ h29) (.cons (.same (by simp [F24])) (.cons (.same (by simp [F24])) .nil)) ?_
                try simp [F24]
                and_intros <;> first | exact g _ (by kernel_rfl) | refine r _ _ _ ?_ | omega | (simp [maxLen, F24] <;> omega)
                refine hK787 _ _ _ ?_
                refine RN h0 [(0, 0)] [(1, AV.ptr 0 0), (3, Iz v5), (104, AV.bool v13)] [(0, .cells [Iz v0, AV.lst false false (List.map api_Edge.av v1), Lz v2])] 1 (by simp [F24]) (by simp [F24]) ?_
                exact JN (v13) hF (by simp [F24]) (by simp [F24])
             ·rintro v7 hF
              try dsimp only at hF
              unfold ref11_Check.J2 at hF
              by_cases h17 : v7 = true
              ·replace hF := ite_t h17 hF
               have h17_ := h17
               try simp at h17_
               have F25 := And.intro F16 (And.intro h17 h17_)
               refine CT (by simp [F25] <;> omega) ?_
               refine SQ [] [none] fun _ _ g r => ?_
               try simp [F25]
               and_intros <;> first | exact g _ (by kernel_rfl) | refine r _ _ _ ?_ | omega | (simp [maxLen, F25] <;> omega)
               refine WK [(2, Iz 14)] [] 1 (by simp [F25]) (by simp [F25]) ?_
               simp only [Option.some.injEq] at hF
               subst hF
               refine AW.ret (hQ _ _ _ ?_ (matchO_0 ?_)).1
               ·simp [Try.f121, F25]
               ·simp [F25]
              ·replace hF := ite_f h17 hF
               have h17_ := h17
               try simp at h17_
               have F26 := And.intro F16 (And.intro h17 h17_)
               refine CF (by simp [F26] <;> omega) ?_
               refine AW.skip ?_
               refine hK765 _ _ _ ?_
               refine RG [] [none, none, none] fun _ _ g r => ?_
               try simp [F26]
               and_intros <;> first | exact g _ (by kernel_rfl) | refine r _ _ _ ?_ | omega | (simp [maxLen, F26] <;> omega)
               refine hK740 _ _ _ ?_
               exact NX (k' := n1) (IntKind.wrap .i64 (v5 + 1)) hF (by simp [F26]) (by simp [F26])
     ·replace hF := ite_f h6 hF
      have h6_ := h6
      try simp at h6_
      have F27 := And.intro F5 (And.intro h6 h6_)
      refine CF (by simp [F27] <;> omega) ?_
      refine AW.exit ?_
      try simp
      refine hK597 _ _ _ ?_
      refine SQ [] [none] fun _ _ g r => ?_
      try simp [F27]
      and_intros <;> first | exact g _ (by kernel_rfl) | refine r _ _ _ ?_ | omega | (simp [maxLen, F27] <;> omega)
      refine WK [(2, Iz 0)] [] 1 (by simp [F27]) (by simp [F27]) ?_
      simp only [Option.some.injEq] at hF
      subst hF
      refine AW.ret (hQ _ _ _ ?_ (matchO_0 ?_)).1
      ·simp [Try.f121, F27]
      ·simp [F27]
theorem w_ref13_policy (k : Nat) (v0 : Int) (v1 : (List api_Edge)) (v2 : (List Int)) (v3 : (List Int)) (v4 : (List Int)) (v5 : Int) (v6 : Bool) (hF : ref13_policy k v0 v1 v2 v3 v4 v5 = some v6) :
  FCall Try.prog 122 [AV.agg [AV.int .i64 v0, AV.lst false false (List.map api_Edge.av v1), AV.lst false false (List.map (AV.int .i64) v2)], AV.agg [AV.lst false false (List.map (AV.int .i64) v3), AV.lst false false (List.map (AV.int .i64) v4), AV.int .i64 v5]] [] (AV.bool v6) [] := by
 unfold ref13_policy at hF
 refine EN Try.func122 ?_
 intro c0 w0 Q h0 hQ
 refine WK [(0, AV.agg [Iz v0, AV.lst false false (List.map api_Edge.av v1), Lz v2]), (1, AV.agg [Lz v3, Lz v4, Iz v5])] [] 0 (by simp) (by simp) ?_
 refine SQ [] [none, none, none] fun _ _ g r => ?_
 try simp
 and_intros <;> first | exact g _ (by kernel_rfl) | refine r _ _ _ ?_ | omega | (simp [maxLen] <;> omega)
 refine WK [(2, AV.ptr 0 0), (3, AV.ptr 1 0)] [(0, .cells [Iz v0, AV.lst false false (List.map api_Edge.av v1), Lz v2]), (1, .cells [Lz v3, Lz v4, Iz v5])] 2 (by simp) (by simp) ?_
 refine AW.seq fun K127 hK127 => ?_
 refine SQ [] [none, none, none, none, none, some (10, false), some (10, false), some (10, false), some (10, false), some (10, false), some (10, false), none, none, some (18, false), some (18, false), some (18, false), some (18, false), none, none, some (24, false), some (24, false), some (24, false), some (24, false), none, none, some (30, false), some (30, false), some (30, false), none, none, some (35, false), some (35, false), some (35, false), none] fun _ _ g r => ?_
 by_cases h1 : (v3.length : Int) = 0
 ·replace hF := ite_t h1 hF
  have h1q : (v3.length : Int) = 0 := h1
  have h1_ := eqb_t h1q
  have h1__ := neb_f h1q
  have F1 := And.intro h1_ (And.intro h1__ h1q)
  try simp [F1]
  and_intros <;> first | exact g _ (by kernel_rfl) | refine r _ _ _ ?_ | omega | (simp [maxLen, F1] <;> omega)
  refine WK [(3, AV.ptr 1 0), (39, AV.bool true)] [(1, .cells [Lz v3, Lz v4, Iz v5])] 2 (by simp [F1]) (by simp [F1]) ?_
  refine CT (by simp [F1]) ?_
  refine SQ [] [none] fun _ _ g r => ?_
  try simp [F1]
  and_intros <;> first | exact g _ (by kernel_rfl) | refine r _ _ _ ?_ | omega | (simp [maxLen, F1] <;> omega)
  refine WK [(4, AV.bool false)] [] 2 (by simp [F1]) (by simp [F1]) ?_
  simp only [Option.some.injEq] at hF
  subst hF
  refine AW.ret (hQ _ _ _ ?_ (matchO_0 ?_)).1
  ·simp [Try.f122, F1]
  ·simp [F1]
 ·replace hF := ite_f h1 hF
  have h1_ := eqb_f h1
  have h1__ := neb_t h1
  have F2 := And.intro h1 (And.intro h1_ h1__)
  try simp [F2]
  and_intros
  try any_goals first | omega | (simp [maxLen, F2] <;> omega)
  obtain ⟨v7, h2, hF⟩ := bnd1_elim hF
  refine AC (w_ref11_Set k _ _ _ h2) (.cons (.same (by simp [F2])) (.cons (.same (by simp [F2])) .nil)) ?_
  by_cases h3 : (!v7) = true
  ·replace hF := ite_t h3 hF
   have h3_ := h3
   try simp at h3_
   have F3 := And.intro F2 (And.intro h3 h3_)
   try simp [F3]
   and_intros <;> first | exact g _ (by kernel_rfl) | refine r _ _ _ ?_ | omega | (simp [maxLen, F3] <;> omega)
   refine WK [(3, AV.ptr 1 0), (39, AV.bool true)] [(1, .cells [Lz v3, Lz v4, Iz v5])] 2 (by simp [F3]) (by simp [F3]) ?_
   refine CT (by simp [F3]) ?_
   refine SQ [] [none] fun _ _ g r => ?_
   try simp [F3]
   and_intros <;> first | exact g _ (by kernel_rfl) | refine r _ _ _ ?_ | omega | (simp [maxLen, F3] <;> omega)
   refine WK [(4, AV.bool false)] [] 2 (by simp [F3]) (by simp [F3]) ?_
   simp only [Option.some.injEq] at hF
   subst hF
   refine AW.ret (hQ _ _ _ ?_ (matchO_0 ?_)).1
   ·simp [Try.f122, F3]
   ·simp [F3]
  ·replace hF := ite_f h3 hF
   have h3_ := h3
   try simp at h3_
   by_cases h4 : (v4.length : Int) < 1
   ·replace hF := ite_t h4 hF
    have h4_ := h4
    try simp at h4_
    have F4 := And.intro F2 (And.intro h3 (And.intro h3_ (And.intro h4 h4_)))
    try simp [F4]
    and_intros <;> first | exact g _ (by kernel_rfl) | refine r _ _ _ ?_ | omega | (simp [maxLen, F4] <;> omega)
    refine WK [(3, AV.ptr 1 0), (39, AV.bool true)] [(1, .cells [Lz v3, Lz v4, Iz v5])] 2 (by simp [F4]) (by simp [F4]) ?_
    refine CT (by simp [F4]) ?_
    refine SQ [] [none] fun _ _ g r => ?_
    try simp [F4]
    and_intros <;> first | exact g _ (by kernel_rfl) | refine r _ _ _ ?_ | omega | (simp [maxLen, F4] <;> omega)
    refine WK [(4, AV.bool false)] [] 2 (by simp [F4]) (by simp [F4]) ?_
    simp only [Option.some.injEq] at hF
    subst hF
    refine AW.ret (hQ _ _ _ ?_ (matchO_0 ?_)).1
    ·simp [Try.f122, F4]
    ·simp [F4]
   ·replace hF := ite_f h4 hF
    have h4_ := h4
    try simp at h4_
    by_cases h5 : 8 < (v4.length : Int)
    ·replace hF := ite_t h5 hF
     have h5_ := h5
     try simp at h5_
     have F5 := And.intro F2 (And.intro h3 (And.intro h3_ (And.intro h4 (And.intro h4_ (And.intro h5 h5_)))))
     try simp [F5]
     and_intros <;> first | exact g _ (by kernel_rfl) | refine r _ _ _ ?_ | omega | (simp [maxLen, F5] <;> omega)
     refine WK [(3, AV.ptr 1 0), (39, AV.bool true)] [(1, .cells [Lz v3, Lz v4, Iz v5])] 2 (by simp [F5]) (by simp [F5]) ?_
     refine CT (by simp [F5]) ?_
     refine SQ [] [none] fun _ _ g r => ?_
     try simp [F5]
     and_intros <;> first | exact g _ (by kernel_rfl) | refine r _ _ _ ?_ | omega | (simp [maxLen, F5] <;> omega)
     refine WK [(4, AV.bool false)] [] 2 (by simp [F5]) (by simp [F5]) ?_
     simp only [Option.some.injEq] at hF
     subst hF
     refine AW.ret (hQ _ _ _ ?_ (matchO_0 ?_)).1
     ·simp [Try.f122, F5]
     ·simp [F5]
    ·replace hF := ite_f h5 hF
     have h5_ := h5
     try simp at h5_
     by_cases h6 : v5 < 1
     ·replace hF := ite_t h6 hF
      have h6_ := h6
      try simp at h6_
      have F6 := And.intro F2 (And.intro h3 (And.intro h3_ (And.intro h4 (And.intro h4_ (And.intro h5 (And.intro h5_ (And.intro h6 h6_)))))))
      try simp [F6]
      and_intros <;> first | exact g _ (by kernel_rfl) | refine r _ _ _ ?_ | omega | (simp [maxLen, F6] <;> omega)
      refine WK [(3, AV.ptr 1 0), (39, AV.bool true)] [(1, .cells [Lz v3, Lz v4, Iz v5])] 2 (by simp [F6]) (by simp [F6]) ?_
      refine CT (by simp [F6]) ?_
      refine SQ [] [none] fun _ _ g r => ?_
      try simp [F6]
      and_intros <;> first | exact g _ (by kernel_rfl) | refine r _ _ _ ?_ | omega | (simp [maxLen, F6] <;> omega)
      refine WK [(4, AV.bool false)] [] 2 (by simp [F6]) (by simp [F6]) ?_
      simp only [Option.some.injEq] at hF
      subst hF
      refine AW.ret (hQ _ _ _ ?_ (matchO_0 ?_)).1
      ·simp [Try.f122, F6]
      ·simp [F6]
     ·replace hF := ite_f h6 hF
      have h6_ := h6
      try simp at h6_
      have F7 := And.intro F2 (And.intro h3 (And.intro h3_ (And.intro h4 (And.intro h4_ (And.intro h5 (And.intro h5_ (And.intro h6 h6_)))))))
      try simp [F7]
      and_intros <;> first | exact g _ (by kernel_rfl) | refine r _ _ _ ?_ | omega | (simp [maxLen, F7] <;> omega)
      refine WK [(3, AV.ptr 1 0), (39, AV.bool (decide (3 < v5)))] [(1, .cells [Lz v3, Lz v4, Iz v5])] 2 (by simp [F7]) (by simp [F7]) ?_
      by_cases h7 : 3 < v5
      ·replace hF := ite_t h7 hF
       have h7_ := h7
       try simp at h7_
       have F8 := And.intro F7 (And.intro h7 h7_)
       refine CT (by simp [F8] <;> omega) ?_
       refine SQ [] [none] fun _ _ g r => ?_
       try simp [F8]
       and_intros <;> first | exact g _ (by kernel_rfl) | refine r _ _ _ ?_ | omega | (simp [maxLen, F8] <;> omega)
       refine WK [(4, AV.bool false)] [] 2 (by simp [F8]) (by simp [F8]) ?_
       simp only [Option.some.injEq] at hF
       subst hF
       refine AW.ret (hQ _ _ _ ?_ (matchO_0 ?_)).1
       ·simp [Try.f122, F8]
       ·simp [F8]
      ·replace hF := ite_f h7 hF
       have h7_ := h7
       try simp at h7_
       have F9 := And.intro F7 (And.intro h7 h7_)
       refine CF (by simp [F9] <;> omega) ?_
       refine AW.skip ?_
       refine hK127 _ _ _ ?_
       refine AW.seq fun K185 hK185 => ?_
       refine SQ [] [none] fun _ _ g r => ?_
       try simp [F9]
       and_intros <;> first | exact g _ (by kernel_rfl) | refine r _ _ _ ?_ | omega | (simp [maxLen, F9] <;> omega)
       refine WK [(3, AV.ptr 1 0), (5, Iz 0)] [(1, .cells [Lz v3, Lz v4, Iz v5])] 2 (by simp [F9]) (by simp [F9]) ?_
       refine AW.block ?_
       refine RM h0 [(0, 1)] [(3, AV.ptr 0 0), (5, Iz 0)] [(0, .cells [Lz v3, Lz v4, Iz v5])] 1 (by simp [F9]) (by simp [F9]) ?_
       refine AW.loopF (α := Int) (fun n v8 => ref13_policy.L1 k v4 n v8 = some v6) (fun v8 => [(3, AV.ptr 0 0), (5, Iz v8)]) (fun v8 => [(0, .cells [Lz v3, Lz v4, Iz v5])]) 1 k (0) hF (by simp [F9]) (by simp [F9]) (by simp) ?_
       rintro (_|n1) v8 hF K222 hK222
       ·try dsimp only at hF
        rw [ref13_policy.L1] at hF; cases hF
       try dsimp only at hF
       rw [ref13_policy.L1] at hF
       refine AW.seq fun K224 hK224 => ?_
       refine SQ [] [none, none, none, none, none] fun _ _ g r => ?_
       try simp [F9]
       and_intros <;> first | exact g _ (by kernel_rfl) | refine r _ _ _ ?_ | omega | (simp [maxLen, F9] <;> omega)
       refine WK [(3, AV.ptr 0 0), (5, Iz v8), (44, AV.bool (decide (v8 < (v4.length : Int))))] [(0, .cells [Lz v3, Lz v4, Iz v5])] 1 (by simp [F9]) (by simp [F9]) ?_
       by_cases h8 : v8 < (v4.length : Int)
       ·replace hF := ite_t h8 hF
        have h8_ := h8
        try simp at h8_
        have F10 := And.intro F9 (And.intro h8 h8_)
        refine CT (by simp [F10] <;> omega) ?_
        refine AW.skip ?_
        refine hK224 _ _ _ ?_
        refine AW.midF (α := Unit) (fun _ => ref13_policy.J2 k v8 (fun v8_ => ref13_policy.L1 k v4 n1 v8_) = some v6) (fun _ => [(3, AV.ptr 0 0), (5, Iz v8)]) (fun _ => [(0, .cells [Lz v3, Lz v4, Iz v5])]) 1 (fun K231 hK231 => ?_) ?_
        ·refine AW.block ?_
         refine SQ [] [none, none, none, none, none, none, none, some (53, false), some (53, false), some (53, false), some (53, false), some (53, false), some (53, false), none, none, some (61, false), some (61, false), some (61, false), some (64, true), some (64, true), some (64, true), some (64, true), some (64, true), some (64, true), some (64, true), some (64, true), some (64, true), some (64, true), some (64, true), some (64, true), some (61, false), none] fun _ _ g r => ?_
         obtain ⟨v9, h9, h10, h11, hF⟩ := idx_elim hF
         have h11_ := get_of h11
         try simp at h11_
         have h10_ := h10
         try simp at h10_
         by_cases h12 : v9 < 1
         ·replace hF := ite_t h12 hF
          have h12_ := h12
          try simp at h12_
          have F11 := And.intro F10 (And.intro h9 (And.intro h10 (And.intro h11 (And.intro h11_ (And.intro h10_ (And.intro h12 h12_))))))
          try simp [F11]
          and_intros <;> first | exact g _ (by kernel_rfl) | refine r _ _ _ ?_ | omega | (simp [maxLen, F11] <;> omega)
          refine WK [(3, AV.ptr 0 0), (5, Iz v8), (78, AV.bool true)] [(0, .cells [Lz v3, Lz v4, Iz v5])] 1 (by simp [F11]) (by simp [F11]) ?_
          refine CT (by simp [F11]) ?_
          refine SQ [] [none] fun _ _ g r => ?_
          try simp [F11]
          and_intros <;> first | exact g _ (by kernel_rfl) | refine r _ _ _ ?_ | omega | (simp [maxLen, F11] <;> omega)
          refine WK [(4, AV.bool false)] [] 1 (by simp [F11]) (by simp [F11]) ?_
          simp only [Option.some.injEq] at hF
          subst hF
          refine AW.ret (hQ _ _ _ ?_ (matchO_0 ?_)).1
          ·simp [Try.f122, F11]
          ·simp [F11]
         ·replace hF := ite_f h12 hF
          have h12_ := h12
          try simp at h12_
          by_cases h13 : 1000 < v9
          ·replace hF := ite_t h13 hF
           have h13_ := h13
           try simp at h13_
           have F12 := And.intro F10 (And.intro h9 (And.intro h10 (And.intro h11 (And.intro h11_ (And.intro h10_ (And.intro h12 (And.intro h12_ (And.intro h13 h13_))))))))
           try simp [F12]
           and_intros <;> first | exact g _ (by kernel_rfl) | refine r _ _ _ ?_ | omega | (simp [maxLen, F12] <;> omega)
           refine WK [(3, AV.ptr 0 0), (5, Iz v8), (78, AV.bool true)] [(0, .cells [Lz v3, Lz v4, Iz v5])] 1 (by simp [F12]) (by simp [F12]) ?_
           refine CT (by simp [F12]) ?_
           refine SQ [] [none] fun _ _ g r => ?_
           try simp [F12]
           and_intros <;> first | exact g _ (by kernel_rfl) | refine r _ _ _ ?_ | omega | (simp [maxLen, F12] <;> omega)
           refine WK [(4, AV.bool false)] [] 1 (by simp [F12]) (by simp [F12]) ?_
           simp only [Option.some.injEq] at hF
           subst hF
           refine AW.ret (hQ _ _ _ ?_ (matchO_0 ?_)).1
           ·simp [Try.f122, F12]
           ·simp [F12]
          ·replace hF := ite_f h13 hF
           have h13_ := h13
           try simp at h13_
           by_cases h14 : 0 < v8
           ·replace hF := ite_t h14 hF
            have h14_ := h14
            try simp at h14_
            obtain ⟨v10, h15, h16, h17, hF⟩ := idx_elim hF
            have h17_ := get_of h17
            try simp at h17_
            have h16_ := h16
            try simp at h16_
            have F13 := And.intro F10 (And.intro h9 (And.intro h10 (And.intro h11 (And.intro h11_ (And.intro h10_ (And.intro h12 (And.intro h12_ (And.intro h13 (And.intro h13_ (And.intro h14 (And.intro h14_ (And.intro h15 (And.intro h16 (And.intro h17 (And.intro h17_ h16_)))))))))))))))
            try simp [F13]
            and_intros <;> first | exact g _ (by kernel_rfl) | refine r _ _ _ ?_ | omega | (simp [maxLen, F13] <;> omega)
            refine WK [(3, AV.ptr 0 0), (5, Iz v8), (78, AV.bool (decide (v10 < v9)))] [(0, .cells [Lz v3, Lz v4, Iz v5])] 1 (by simp [F13]) (by simp [F13]) ?_
            by_cases h18 : v10 < v9
            ·replace hF := ite_t h18 hF
             have h18_ := h18
             try simp at h18_
             have F14 := And.intro F13 (And.intro h18 h18_)
             refine CT (by simp [F14] <;> omega) ?_
             refine SQ [] [none] fun _ _ g r => ?_
             try simp [F14]
             and_intros <;> first | exact g _ (by kernel_rfl) | refine r _ _ _ ?_ | omega | (simp [maxLen, F14] <;> omega)
             refine WK [(4, AV.bool false)] [] 1 (by simp [F14]) (by simp [F14]) ?_
             simp only [Option.some.injEq] at hF
             subst hF
             refine AW.ret (hQ _ _ _ ?_ (matchO_0 ?_)).1
             ·simp [Try.f122, F14]
             ·simp [F14]
            ·replace hF := ite_f h18 hF
             have h18_ := h18
             try simp at h18_
             have F15 := And.intro F13 (And.intro h18 h18_)
             refine CF (by simp [F15] <;> omega) ?_
             refine AW.skip ?_
             refine hK231 _ _ _ ?_
             exact JN (()) hF (by simp [F15]) (by simp [F15])
           ·replace hF := ite_f h14 hF
            have h14_ := h14
            try simp at h14_
            have F16 := And.intro F10 (And.intro h9 (And.intro h10 (And.intro h11 (And.intro h11_ (And.intro h10_ (And.intro h12 (And.intro h12_ (And.intro h13 (And.intro h13_ (And.intro h14 h14_))))))))))
            try simp [F16]
            and_intros <;> first | exact g _ (by kernel_rfl) | refine r _ _ _ ?_ | omega | (simp [maxLen, F16] <;> omega)
            refine WK [(3, AV.ptr 0 0), (5, Iz v8), (78, AV.bool false)] [(0, .cells [Lz v3, Lz v4, Iz v5])] 1 (by simp [F16]) (by simp [F16]) ?_
            refine CF (by simp [F16]) ?_
            refine AW.skip ?_
            refine hK231 _ _ _ ?_
            exact JN (()) hF (by simp [F16]) (by simp [F16])
        ·rintro ⟨⟩ hF
         try dsimp only at hF
         unfold ref13_policy.J2 at hF
         refine RG [] [none, none, none] fun _ _ g r => ?_
         try simp [F10]
         and_intros <;> first | exact g _ (by kernel_rfl) | refine r _ _ _ ?_ | omega | (simp [maxLen, F10] <;> omega)
         refine hK222 _ _ _ ?_
         exact NX (k' := n1) (IntKind.wrap .i64 (v8 + 1)) hF (by simp [F10]) (by simp [F10])
       ·replace hF := ite_f h8 hF
        have h8_ := h8
        try simp at h8_
        have F17 := And.intro F9 (And.intro h8 h8_)
        refine CF (by simp [F17] <;> omega) ?_
        refine AW.exit ?_
        try simp
        refine hK185 _ _ _ ?_
        refine SQ [] [none] fun _ _ g r => ?_
        try simp [F17]
        and_intros <;> first | exact g _ (by kernel_rfl) | refine r _ _ _ ?_ | omega | (simp [maxLen, F17] <;> omega)
        refine WK [(4, AV.bool true)] [] 1 (by simp [F17]) (by simp [F17]) ?_
        simp only [Option.some.injEq] at hF
        subst hF
        refine AW.ret (hQ _ _ _ ?_ (matchO_0 ?_)).1
        ·simp [Try.f122, F17]
        ·simp [F17]
theorem w_ref13_Check (k : Nat) (v0 : Int) (v1 : (List api_Edge)) (v2 : (List Int)) (v3 : (List Int)) (v4 : (List Int)) (v5 : Int) (v6 : Int) (hF : ref13_Check k v0 v1 v2 v3 v4 v5 = some v6) :
  FCall Try.prog 116 [AV.agg [AV.int .i64 v0, AV.lst false false (List.map api_Edge.av v1), AV.lst false false (List.map (AV.int .i64) v2)], AV.agg [AV.lst false false (List.map (AV.int .i64) v3), AV.lst false false (List.map (AV.int .i64) v4), AV.int .i64 v5]] [] (AV.int .i64 v6) [] := by
 unfold ref13_Check at hF
 refine EN Try.func116 ?_
 intro c0 w0 Q h0 hQ
 refine WK [(0, AV.agg [Iz v0, AV.lst false false (List.map api_Edge.av v1), Lz v2]), (1, AV.agg [Lz v3, Lz v4, Iz v5])] [] 0 (by simp) (by simp) ?_
 refine SQ [] [none, none, none] fun _ _ g r => ?_
 try simp
 and_intros <;> first | exact g _ (by kernel_rfl) | refine r _ _ _ ?_ | omega | (simp [maxLen] <;> omega)
 refine WK [(2, AV.ptr 0 0), (3, AV.ptr 1 0)] [(0, .cells [Iz v0, AV.lst false false (List.map api_Edge.av v1), Lz v2]), (1, .cells [Lz v3, Lz v4, Iz v5])] 2 (by simp) (by simp) ?_
 refine AW.seq fun K16 hK16 => ?_
 refine SQ [] [none, none, none] fun _ _ g r => ?_
 try simp
 and_intros
 try any_goals first | omega | (simp [maxLen] <;> omega)
 obtain ⟨v7, h1, hF⟩ := bnd1_elim hF
 refine AC (w_ref11_Check k _ _ _ _ h1) (.cons (.same (by simp)) .nil) ?_
 try simp
 and_intros <;> first | exact g _ (by kernel_rfl) | refine r _ _ _ ?_ | omega | (simp [maxLen] <;> omega)
 refine WK [(2, AV.ptr 0 0), (3, AV.ptr 1 0), (7, AV.bool (v7 != 0))] [(0, .cells [Iz v0, AV.lst false false (List.map api_Edge.av v1), Lz v2]), (1, .cells [Lz v3, Lz v4, Iz v5])] 2 (by simp) (by simp) ?_
 by_cases h2 : v7 ≠ 0
 ·replace hF := ite_t h2 hF
  have h2_ := eqb_f h2
  have h2__ := neb_t h2
  have F1 := And.intro h2 (And.intro h2_ h2__)
  refine CT (by simp [F1] <;> omega) ?_
  refine SQ [] [none] fun _ _ g r => ?_
  try simp [F1]
  and_intros <;> first | exact g _ (by kernel_rfl) | refine r _ _ _ ?_ | omega | (simp [maxLen, F1] <;> omega)
  refine WK [(4, Iz 14)] [] 2 (by simp [F1]) (by simp [F1]) ?_
  simp only [Option.some.injEq] at hF
  subst hF
  refine AW.ret (hQ _ _ _ ?_ (matchO_0 ?_)).1
  ·simp [Try.f116, F1]
  ·simp [F1]
 ·replace hF := ite_f h2 hF
  have h2q : v7 = 0 := Classical.not_not.1 h2
  have h2_ := eqb_t h2q
  have h2__ := neb_f h2q
  have F2 := And.intro h2_ (And.intro h2__ h2q)
  refine CF (by simp [F2] <;> omega) ?_
  refine AW.skip ?_
  refine hK16 _ _ _ ?_
  refine AW.seq fun K21 hK21 => ?_
  refine SQ [] [none, none, none, none] fun _ _ g r => ?_
  try simp [F2]
  and_intros
  try any_goals first | omega | (simp [maxLen, F2] <;> omega)
  obtain ⟨v8, h3, hF⟩ := bnd1_elim hF
  refine AC (w_ref13_policy k _ _ _ _ _ _ _ h3) (.cons (.same (by simp [F2])) (.cons (.same (by simp [F2])) .nil)) ?_
  try simp [F2]
  and_intros <;> first | exact g _ (by kernel_rfl) | refine r _ _ _ ?_ | omega | (simp [maxLen, F2] <;> omega)
  refine WK [(11, AV.bool (!v8))] [] 2 (by simp [F2]) (by simp [F2]) ?_
  by_cases h4 : (!v8) = true
  ·replace hF := ite_t h4 hF
   have h4_ := h4
   try simp at h4_
   have F3 := And.intro F2 (And.intro h4 h4_)
   refine CT (by simp [F3] <;> omega) ?_
   refine SQ [] [none] fun _ _ g r => ?_
   try simp [F3]
   and_intros <;> first | exact g _ (by kernel_rfl) | refine r _ _ _ ?_ | omega | (simp [maxLen, F3] <;> omega)
   refine WK [(4, Iz 15)] [] 2 (by simp [F3]) (by simp [F3]) ?_
   simp only [Option.some.injEq] at hF
   subst hF
   refine AW.ret (hQ _ _ _ ?_ (matchO_0 ?_)).1
   ·simp [Try.f116, F3]
   ·simp [F3]
  ·replace hF := ite_f h4 hF
   have h4_ := h4
   try simp at h4_
   have F4 := And.intro F2 (And.intro h4 h4_)
   refine CF (by simp [F4] <;> omega) ?_
   refine AW.skip ?_
   refine hK21 _ _ _ ?_
   refine SQ [] [none] fun _ _ g r => ?_
   try simp [F4]
   and_intros <;> first | exact g _ (by kernel_rfl) | refine r _ _ _ ?_ | omega | (simp [maxLen, F4] <;> omega)
   refine WK [(4, Iz 0)] [] 2 (by simp [F4]) (by simp [F4]) ?_
   simp only [Option.some.injEq] at hF
   subst hF
   refine AW.ret (hQ _ _ _ ?_ (matchO_0 ?_)).1
   ·simp [Try.f116, F4]
   ·simp [F4]
theorem w_ref24_Check (k : Nat) (v0 : (List Int)) (v1 : (List Int)) (v2 : (List Int)) (v3 : Int) (v4 : Int) (v5 : Int) (v6 : Int) (v7 : Int) (hF : ref24_Check k v0 v1 v2 v3 v4 v5 v6 = some v7) :
  FCall Try.prog 89 [AV.agg [AV.lst false false (List.map (AV.int .i64) v0), AV.lst false false (List.map (AV.int .i64) v1), AV.lst false false (List.map (AV.int .i64) v2), AV.int .i64 v3, AV.int .i64 v4, AV.int .i64 v5, AV.int .i64 v6]] [] (AV.int .i64 v7) [] := by
 unfold ref24_Check at hF
 refine EN Try.func89 ?_
 intro c0 w0 Q h0 hQ
 refine WK [(0, AV.agg [Lz v0, Lz v1, Lz v2, Iz v3, Iz v4, Iz v5, Iz v6])] [] 0 (by simp) (by simp) ?_
 refine SQ [] [none, none] fun _ _ g r => ?_
 try simp
 and_intros <;> first | exact g _ (by kernel_rfl) | refine r _ _ _ ?_ | omega | (simp [maxLen] <;> omega)
 refine WK [(1, AV.ptr 0 0)] [(0, .cells [Lz v0, Lz v1, Lz v2, Iz v3, Iz v4, Iz v5, Iz v6])] 1 (by simp) (by simp) ?_
 refine AW.seq fun K33 hK33 => ?_
 refine SQ [] [none, none, none, none] fun _ _ g r => ?_
 try simp
 and_intros
 try any_goals first | omega | (simp [maxLen] <;> omega)
 obtain ⟨v8, h1, hF⟩ := bnd1_elim hF
 refine AC (w_ref24_Valid k _ _ h1) (.cons (.same (by simp)) .nil) ?_
 try simp
 and_intros <;> first | exact g _ (by kernel_rfl) | refine r _ _ _ ?_ | omega | (simp [maxLen] <;> omega)
 refine WK [(1, AV.ptr 0 0), (7, AV.bool (!v8))] [(0, .cells [Lz v0, Lz v1, Lz v2, Iz v3, Iz v4, Iz v5, Iz v6])] 1 (by simp) (by simp) ?_
 by_cases h2 : (!v8) = true
 ·replace hF := ite_t h2 hF
  have h2_ := h2
  try simp at h2_
  refine CT (by simp [h2, h2_] <;> omega) ?_
  refine SQ [] [none] fun _ _ g r => ?_
  try simp [h2, h2_]
  and_intros <;> first | exact g _ (by kernel_rfl) | refine r _ _ _ ?_ | omega | (simp [h2, h2_, maxLen] <;> omega)
  refine WK [(2, Iz 43)] [] 1 (by simp [h2, h2_]) (by simp [h2, h2_]) ?_
  simp only [Option.some.injEq] at hF
  subst hF
  refine AW.ret (hQ _ _ _ ?_ (matchO_0 ?_)).1
  ·simp [Try.f89, h2, h2_]
  ·simp [h2, h2_]
 ·replace hF := ite_f h2 hF
  have h2_ := h2
  try simp at h2_
  refine CF (by simp [h2, h2_] <;> omega) ?_
  refine AW.skip ?_
  refine hK33 _ _ _ ?_
  refine AW.seq fun K39 hK39 => ?_
  refine SQ [] [none, none, none, none, none] fun _ _ g r => ?_
  try simp [h2, h2_]
  and_intros
  try any_goals first | omega | (simp [h2, h2_, maxLen] <;> omega)
  obtain ⟨v9, h3, hF⟩ := bnd1_elim hF
  refine AC (w_ref13_Check k _ _ _ _ _ _ _ h3) (.cons (.agg (.cons (.same (by simp [h2, h2_])) (.cons (Coe.fl (by simp [h2, h2_])) (.cons (Coe.fl (by simp [h2, h2_])) .nil)))) (.cons (.same (by simp [h2, h2_])) .nil)) ?_
  try simp [h2, h2_]
  and_intros <;> first | exact g _ (by kernel_rfl) | refine r _ _ _ ?_ | omega | (simp [h2, h2_, maxLen] <;> omega)
  refine WK [(1, AV.ptr 0 0), (3, Iz v9)] [(0, .cells [Lz v0, Lz v1, Lz v2, Iz v3, Iz v4, Iz v5, Iz v6])] 1 (by simp [h2, h2_]) (by simp [h2, h2_]) ?_
  refine SQ [] [none, none] fun _ _ g r => ?_
  try simp [h2, h2_]
  and_intros <;> first | exact g _ (by kernel_rfl) | refine r _ _ _ ?_ | omega | (simp [h2, h2_, maxLen] <;> omega)
  refine WK [(1, AV.ptr 0 0), (3, Iz v9), (13, AV.bool (v9 != 0))] [(0, .cells [Lz v0, Lz v1, Lz v2, Iz v3, Iz v4, Iz v5, Iz v6])] 1 (by simp [h2, h2_]) (by simp [h2, h2_]) ?_
  by_cases h4 : v9 ≠ 0
  ·replace hF := ite_t h4 hF
   have h4_ := eqb_f h4
   have h4__ := neb_t h4
   have F1 := And.intro h2 (And.intro h2_ (And.intro h4 (And.intro h4_ h4__)))
   refine CT (by simp [F1] <;> omega) ?_
   refine SQ [] [none, none] fun _ _ g r => ?_
   try simp [F1]
   and_intros <;> first | exact g _ (by kernel_rfl) | refine r _ _ _ ?_ | omega | (simp [maxLen, F1] <;> omega)
   refine WK [(2, Iz v9)] [] 1 (by simp [F1]) (by simp [F1]) ?_
   simp only [Option.some.injEq] at hF
   subst hF
   refine AW.ret (hQ _ _ _ ?_ (matchO_0 ?_)).1
   ·simp [Try.f89, F1]
   ·simp [F1]
  ·replace hF := ite_f h4 hF
   have h4q : v9 = 0 := Classical.not_not.1 h4
   have h4_ := eqb_t h4q
   have h4__ := neb_f h4q
   refine CF (by simp [h2, h2_, h4_, h4__, h4q] <;> omega) ?_
   refine AW.skip ?_
   refine hK39 _ _ _ ?_
   refine AW.seq fun K50 hK50 => ?_
   refine SQ [] [none, none, none, none, some (18, false), some (18, false), some (18, false), none, none, some (23, false), some (23, false), some (23, false), none, none, some (28, false), some (28, false), some (28, false), none, none, some (33, false), some (33, false), some (33, false), none, none, some (38, false), some (38, false), some (38, false), none] fun _ _ g r => ?_
   by_cases h5 : v4 < 1
   ·replace hF := ite_t h5 hF
    have h5_ := h5
    try simp at h5_
    have F2 := And.intro h2 (And.intro h2_ (And.intro h4_ (And.intro h4__ (And.intro h4q (And.intro h5 h5_)))))
    try simp [F2]
    and_intros <;> first | exact g _ (by kernel_rfl) | refine r _ _ _ ?_ | omega | (simp [maxLen, F2] <;> omega)
    refine WK [(42, AV.bool true)] [] 1 (by simp [F2]) (by simp [F2]) ?_
    refine CT (by simp [F2]) ?_
    refine SQ [] [none] fun _ _ g r => ?_
    try simp [F2]
    and_intros <;> first | exact g _ (by kernel_rfl) | refine r _ _ _ ?_ | omega | (simp [maxLen, F2] <;> omega)
    refine WK [(2, Iz 40)] [] 1 (by simp [F2]) (by simp [F2]) ?_
    simp only [Option.some.injEq] at hF
    subst hF
    refine AW.ret (hQ _ _ _ ?_ (matchO_0 ?_)).1
    ·simp [Try.f89, F2]
    ·simp [F2]
   ·replace hF := ite_f h5 hF
    have h5_ := h5
    try simp at h5_
    by_cases h6 : 9 < v4
    ·replace hF := ite_t h6 hF
     have h6_ := h6
     try simp at h6_
     have F3 := And.intro h2 (And.intro h2_ (And.intro h4_ (And.intro h4__ (And.intro h4q (And.intro h5 (And.intro h5_ (And.intro h6 h6_)))))))
     try simp [F3]
     and_intros <;> first | exact g _ (by kernel_rfl) | refine r _ _ _ ?_ | omega | (simp [maxLen, F3] <;> omega)
     refine WK [(42, AV.bool true)] [] 1 (by simp [F3]) (by simp [F3]) ?_
     refine CT (by simp [F3]) ?_
     refine SQ [] [none] fun _ _ g r => ?_
     try simp [F3]
     and_intros <;> first | exact g _ (by kernel_rfl) | refine r _ _ _ ?_ | omega | (simp [maxLen, F3] <;> omega)
     refine WK [(2, Iz 40)] [] 1 (by simp [F3]) (by simp [F3]) ?_
     simp only [Option.some.injEq] at hF
     subst hF
     refine AW.ret (hQ _ _ _ ?_ (matchO_0 ?_)).1
     ·simp [Try.f89, F3]
     ·simp [F3]
    ·replace hF := ite_f h6 hF
     have h6_ := h6
     try simp at h6_
     by_cases h7 : v5 < 1
     ·replace hF := ite_t h7 hF
      have h7_ := h7
      try simp at h7_
      have F4 := And.intro h2 (And.intro h2_ (And.intro h4_ (And.intro h4__ (And.intro h4q (And.intro h5 (And.intro h5_ (And.intro h6 (And.intro h6_ (And.intro h7 h7_)))))))))
      try simp [F4]
      and_intros <;> first | exact g _ (by kernel_rfl) | refine r _ _ _ ?_ | omega | (simp [maxLen, F4] <;> omega)
      refine WK [(42, AV.bool true)] [] 1 (by simp [F4]) (by simp [F4]) ?_
      refine CT (by simp [F4]) ?_
      refine SQ [] [none] fun _ _ g r => ?_
      try simp [F4]
      and_intros <;> first | exact g _ (by kernel_rfl) | refine r _ _ _ ?_ | omega | (simp [maxLen, F4] <;> omega)
      refine WK [(2, Iz 40)] [] 1 (by simp [F4]) (by simp [F4]) ?_
      simp only [Option.some.injEq] at hF
      subst hF
      refine AW.ret (hQ _ _ _ ?_ (matchO_0 ?_)).1
      ·simp [Try.f89, F4]
      ·simp [F4]
     ·replace hF := ite_f h7 hF
      have h7_ := h7
      try simp at h7_
      by_cases h8 : 1000000 < v5
      ·replace hF := ite_t h8 hF
       have h8_ := h8
       try simp at h8_
       have F5 := And.intro h2 (And.intro h2_ (And.intro h4_ (And.intro h4__ (And.intro h4q (And.intro h5 (And.intro h5_ (And.intro h6 (And.intro h6_ (And.intro h7 (And.intro h7_ (And.intro h8 h8_)))))))))))
       try simp [F5]
       and_intros <;> first | exact g _ (by kernel_rfl) | refine r _ _ _ ?_ | omega | (simp [maxLen, F5] <;> omega)
       refine WK [(42, AV.bool true)] [] 1 (by simp [F5]) (by simp [F5]) ?_
       refine CT (by simp [F5]) ?_
       refine SQ [] [none] fun _ _ g r => ?_
       try simp [F5]
       and_intros <;> first | exact g _ (by kernel_rfl) | refine r _ _ _ ?_ | omega | (simp [maxLen, F5] <;> omega)
       refine WK [(2, Iz 40)] [] 1 (by simp [F5]) (by simp [F5]) ?_
       simp only [Option.some.injEq] at hF
       subst hF
       refine AW.ret (hQ _ _ _ ?_ (matchO_0 ?_)).1
       ·simp [Try.f89, F5]
       ·simp [F5]
      ·replace hF := ite_f h8 hF
       have h8_ := h8
       try simp at h8_
       by_cases h9 : v6 < 0
       ·replace hF := ite_t h9 hF
        have h9_ := h9
        try simp at h9_
        have F6 := And.intro h2 (And.intro h2_ (And.intro h4_ (And.intro h4__ (And.intro h4q (And.intro h5 (And.intro h5_ (And.intro h6 (And.intro h6_ (And.intro h7 (And.intro h7_ (And.intro h8 (And.intro h8_ (And.intro h9 h9_)))))))))))))
        try simp [F6]
        and_intros <;> first | exact g _ (by kernel_rfl) | refine r _ _ _ ?_ | omega | (simp [maxLen, F6] <;> omega)
        refine WK [(42, AV.bool true)] [] 1 (by simp [F6]) (by simp [F6]) ?_
        refine CT (by simp [F6]) ?_
        refine SQ [] [none] fun _ _ g r => ?_
        try simp [F6]
        and_intros <;> first | exact g _ (by kernel_rfl) | refine r _ _ _ ?_ | omega | (simp [maxLen, F6] <;> omega)
        refine WK [(2, Iz 40)] [] 1 (by simp [F6]) (by simp [F6]) ?_
        simp only [Option.some.injEq] at hF
        subst hF
        refine AW.ret (hQ _ _ _ ?_ (matchO_0 ?_)).1
        ·simp [Try.f89, F6]
        ·simp [F6]
       ·replace hF := ite_f h9 hF
        have h9_ := h9
        try simp at h9_
        have F7 := And.intro h2 (And.intro h2_ (And.intro h4_ (And.intro h4__ (And.intro h4q (And.intro h5 (And.intro h5_ (And.intro h6 (And.intro h6_ (And.intro h7 (And.intro h7_ (And.intro h8 (And.intro h8_ (And.intro h9 h9_)))))))))))))
        try simp [F7]
        and_intros <;> first | exact g _ (by kernel_rfl) | refine r _ _ _ ?_ | omega | (simp [maxLen, F7] <;> omega)
        refine WK [(42, AV.bool (decide (64 < v6)))] [] 1 (by simp [F7]) (by simp [F7]) ?_
        by_cases h10 : 64 < v6
        ·replace hF := ite_t h10 hF
         have h10_ := h10
         try simp at h10_
         have F8 := And.intro F7 (And.intro h10 h10_)
         refine CT (by simp [F8] <;> omega) ?_
         refine SQ [] [none] fun _ _ g r => ?_
         try simp [F8]
         and_intros <;> first | exact g _ (by kernel_rfl) | refine r _ _ _ ?_ | omega | (simp [maxLen, F8] <;> omega)
         refine WK [(2, Iz 40)] [] 1 (by simp [F8]) (by simp [F8]) ?_
         simp only [Option.some.injEq] at hF
         subst hF
         refine AW.ret (hQ _ _ _ ?_ (matchO_0 ?_)).1
         ·simp [Try.f89, F8]
         ·simp [F8]
        ·replace hF := ite_f h10 hF
         have h10_ := h10
         try simp at h10_
         have F9 := And.intro F7 (And.intro h10 h10_)
         refine CF (by simp [F9] <;> omega) ?_
         refine AW.skip ?_
         refine hK50 _ _ _ ?_
         refine SQ [] [none] fun _ _ g r => ?_
         try simp [F9]
         and_intros <;> first | exact g _ (by kernel_rfl) | refine r _ _ _ ?_ | omega | (simp [maxLen, F9] <;> omega)
         refine WK [(2, Iz 0)] [] 1 (by simp [F9]) (by simp [F9]) ?_
         simp only [Option.some.injEq] at hF
         subst hF
         refine AW.ret (hQ _ _ _ ?_ (matchO_0 ?_)).1
         ·simp [Try.f89, F9]
         ·simp [F9]
end Go.TF
