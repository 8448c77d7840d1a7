/- Walks: the Go text computes the Lean functions (printed by a program of our own). -/
import Derived.Test.YteclncnknklkfaaVPu
import Derived.Test.YteclncnknklkfaaVAbsT
import Derived.Test.YteclncnknklkfaaVWa0
import Derived.Test.YteclncnknklkfaaVWa1
import Derived.Test.YteclncnknklkfaaVWa3
import Derived.Test.YteclncnknklkfaaVWa4
set_option linter.unusedVariables false
set_option linter.unusedSimpArgs false
set_option maxRecDepth 100000
set_option maxHeartbeats 4000000
namespace Go.TF
open Go Go.Abs Go.Proofs Go.Proofs.YteclncnknklkfaaVT
abbrev c_mill_Vote_o  : AObj := .cells [Iz 0, Iz 0, AV.str (ByteArray.mk #[]), Iz 0, Iz 0, Iz 0, Iz 0, Iz 0, AV.lst true true (List.map (AV.int .i64) ([] : List Int)), AV.lst true true (List.map api_Pin.av ([] : List api_Pin)), AV.str (ByteArray.mk #[]), Iz 0, AV.str (ByteArray.mk #[])]
theorem w_mill_Vote_o (k : Nat) (v0 : Int) (v1 : Int) (v2 : Int) (v3 : Int) (v4 : Int) (v5 : Int) (v6 : (List Int)) (v7 : (List api_Pin)) (v8 : api_Statement) (hF : mill_Vote_o k v0 v1 v2 v3 v4 v5 v6 v7 = some v8) :
  FCall Try.prog 14 [AV.int .i64 v0, AV.int .i64 v1, AV.agg [AV.int .i64 v2, AV.int .i64 v3, AV.int .i64 v4, AV.int .i64 v5], AV.agg [AV.lst false false (List.map (AV.int .i64) v6), AV.lst false false (List.map api_Pin.av v7)]] [] (AV.agg [AV.int .i64 v8.Author, AV.int .i64 v8.Number, AV.str v8.Prev, AV.int .i64 v8.Time, AV.int .i64 v8.Kind, AV.int .i64 v8.A, AV.int .i64 v8.B, AV.int .i64 v8.C, AV.slc 0 0 1 v8.Lst.length false, AV.slc 1 0 3 v8.Pins.length false, AV.str v8.Body, AV.int .i64 v8.Seal_Key, AV.str v8.Seal_Digest]) [some (.grow (List.map (AV.int .i64) v8.Lst)), some (.grow (flatA (List.map api_Pin.av v8.Pins)))] := by
 unfold mill_Vote_o at hF
 refine EN Try.func14 ?_
 intro c0 w0 Q h0 hQ
 refine WK [(0, Iz v0), (1, Iz v1), (2, AV.agg [Iz v2, Iz v3, Iz v4, Iz v5]), (3, AV.agg [Lz v6, AV.lst false false (List.map api_Pin.av v7)])] [] 0 (by simp) (by simp) ?_
 refine SQ [] [none, none, none] fun _ _ g r => ?_
 try simp
 and_intros <;> first | exact g _ (by kernel_rfl) | refine r _ _ _ ?_ | omega | (simp [maxLen] <;> omega)
 refine WK [(0, Iz v0), (1, Iz v1), (6, AV.ptr 0 0), (7, AV.ptr 1 0), (8, AV.ptr 2 0)] [(0, .cells [Iz v2, Iz v3, Iz v4, Iz v5]), (1, .cells [Lz v6, AV.lst false false (List.map api_Pin.av v7)]), (2, c_mill_Vote_o )] 3 (by simp) (by simp) ?_
 refine SQ [] [none, none, none, none, none, none, none, none, none] fun _ _ g r => ?_
 try simp
 and_intros
 try any_goals first | omega | (simp [maxLen] <;> omega)
 obtain ⟨v9, v10, v11, v12, v13, v14, v15, h1, hF⟩ := bnd7_elim hF
 refine AC (w_ref23_Draft k _ _ _ _ _ _ _ _ _ _ _ _ _ h1) (.cons (.same (by simp)) (.cons (.same (by simp)) .nil)) ?_
 try simp
 and_intros <;> first | exact g _ (by kernel_rfl) | refine r _ _ _ ?_ | omega | (simp [maxLen] <;> omega)
 refine WK [(0, Iz v0), (1, Iz v1), (8, AV.ptr 2 0), (9, AV.ptr 3 0)] [(2, c_mill_Vote_o ), (3, .cells [Iz v9, Iz v10, Iz v11, Iz v12, Lz v13, AV.lst false false (List.map api_Pin.av v14)])] 4 (by simp) (by simp) ?_
 refine SQ [] [none, none, none, none, none] fun _ _ g r => ?_
 try simp
 and_intros
 try any_goals first | omega | (simp [maxLen] <;> omega)
 obtain ⟨v16, h2, hF⟩ := bnd1_elim hF
 refine AC (w_mill_Statement_o k _ _ _ _ _ _ _ _ _ _ h2) (.cons (.same (by simp)) (.cons (.same (by simp)) (.cons (.same (by simp)) (.cons (.same (by simp)) .nil)))) ?_
 try simp
 and_intros <;> first | exact g _ (by kernel_rfl) | refine r _ _ _ ?_ | omega | (simp [maxLen] <;> omega)
 refine RM h0 [(0, 4), (1, 5), (2, 2)] [(8, AV.ptr 2 0)] [(0, .grow (List.map (AV.int .i64) v16.Lst)), (1, .grow (flatA (List.map api_Pin.av v16.Pins))), (2, .cells [Iz v16.Author, Iz v16.Number, AV.str v16.Prev, Iz v16.Time, Iz v16.Kind, Iz v16.A, Iz v16.B, Iz v16.C, AV.slc 0 0 1 v16.Lst.length false, AV.slc 1 0 3 v16.Pins.length false, AV.str v16.Body, Iz v16.Seal_Key, AV.str v16.Seal_Digest])] 3 (by simp) (by simp) ?_
 simp only [Option.some.injEq] at hF
 subst hF
 refine AW.ret (hQ _ _ _ ?_ (matchO_0 ?_)).1
 ·simp [Try.f14]
 ·simp
abbrev c_ref23_Of  : AObj := .cells [Iz 0, Iz 0, Iz 0, Iz 0, Iz 0, AV.lst true true (List.map (AV.int .i64) ([] : List Int)), AV.lst true true (List.map api_Pin.av ([] : List api_Pin))]
abbrev c_ref23_Of1 (v0 : Int) (v1 : Int) (v2 : ByteArray) (v3 : Int) (v4 : Int) (v5 : Int) (v6 : Int) (v7 : Int) (v8 : (List Int)) (v9 : (List api_Pin)) (v10 : ByteArray) (v11 : Int) (v12 : ByteArray) : AObj := .cells [Iz v0, Iz v1, AV.str v2, Iz v3, Iz v4, Iz v5, Iz v6, Iz v7, Lz v8, AV.lst false false (List.map api_Pin.av v9), AV.str v10, Iz v11, AV.str v12]
abbrev c_ref23_Of2  : AObj := .cells [Iz 0, Iz 0, Iz 0, Iz 0, Iz 0, Lz ([] : List Int), AV.lst false false (List.map api_Pin.av ([] : List api_Pin))]
theorem w_ref23_Of (k : Nat) (v0 : Int) (v1 : Int) (v2 : ByteArray) (v3 : Int) (v4 : Int) (v5 : Int) (v6 : Int) (v7 : Int) (v8 : (List Int)) (v9 : (List api_Pin)) (v10 : ByteArray) (v11 : Int) (v12 : ByteArray) (v13 : Int) (v14 : Int) (v15 : Int) (v16 : Int) (v17 : Int) (v18 : (List Int)) (v19 : (List api_Pin)) (v20 : Int) (hF : ref23_Of k v0 v1 v2 v3 v4 v5 v6 v7 v8 v9 v10 v11 v12 = some (v13, v14, v15, v16, v17, v18, v19, v20)) :
  FCall Try.prog 18 [AV.agg [AV.int .i64 v0, AV.int .i64 v1, AV.str v2, AV.int .i64 v3, AV.int .i64 v4, AV.int .i64 v5, AV.int .i64 v6, AV.int .i64 v7, AV.lst false false (List.map (AV.int .i64) v8), AV.lst false false (List.map api_Pin.av v9), AV.str v10, AV.int .i64 v11, AV.str v12]] [] (AV.tup [AV.agg [AV.int .i64 v13, AV.int .i64 v14, AV.int .i64 v15, AV.int .i64 v16, AV.int .i64 v17, AV.lst false false (List.map (AV.int .i64) v18), AV.lst false false (List.map api_Pin.av v19)], AV.int .i64 v20]) [] := by
 unfold ref23_Of at hF
 refine EN Try.func18 ?_
 intro c0 w0 Q h0 hQ
 refine WK [(0, AV.agg [Iz v0, Iz v1, AV.str v2, Iz v3, Iz v4, Iz v5, Iz v6, Iz v7, Lz v8, AV.lst false false (List.map api_Pin.av v9), AV.str v10, Iz v11, AV.str v12])] [] 0 (by simp) (by simp) ?_
 refine SQ [] [none, none, none] fun _ _ g r => ?_
 try simp
 and_intros <;> first | exact g _ (by kernel_rfl) | refine r _ _ _ ?_ | omega | (simp [maxLen] <;> omega)
 refine WK [(1, AV.ptr 0 0), (2, AV.ptr 1 0)] [(0, c_ref23_Of1 v0 v1 v2 v3 v4 v5 v6 v7 v8 v9 v10 v11 v12), (1, c_ref23_Of )] 2 (by simp) (by simp) ?_
 refine AW.seq fun K25 hK25 => ?_
 refine SQ [] [none, none, none] fun _ _ g r => ?_
 try simp
 and_intros
 try any_goals first | omega | (simp [maxLen] <;> omega)
 obtain ⟨v21, h1, hF⟩ := bnd1_elim hF
 refine AC (w_ref03_Check k _ _ _ _ _ _ _ _ _ _ _ _ _ _ h1) (.cons (.same (by simp)) .nil) ?_
 try simp
 and_intros <;> first | exact g _ (by kernel_rfl) | refine r _ _ _ ?_ | omega | (simp [maxLen] <;> omega)
 refine WK [(1, AV.ptr 0 0), (2, AV.ptr 1 0), (4, Iz v21)] [(0, c_ref23_Of1 v0 v1 v2 v3 v4 v5 v6 v7 v8 v9 v10 v11 v12), (1, c_ref23_Of )] 2 (by simp) (by simp) ?_
 refine SQ [] [none, none] fun _ _ g r => ?_
 try simp
 and_intros <;> first | exact g _ (by kernel_rfl) | refine r _ _ _ ?_ | omega | (simp [maxLen] <;> omega)
 refine WK [(1, AV.ptr 0 0), (2, AV.ptr 1 0), (4, Iz v21), (10, AV.bool (v21 != 0))] [(0, c_ref23_Of1 v0 v1 v2 v3 v4 v5 v6 v7 v8 v9 v10 v11 v12), (1, c_ref23_Of )] 2 (by simp) (by simp) ?_
 by_cases h2 : v21 ≠ 0
 ·replace hF := ite_t h2 hF
  have h2_ := eqb_f h2
  have h2__ := neb_t h2
  have F1 := And.intro h2 (And.intro h2_ h2__)
  refine CT (by simp [F1] <;> omega) ?_
  refine SQ [] [none, none, none, none] fun _ _ g r => ?_
  try simp [F1]
  and_intros <;> first | exact g _ (by kernel_rfl) | refine r _ _ _ ?_ | omega | (simp [maxLen, F1] <;> omega)
  refine RM h0 [(0, 1)] [(2, AV.ptr 0 0), (3, Iz v21)] [(0, c_ref23_Of )] 1 (by simp [F1]) (by simp [F1]) ?_
  refine AW.flg [] [(0, c_ref23_Of2 )] trivial ⟨⟨(c_ref23_Of ), by simp [F1], (.mk (.cons (.same _) (.cons (.same _) (.cons (.same _) (.cons (.same _) (.cons (.same _) (.cons (.lst (by simp)) (.cons (.lst (by simp)) .nil))))))))⟩, trivial⟩ (by simp) ?_
  simp only [Option.some.injEq, Prod.mk.injEq] at hF
  obtain ⟨e0, e1, e2, e3, e4, e5, e6, e7⟩ := hF
  subst e0 e1 e2 e3 e4 e5 e6 e7
  refine AW.ret (hQ _ _ _ ?_ (matchO_0 ?_)).1
  ·simp [Try.f18, F1]
  ·simp [F1]
 ·replace hF := ite_f h2 hF
  have h2q : v21 = 0 := Classical.not_not.1 h2
  have h2_ := eqb_t h2q
  have h2__ := neb_f h2q
  have F2 := And.intro h2_ (And.intro h2__ h2q)
  refine CF (by simp [F2] <;> omega) ?_
  refine AW.skip ?_
  refine hK25 _ _ _ ?_
  refine SQ [] [none, none, none, none, none, none, none, none, none, none, none, none, none] fun _ _ g r => ?_
  try simp [F2]
  and_intros <;> first | exact g _ (by kernel_rfl) | refine r _ _ _ ?_ | omega | (simp [maxLen, F2] <;> omega)
  refine WK [(1, AV.ptr 0 0), (2, AV.ptr 1 0), (5, AV.ptr 2 0)] [(0, c_ref23_Of1 v0 v1 v2 v3 v4 v5 v6 v7 v8 v9 v10 v11 v12), (1, c_ref23_Of ), (2, .cells [Iz v5, Iz (Int.tmod v6 16), Iz v7, Iz (IntKind.wrap .i64 (Int.tdiv v6 16))])] 3 (by simp [F2]) (by simp [F2]) ?_
  refine SQ [27, 31] [none, none, none, none, none, none, none, none, none, none, none] fun _ _ g r => ?_
  obtain ⟨h3, hF⟩ := chk_elim hF
  have h3_ := h3
  try simp at h3_
  obtain ⟨h4, hF⟩ := chk_elim hF
  have h4_ := h4
  try simp at h4_
  have F3 := And.intro F2 (And.intro h3 h4)
  try simp [F3]
  and_intros <;> first | exact g _ (by kernel_rfl) | refine r _ _ _ ?_ | omega | (simp [maxLen, F3] <;> omega)
  refine WK [(1, AV.ptr 0 0), (2, AV.ptr 1 0), (5, AV.ptr 2 0), (6, AV.ptr 5 0)] [(0, c_ref23_Of1 v0 v1 v2 v3 v4 v5 v6 v7 v8 v9 v10 v11 v12), (1, c_ref23_Of ), (2, .cells [Iz v5, Iz (Int.tmod v6 16), Iz v7, Iz (IntKind.wrap .i64 (Int.tdiv v6 16))]), (3, .grow (List.map (AV.int .i64) v8)), (4, .grow (flatA (List.map api_Pin.av v9))), (5, .cells [AV.slc 3 0 1 v8.length false, AV.slc 4 0 3 v9.length false])] 6 (by simp [F3]) (by simp [F3]) ?_
  refine AW.frz 3 (o := .grow (List.map (AV.int .i64) v8)) (by simp [F3]) rfl [] [(5, .cells [Lz v8, AV.slc 4 0 3 v9.length false])] trivial ⟨⟨by simp, AObj.cells [AV.slc 3 0 1 v8.length false, AV.slc 4 0 3 v9.length false], by simp [F3], (.mk (.cons (.l (by simp) (by simp) (by simp) (by simp)) (.cons (.same _) .nil)))⟩, trivial⟩ ?_
  refine AW.frz 4 (o := .grow (flatA (List.map api_Pin.av v9))) (by simp [F3]) rfl [] [(5, .cells [Lz v8, AV.lst false false (List.map api_Pin.av v9)])] trivial ⟨⟨by simp, AObj.cells [Lz v8, AV.slc 4 0 3 v9.length false], by simp [F3], (.mk (.cons (.same _) (.cons (.l (by simp) (by simp) (by simp) (by simp)) .nil)))⟩, trivial⟩ ?_
  refine WK [(1, AV.ptr 0 0), (2, AV.ptr 1 0), (5, AV.ptr 2 0), (6, AV.ptr 5 0)] [(0, c_ref23_Of1 v0 v1 v2 v3 v4 v5 v6 v7 v8 v9 v10 v11 v12), (1, c_ref23_Of ), (2, .cells [Iz v5, Iz (Int.tmod v6 16), Iz v7, Iz (IntKind.wrap .i64 (Int.tdiv v6 16))]), (5, .cells [Lz v8, AV.lst false false (List.map api_Pin.av v9)])] 6 (by simp [F3]) (by simp [F3]) ?_
  refine AW.seq fun K35 hK35 => ?_
  refine SQ [] [none, none, none, none, some (36, false), some (36, false), some (36, false), none, none, some (41, false), some (41, false), some (41, false), some (41, false), none] fun _ _ g r => ?_
  by_cases h5 : v4 ≠ 10
  ·replace hF := ite_t h5 hF
   have h5_ := eqb_f h5
   have h5__ := neb_t h5
   have F4 := And.intro F3 (And.intro h5 (And.intro h5_ h5__))
   try simp [F4]
   and_intros <;> first | exact g _ (by kernel_rfl) | refine r _ _ _ ?_ | omega | (simp [maxLen, F4] <;> omega)
   refine WK [(1, AV.ptr 0 0), (2, AV.ptr 1 0), (5, AV.ptr 2 0), (6, AV.ptr 5 0), (46, AV.bool true)] [(0, c_ref23_Of1 v0 v1 v2 v3 v4 v5 v6 v7 v8 v9 v10 v11 v12), (1, c_ref23_Of ), (2, .cells [Iz v5, Iz (Int.tmod v6 16), Iz v7, Iz (IntKind.wrap .i64 (Int.tdiv v6 16))]), (5, .cells [Lz v8, AV.lst false false (List.map api_Pin.av v9)])] 6 (by simp [F4]) (by simp [F4]) ?_
   refine CT (by simp [F4]) ?_
   refine SQ [] [none, none, none] fun _ _ g r => ?_
   try simp [F4]
   and_intros <;> first | exact g _ (by kernel_rfl) | refine r _ _ _ ?_ | omega | (simp [maxLen, F4] <;> omega)
   refine RM h0 [(0, 1)] [(2, AV.ptr 0 0), (3, Iz 42)] [(0, c_ref23_Of )] 1 (by simp [F4]) (by simp [F4]) ?_
   refine AW.flg [] [(0, c_ref23_Of2 )] trivial ⟨⟨(c_ref23_Of ), by simp [F4], (.mk (.cons (.same _) (.cons (.same _) (.cons (.same _) (.cons (.same _) (.cons (.same _) (.cons (.lst (by simp)) (.cons (.lst (by simp)) .nil))))))))⟩, trivial⟩ (by simp) ?_
   simp only [Option.some.injEq, Prod.mk.injEq] at hF
   obtain ⟨e0, e1, e2, e3, e4, e5, e6, e7⟩ := hF
   subst e0 e1 e2 e3 e4 e5 e6 e7
   refine AW.ret (hQ _ _ _ ?_ (matchO_0 ?_)).1
   ·simp [Try.f18, F4]
   ·simp [F4]
  ·replace hF := ite_f h5 hF
   have h5q : v4 = 10 := Classical.not_not.1 h5
   have h5_ := eqb_t h5q
   have h5__ := neb_f h5q
   by_cases h6 : (!strEq v10 (ByteArray.mk #[])) = true
   ·replace hF := ite_t h6 hF
    have h6_ := h6
    try simp at h6_
    have F5 := And.intro F3 (And.intro h5_ (And.intro h5__ (And.intro h5q (And.intro h6 h6_))))
    try simp [F5]
    and_intros <;> first | exact g _ (by kernel_rfl) | refine r _ _ _ ?_ | omega | (simp [maxLen, F5] <;> omega)
    refine WK [(1, AV.ptr 0 0), (2, AV.ptr 1 0), (5, AV.ptr 2 0), (6, AV.ptr 5 0), (46, AV.bool true)] [(0, c_ref23_Of1 v0 v1 v2 v3 v4 v5 v6 v7 v8 v9 v10 v11 v12), (1, c_ref23_Of ), (2, .cells [Iz v5, Iz (Int.tmod v6 16), Iz v7, Iz (IntKind.wrap .i64 (Int.tdiv v6 16))]), (5, .cells [Lz v8, AV.lst false false (List.map api_Pin.av v9)])] 6 (by simp [F5]) (by simp [F5]) ?_
    refine CT (by simp [F5]) ?_
    refine SQ [] [none, none, none] fun _ _ g r => ?_
    try simp [F5]
    and_intros <;> first | exact g _ (by kernel_rfl) | refine r _ _ _ ?_ | omega | (simp [maxLen, F5] <;> omega)
    refine RM h0 [(0, 1)] [(2, AV.ptr 0 0), (3, Iz 42)] [(0, c_ref23_Of )] 1 (by simp [F5]) (by simp [F5]) ?_
    refine AW.flg [] [(0, c_ref23_Of2 )] trivial ⟨⟨(c_ref23_Of ), by simp [F5], (.mk (.cons (.same _) (.cons (.same _) (.cons (.same _) (.cons (.same _) (.cons (.same _) (.cons (.lst (by simp)) (.cons (.lst (by simp)) .nil))))))))⟩, trivial⟩ (by simp) ?_
    simp only [Option.some.injEq, Prod.mk.injEq] at hF
    obtain ⟨e0, e1, e2, e3, e4, e5, e6, e7⟩ := hF
    subst e0 e1 e2 e3 e4 e5 e6 e7
    refine AW.ret (hQ _ _ _ ?_ (matchO_0 ?_)).1
    ·simp [Try.f18, F5]
    ·simp [F5]
   ·replace hF := ite_f h6 hF
    have h6_ := h6
    try simp at h6_
    have F6 := And.intro F3 (And.intro h5_ (And.intro h5__ (And.intro h5q (And.intro h6 h6_))))
    try simp [F6]
    and_intros
    try any_goals first | omega | (simp [maxLen, F6] <;> omega)
    obtain ⟨v22, h7, hF⟩ := bnd1_elim hF
    refine AC (w_ref23_Right k _ _ _ _ _ _ _ h7) (.cons (.same (by simp [F6])) (.cons (.same (by simp [F6])) .nil)) ?_
    try simp [F6]
    and_intros <;> first | exact g _ (by kernel_rfl) | refine r _ _ _ ?_ | omega | (simp [maxLen, F6] <;> omega)
    refine WK [(1, AV.ptr 0 0), (2, AV.ptr 1 0), (5, AV.ptr 2 0), (6, AV.ptr 5 0), (46, AV.bool (!v22))] [(0, c_ref23_Of1 v0 v1 v2 v3 v4 v5 v6 v7 v8 v9 v10 v11 v12), (1, c_ref23_Of ), (2, .cells [Iz v5, Iz (Int.tmod v6 16), Iz v7, Iz (IntKind.wrap .i64 (Int.tdiv v6 16))]), (5, .cells [Lz v8, AV.lst false false (List.map api_Pin.av v9)])] 6 (by simp [F6]) (by simp [F6]) ?_
    by_cases h8 : (!v22) = true
    ·replace hF := ite_t h8 hF
     have h8_ := h8
     try simp at h8_
     have F7 := And.intro F6 (And.intro h8 h8_)
     refine CT (by simp [F7] <;> omega) ?_
     refine SQ [] [none, none, none] fun _ _ g r => ?_
     try simp [F7]
     and_intros <;> first | exact g _ (by kernel_rfl) | refine r _ _ _ ?_ | omega | (simp [maxLen, F7] <;> omega)
     refine RM h0 [(0, 1)] [(2, AV.ptr 0 0), (3, Iz 42)] [(0, c_ref23_Of )] 1 (by simp [F7]) (by simp [F7]) ?_
     refine AW.flg [] [(0, c_ref23_Of2 )] trivial ⟨⟨(c_ref23_Of ), by simp [F7], (.mk (.cons (.same _) (.cons (.same _) (.cons (.same _) (.cons (.same _) (.cons (.same _) (.cons (.lst (by simp)) (.cons (.lst (by simp)) .nil))))))))⟩, trivial⟩ (by simp) ?_
     simp only [Option.some.injEq, Prod.mk.injEq] at hF
     obtain ⟨e0, e1, e2, e3, e4, e5, e6, e7⟩ := hF
     subst e0 e1 e2 e3 e4 e5 e6 e7
     refine AW.ret (hQ _ _ _ ?_ (matchO_0 ?_)).1
     ·simp [Try.f18, F7]
     ·simp [F7]
    ·replace hF := ite_f h8 hF
     have h8_ := h8
     try simp at h8_
     have F8 := And.intro F6 (And.intro h8 h8_)
     refine CF (by simp [F8] <;> omega) ?_
     refine AW.skip ?_
     refine hK35 _ _ _ ?_
     refine SQ [] [none, none, none, none, none, none, none] fun _ _ g r => ?_
     try simp [F8]
     and_intros <;> first | exact g _ (by kernel_rfl) | refine r _ _ _ ?_ | omega | (simp [maxLen, F8] <;> omega)
     refine RM h0 [(0, 1)] [(2, AV.ptr 0 0), (3, Iz 0)] [(0, .cells [Iz v0, Iz v5, Iz (Int.tmod v6 16), Iz v7, Iz (IntKind.wrap .i64 (Int.tdiv v6 16)), Lz v8, AV.lst false false (List.map api_Pin.av v9)])] 1 (by simp [F8]) (by simp [F8]) ?_
     simp only [Option.some.injEq, Prod.mk.injEq] at hF
     obtain ⟨e0, e1, e2, e3, e4, e5, e6, e7⟩ := hF
     subst e0 e1 e2 e3 e4 e5 e6 e7
     refine AW.ret (hQ _ _ _ ?_ (matchO_0 ?_)).1
     ·simp [Try.f18, F8]
     ·simp [F8]
theorem w_ref23_cmp (k : Nat) (v0 : Int) (v1 : Int) (v2 : Int) (hF : ref23_cmp k v0 v1 = some v2) :
  FCall Try.prog 42 [AV.int .i64 v0, AV.int .i64 v1] [] (AV.int .i64 v2) [] := by
 unfold ref23_cmp at hF
 refine EN Try.func42 ?_
 intro c0 w0 Q h0 hQ
 refine WK [(0, Iz v0), (1, Iz v1)] [] 0 (by simp) (by simp) ?_
 refine SQ [] [none] fun _ _ g r => ?_
 try simp
 and_intros <;> first | exact g _ (by kernel_rfl) | refine r _ _ _ ?_ | omega | (simp [maxLen] <;> omega)
 refine WK [(0, Iz v0), (1, Iz v1)] [] 0 (by simp) (by simp) ?_
 refine AW.seq fun K16 hK16 => ?_
 refine SQ [] [none, none, none] fun _ _ g r => ?_
 try simp
 and_intros <;> first | exact g _ (by kernel_rfl) | refine r _ _ _ ?_ | omega | (simp [maxLen] <;> omega)
 refine WK [(0, Iz v0), (1, Iz v1), (7, AV.bool (decide (v0 < v1)))] [] 0 (by simp) (by simp) ?_
 by_cases h1 : v0 < v1
 ·replace hF := ite_t h1 hF
  have h1_ := h1
  try simp at h1_
  refine CT (by simp [h1, h1_] <;> omega) ?_
  refine SQ [] [none] fun _ _ g r => ?_
  try simp [h1, h1_]
  and_intros <;> first | exact g _ (by kernel_rfl) | refine r _ _ _ ?_ | omega | (simp [h1, h1_, maxLen] <;> omega)
  refine WK [(4, Iz (-1))] [] 0 (by simp [h1, h1_]) (by simp [h1, h1_]) ?_
  simp only [Option.some.injEq] at hF
  subst hF
  refine AW.ret (hQ _ _ _ ?_ (matchO_0 ?_)).1
  ·simp [Try.f42, h1, h1_]
  ·simp [h1, h1_]
 ·replace hF := ite_f h1 hF
  have h1_ := h1
  try simp at h1_
  refine CF (by simp [h1, h1_] <;> omega) ?_
  refine AW.skip ?_
  refine hK16 _ _ _ ?_
  refine AW.seq fun K21 hK21 => ?_
  refine SQ [] [none, none, none] fun _ _ g r => ?_
  try simp [h1, h1_]
  and_intros <;> first | exact g _ (by kernel_rfl) | refine r _ _ _ ?_ | omega | (simp [h1, h1_, maxLen] <;> omega)
  refine WK [(10, AV.bool (decide (v1 < v0)))] [] 0 (by simp [h1, h1_]) (by simp [h1, h1_]) ?_
  by_cases h2 : v1 < v0
  ·replace hF := ite_t h2 hF
   have h2_ := h2
   try simp at h2_
   have F1 := And.intro h1 (And.intro h1_ (And.intro h2 h2_))
   refine CT (by simp [F1] <;> omega) ?_
   refine SQ [] [none] fun _ _ g r => ?_
   try simp [F1]
   and_intros <;> first | exact g _ (by kernel_rfl) | refine r _ _ _ ?_ | omega | (simp [maxLen, F1] <;> omega)
   refine WK [(4, Iz 1)] [] 0 (by simp [F1]) (by simp [F1]) ?_
   simp only [Option.some.injEq] at hF
   subst hF
   refine AW.ret (hQ _ _ _ ?_ (matchO_0 ?_)).1
   ·simp [Try.f42, F1]
   ·simp [F1]
  ·replace hF := ite_f h2 hF
   have h2_ := h2
   try simp at h2_
   have F2 := And.intro h1 (And.intro h1_ (And.intro h2 h2_))
   refine CF (by simp [F2] <;> omega) ?_
   refine AW.skip ?_
   refine hK21 _ _ _ ?_
   refine SQ [] [none] fun _ _ g r => ?_
   try simp [F2]
   and_intros <;> first | exact g _ (by kernel_rfl) | refine r _ _ _ ?_ | omega | (simp [maxLen, F2] <;> omega)
   refine WK [(4, Iz 0)] [] 0 (by simp [F2]) (by simp [F2]) ?_
   simp only [Option.some.injEq] at hF
   subst hF
   refine AW.ret (hQ _ _ _ ?_ (matchO_0 ?_)).1
   ·simp [Try.f42, F2]
   ·simp [F2]
theorem w_ref23_Order (k : Nat) (v0 : (List Int)) (v1 : (List api_Pin)) (v2 : (List Int)) (v3 : (List api_Pin)) (v4 : Int) (hF : ref23_Order k v0 v1 v2 v3 = some v4) :
  FCall Try.prog 19 [AV.agg [AV.lst false false (List.map (AV.int .i64) v0), AV.lst false false (List.map api_Pin.av v1)], AV.agg [AV.lst false false (List.map (AV.int .i64) v2), AV.lst false false (List.map api_Pin.av v3)]] [] (AV.int .i64 v4) [] := by
 unfold ref23_Order at hF
 refine EN Try.func19 ?_
 intro c0 w0 Q h0 hQ
 refine WK [(0, AV.agg [Lz v0, AV.lst false false (List.map api_Pin.av v1)]), (1, AV.agg [Lz v2, AV.lst false false (List.map api_Pin.av v3)])] [] 0 (by simp) (by simp) ?_
 refine SQ [] [none, none, none] fun _ _ g r => ?_
 try simp
 and_intros <;> first | exact g _ (by kernel_rfl) | refine r _ _ _ ?_ | omega | (simp [maxLen] <;> omega)
 refine WK [(2, AV.ptr 0 0), (3, AV.ptr 1 0)] [(0, .cells [Lz v0, AV.lst false false (List.map api_Pin.av v1)]), (1, .cells [Lz v2, AV.lst false false (List.map api_Pin.av v3)])] 2 (by simp) (by simp) ?_
 refine AW.midF (α := Unit) (fun _ => ref23_Order.J1 k v0 v1 v2 v3 = some v4) (fun _ => [(2, AV.ptr 0 0), (3, AV.ptr 1 0)]) (fun _ => [(0, .cells [Lz v0, AV.lst false false (List.map api_Pin.av v1)]), (1, .cells [Lz v2, AV.lst false false (List.map api_Pin.av v3)])]) 2 (fun K952 hK952 => ?_) ?_
 ·refine SQ [] [none] fun _ _ g r => ?_
  try simp
  and_intros <;> first | exact g _ (by kernel_rfl) | refine r _ _ _ ?_ | omega | (simp [maxLen] <;> omega)
  refine WK [(2, AV.ptr 0 0), (3, AV.ptr 1 0), (5, Iz 0)] [(0, .cells [Lz v0, AV.lst false false (List.map api_Pin.av v1)]), (1, .cells [Lz v2, AV.lst false false (List.map api_Pin.av v3)])] 2 (by simp) (by simp) ?_
  refine AW.block ?_
  refine AW.loopF (α := Int) (fun n v12 => ref23_Order.L4 k v0 v1 v2 v3 n v12 = some v4) (fun v12 => [(2, AV.ptr 0 0), (3, AV.ptr 1 0), (5, Iz v12)]) (fun v12 => [(0, .cells [Lz v0, AV.lst false false (List.map api_Pin.av v1)]), (1, .cells [Lz v2, AV.lst false false (List.map api_Pin.av v3)])]) 2 k (0) hF (by simp) (by simp) (by simp) ?_
  rintro (_|n4) v12 hF K987 hK987
  ·try dsimp only at hF
   rw [ref23_Order.L4] at hF; cases hF
  try dsimp only at hF
  rw [ref23_Order.L4] at hF
  refine AW.seq fun K989 hK989 => ?_
  refine SQ [] [none, none, none, none, none, none, some (18, true), some (18, true), some (18, true), some (18, true), some (18, true), none] fun _ _ g r => ?_
  by_cases h18 : v12 < (v0.length : Int)
  ·replace hF := ite_t h18 hF
   have h18_ := h18
   try simp at h18_
   try simp [h18, h18_]
   and_intros <;> first | exact g _ (by kernel_rfl) | refine r _ _ _ ?_ | omega | (simp [h18, h18_, maxLen] <;> omega)
   refine WK [(2, AV.ptr 0 0), (3, AV.ptr 1 0), (5, Iz v12), (24, AV.bool (decide (v12 < (v2.length : Int))))] [(0, .cells [Lz v0, AV.lst false false (List.map api_Pin.av v1)]), (1, .cells [Lz v2, AV.lst false false (List.map api_Pin.av v3)])] 2 (by simp [h18, h18_]) (by simp [h18, h18_]) ?_
   by_cases h19 : v12 < (v2.length : Int)
   ·replace hF := ite_t h19 hF
    have h19_ := h19
    try simp at h19_
    have F1 := And.intro h18 (And.intro h18_ (And.intro h19 h19_))
    refine CT (by simp [F1] <;> omega) ?_
    refine AW.skip ?_
    refine hK989 _ _ _ ?_
    refine AW.seq fun K994 hK994 => ?_
    refine AW.block ?_
    refine SQ [] [none, none, none, none, none, none, none, none, none, none, none, none] fun _ _ g r => ?_
    obtain ⟨v13, h20, h21, h22, hF⟩ := idx_elim hF
    have h22_ := get_of h22
    try simp at h22_
    have h21_ := h21
    try simp at h21_
    obtain ⟨v14, h23, h24, h25, hF⟩ := idx_elim hF
    have h25_ := get_of h25
    try simp at h25_
    have h24_ := h24
    try simp at h24_
    have F2 := And.intro F1 (And.intro h20 (And.intro h21 (And.intro h22 (And.intro h22_ (And.intro h21_ (And.intro h23 (And.intro h24 (And.intro h25 (And.intro h25_ h24_)))))))))
    try simp [F2]
    and_intros
    try any_goals first | omega | (simp [maxLen, F2] <;> omega)
    obtain ⟨v15, h26, hF⟩ := bnd1_elim hF
    refine AC (w_ref23_cmp k _ _ _ h26) (.cons (.same (by simp [F2])) (.cons (.same (by simp [F2])) .nil)) ?_
    try simp [F2]
    and_intros <;> first | exact g _ (by kernel_rfl) | refine r _ _ _ ?_ | omega | (simp [maxLen, F2] <;> omega)
    refine WK [(2, AV.ptr 0 0), (3, AV.ptr 1 0), (5, Iz v12), (6, Iz v15)] [(0, .cells [Lz v0, AV.lst false false (List.map api_Pin.av v1)]), (1, .cells [Lz v2, AV.lst false false (List.map api_Pin.av v3)])] 2 (by simp [F2]) (by simp [F2]) ?_
    refine SQ [] [none, none] fun _ _ g r => ?_
    try simp [F2]
    and_intros <;> first | exact g _ (by kernel_rfl) | refine r _ _ _ ?_ | omega | (simp [maxLen, F2] <;> omega)
    refine WK [(2, AV.ptr 0 0), (3, AV.ptr 1 0), (5, Iz v12), (6, Iz v15), (39, AV.bool (v15 != 0))] [(0, .cells [Lz v0, AV.lst false false (List.map api_Pin.av v1)]), (1, .cells [Lz v2, AV.lst false false (List.map api_Pin.av v3)])] 2 (by simp [F2]) (by simp [F2]) ?_
    by_cases h27 : v15 ≠ 0
    ·replace hF := ite_t h27 hF
     have h27_ := eqb_f h27
     have h27__ := neb_t h27
     have F3 := And.intro F2 (And.intro h27 (And.intro h27_ h27__))
     refine CT (by simp [F3] <;> omega) ?_
     refine SQ [] [none, none] fun _ _ g r => ?_
     try simp [F3]
     and_intros <;> first | exact g _ (by kernel_rfl) | refine r _ _ _ ?_ | omega | (simp [maxLen, F3] <;> omega)
     refine WK [(4, Iz v15)] [] 2 (by simp [F3]) (by simp [F3]) ?_
     simp only [Option.some.injEq] at hF
     subst hF
     refine AW.ret (hQ _ _ _ ?_ (matchO_0 ?_)).1
     ·simp [Try.f19, F3]
     ·simp [F3]
    ·replace hF := ite_f h27 hF
     have h27q : v15 = 0 := Classical.not_not.1 h27
     have h27_ := eqb_t h27q
     have h27__ := neb_f h27q
     have F4 := And.intro F2 (And.intro h27_ (And.intro h27__ h27q))
     refine CF (by simp [F4] <;> omega) ?_
     refine AW.skip ?_
     refine hK994 _ _ _ ?_
     refine RG [] [none, none, none] fun _ _ g r => ?_
     try simp [F4]
     and_intros <;> first | exact g _ (by kernel_rfl) | refine r _ _ _ ?_ | omega | (simp [maxLen, F4] <;> omega)
     refine hK987 _ _ _ ?_
     exact NX (k' := n4) (IntKind.wrap .i64 (v12 + 1)) hF (by simp [F4]) (by simp [F4])
   ·replace hF := ite_f h19 hF
    have h19_ := h19
    try simp at h19_
    have F5 := And.intro h18 (And.intro h18_ (And.intro h19 h19_))
    refine CF (by simp [F5] <;> omega) ?_
    refine AW.exit ?_
    try simp
    refine hK952 _ _ _ ?_
    exact JN (()) hF (by simp [F5]) (by simp [F5])
  ·replace hF := ite_f h18 hF
   have h18_ := h18
   try simp at h18_
   try simp [h18, h18_]
   and_intros <;> first | exact g _ (by kernel_rfl) | refine r _ _ _ ?_ | omega | (simp [h18, h18_, maxLen] <;> omega)
   refine WK [(2, AV.ptr 0 0), (3, AV.ptr 1 0), (5, Iz v12), (24, AV.bool false)] [(0, .cells [Lz v0, AV.lst false false (List.map api_Pin.av v1)]), (1, .cells [Lz v2, AV.lst false false (List.map api_Pin.av v3)])] 2 (by simp [h18, h18_]) (by simp [h18, h18_]) ?_
   refine CF (by simp [h18, h18_]) ?_
   refine AW.exit ?_
   try simp
   refine hK952 _ _ _ ?_
   exact JN (()) hF (by simp [h18, h18_]) (by simp [h18, h18_])
 ·rintro ⟨⟩ hF
  try dsimp only at hF
  unfold ref23_Order.J1 at hF
  refine AW.seq fun K550 hK550 => ?_
  refine SQ [] [none, none, none, none, none, none, none, none] fun _ _ g r => ?_
  try simp
  and_intros
  try any_goals first | omega | (simp [maxLen] <;> omega)
  obtain ⟨v5, h1, hF⟩ := bnd1_elim hF
  refine AC (w_ref23_cmp k _ _ _ h1) (.cons (.same (by simp)) (.cons (.same (by simp)) .nil)) ?_
  try simp
  and_intros <;> first | exact g _ (by kernel_rfl) | refine r _ _ _ ?_ | omega | (simp [maxLen] <;> omega)
  refine WK [(2, AV.ptr 0 0), (3, AV.ptr 1 0), (7, Iz v5)] [(0, .cells [Lz v0, AV.lst false false (List.map api_Pin.av v1)]), (1, .cells [Lz v2, AV.lst false false (List.map api_Pin.av v3)])] 2 (by simp) (by simp) ?_
  refine SQ [] [none, none] fun _ _ g r => ?_
  try simp
  and_intros <;> first | exact g _ (by kernel_rfl) | refine r _ _ _ ?_ | omega | (simp [maxLen] <;> omega)
  refine WK [(2, AV.ptr 0 0), (3, AV.ptr 1 0), (7, Iz v5), (49, AV.bool (v5 != 0))] [(0, .cells [Lz v0, AV.lst false false (List.map api_Pin.av v1)]), (1, .cells [Lz v2, AV.lst false false (List.map api_Pin.av v3)])] 2 (by simp) (by simp) ?_
  by_cases h2 : v5 ≠ 0
  ·replace hF := ite_t h2 hF
   have h2_ := eqb_f h2
   have h2__ := neb_t h2
   have F6 := And.intro h2 (And.intro h2_ h2__)
   refine CT (by simp [F6] <;> omega) ?_
   refine SQ [] [none, none] fun _ _ g r => ?_
   try simp [F6]
   and_intros <;> first | exact g _ (by kernel_rfl) | refine r _ _ _ ?_ | omega | (simp [maxLen, F6] <;> omega)
   refine WK [(4, Iz v5)] [] 2 (by simp [F6]) (by simp [F6]) ?_
   simp only [Option.some.injEq] at hF
   subst hF
   refine AW.ret (hQ _ _ _ ?_ (matchO_0 ?_)).1
   ·simp [Try.f19, F6]
   ·simp [F6]
  ·replace hF := ite_f h2 hF
   have h2q : v5 = 0 := Classical.not_not.1 h2
   have h2_ := eqb_t h2q
   have h2__ := neb_f h2q
   have F7 := And.intro h2_ (And.intro h2__ h2q)
   refine CF (by simp [F7] <;> omega) ?_
   refine AW.skip ?_
   refine hK550 _ _ _ ?_
   refine AW.midF (α := Unit) (fun _ => ref23_Order.J2 k v1 v3 = some v4) (fun _ => [(2, AV.ptr 0 0), (3, AV.ptr 1 0)]) (fun _ => [(0, .cells [Lz v0, AV.lst false false (List.map api_Pin.av v1)]), (1, .cells [Lz v2, AV.lst false false (List.map api_Pin.av v3)])]) 2 (fun K753 hK753 => ?_) ?_
   ·refine SQ [] [none] fun _ _ g r => ?_
    try simp [F7]
    and_intros <;> first | exact g _ (by kernel_rfl) | refine r _ _ _ ?_ | omega | (simp [maxLen, F7] <;> omega)
    refine WK [(2, AV.ptr 0 0), (3, AV.ptr 1 0), (8, Iz 0)] [(0, .cells [Lz v0, AV.lst false false (List.map api_Pin.av v1)]), (1, .cells [Lz v2, AV.lst false false (List.map api_Pin.av v3)])] 2 (by simp [F7]) (by simp [F7]) ?_
    refine AW.block ?_
    refine AW.loopF (α := Int) (fun n v7 => ref23_Order.L3 k v1 v3 n v7 = some v4) (fun v7 => [(2, AV.ptr 0 0), (3, AV.ptr 1 0), (8, Iz v7)]) (fun v7 => [(0, .cells [Lz v0, AV.lst false false (List.map api_Pin.av v1)]), (1, .cells [Lz v2, AV.lst false false (List.map api_Pin.av v3)])]) 2 k (0) hF (by simp [F7]) (by simp [F7]) (by simp) ?_
    rintro (_|n3) v7 hF K902 hK902
    ·try dsimp only at hF
     rw [ref23_Order.L3] at hF; cases hF
    try dsimp only at hF
    rw [ref23_Order.L3] at hF
    refine AW.seq fun K904 hK904 => ?_
    refine SQ [] [none, none, none, none, none, none, some (56, true), some (56, true), some (56, true), some (56, true), some (56, true), none] fun _ _ g r => ?_
    by_cases h4 : v7 < (v1.length : Int)
    ·replace hF := ite_t h4 hF
     have h4_ := h4
     try simp at h4_
     have F8 := And.intro F7 (And.intro h4 h4_)
     try simp [F8]
     and_intros <;> first | exact g _ (by kernel_rfl) | refine r _ _ _ ?_ | omega | (simp [maxLen, F8] <;> omega)
     refine WK [(2, AV.ptr 0 0), (3, AV.ptr 1 0), (8, Iz v7), (62, AV.bool (decide (v7 < (v3.length : Int))))] [(0, .cells [Lz v0, AV.lst false false (List.map api_Pin.av v1)]), (1, .cells [Lz v2, AV.lst false false (List.map api_Pin.av v3)])] 2 (by simp [F8]) (by simp [F8]) ?_
     by_cases h5 : v7 < (v3.length : Int)
     ·replace hF := ite_t h5 hF
      have h5_ := h5
      try simp at h5_
      have F9 := And.intro F8 (And.intro h5 h5_)
      refine CT (by simp [F9] <;> omega) ?_
      refine AW.skip ?_
      refine hK904 _ _ _ ?_
      refine AW.seq fun K928 hK928 => ?_
      refine AW.block ?_
      refine SQ [] [none, none, none, none, none, none, none, none, none, none, none, none, none, none] fun _ _ g r => ?_
      obtain ⟨v8, h6, h7, h8, hF⟩ := idx_elim hF
      have h8_ := get_of h8
      try simp at h8_
      have h7_ := h7
      try simp at h7_
      obtain ⟨v9, h9, h10, h11, hF⟩ := idx_elim hF
      have h11_ := get_of h11
      try simp at h11_
      have h10_ := h10
      try simp at h10_
      have F10 := And.intro F9 (And.intro h6 (And.intro h7 (And.intro h8 (And.intro h8_ (And.intro h7_ (And.intro h9 (And.intro h10 (And.intro h11 (And.intro h11_ h10_)))))))))
      try simp [F10]
      and_intros <;> first | exact g _ (by kernel_rfl) | refine r _ _ _ ?_ | omega | (simp [maxLen, F10] <;> omega)
      refine WK [(2, AV.ptr 0 0), (3, AV.ptr 1 0), (8, Iz v7), (9, AV.ptr 2 0), (10, AV.ptr 3 0)] [(0, .cells [Lz v0, AV.lst false false (List.map api_Pin.av v1)]), (1, .cells [Lz v2, AV.lst false false (List.map api_Pin.av v3)]), (2, .cells [Iz v8.Author, Iz v8.Height, AV.str v8.Digest]), (3, .cells [Iz v9.Author, Iz v9.Height, AV.str v9.Digest])] 4 (by simp [F10]) (by simp [F10]) ?_
      refine AW.seq fun K933 hK933 => ?_
      refine SQ [] [none, none, none, none, none, none] fun _ _ g r => ?_
      try simp [F10]
      and_intros
      try any_goals first | omega | (simp [maxLen, F10] <;> omega)
      obtain ⟨v10, h12, hF⟩ := bnd1_elim hF
      refine AC (w_ref23_cmp k _ _ _ h12) (.cons (.same (by simp [F10])) (.cons (.same (by simp [F10])) .nil)) ?_
      try simp [F10]
      and_intros <;> first | exact g _ (by kernel_rfl) | refine r _ _ _ ?_ | omega | (simp [maxLen, F10] <;> omega)
      refine WK [(2, AV.ptr 0 0), (3, AV.ptr 1 0), (8, Iz v7), (9, AV.ptr 2 0), (10, AV.ptr 3 0), (11, Iz v10)] [(0, .cells [Lz v0, AV.lst false false (List.map api_Pin.av v1)]), (1, .cells [Lz v2, AV.lst false false (List.map api_Pin.av v3)]), (2, .cells [Iz v8.Author, Iz v8.Height, AV.str v8.Digest]), (3, .cells [Iz v9.Author, Iz v9.Height, AV.str v9.Digest])] 4 (by simp [F10]) (by simp [F10]) ?_
      refine SQ [] [none, none] fun _ _ g r => ?_
      try simp [F10]
      and_intros <;> first | exact g _ (by kernel_rfl) | refine r _ _ _ ?_ | omega | (simp [maxLen, F10] <;> omega)
      refine WK [(2, AV.ptr 0 0), (3, AV.ptr 1 0), (8, Iz v7), (9, AV.ptr 2 0), (10, AV.ptr 3 0), (11, Iz v10), (81, AV.bool (v10 != 0))] [(0, .cells [Lz v0, AV.lst false false (List.map api_Pin.av v1)]), (1, .cells [Lz v2, AV.lst false false (List.map api_Pin.av v3)]), (2, .cells [Iz v8.Author, Iz v8.Height, AV.str v8.Digest]), (3, .cells [Iz v9.Author, Iz v9.Height, AV.str v9.Digest])] 4 (by simp [F10]) (by simp [F10]) ?_
      by_cases h13 : v10 ≠ 0
      ·replace hF := ite_t h13 hF
       have h13_ := eqb_f h13
       have h13__ := neb_t h13
       have F11 := And.intro F10 (And.intro h13 (And.intro h13_ h13__))
       refine CT (by simp [F11] <;> omega) ?_
       refine SQ [] [none, none] fun _ _ g r => ?_
       try simp [F11]
       and_intros <;> first | exact g _ (by kernel_rfl) | refine r _ _ _ ?_ | omega | (simp [maxLen, F11] <;> omega)
       refine WK [(4, Iz v10)] [] 4 (by simp [F11]) (by simp [F11]) ?_
       simp only [Option.some.injEq] at hF
       subst hF
       refine AW.ret (hQ _ _ _ ?_ (matchO_0 ?_)).1
       ·simp [Try.f19, F11]
       ·simp [F11]
      ·replace hF := ite_f h13 hF
       have h13q : v10 = 0 := Classical.not_not.1 h13
       have h13_ := eqb_t h13q
       have h13__ := neb_f h13q
       have F12 := And.intro F10 (And.intro h13_ (And.intro h13__ h13q))
       refine CF (by simp [F12] <;> omega) ?_
       refine AW.skip ?_
       refine hK933 _ _ _ ?_
       refine AW.seq fun K940 hK940 => ?_
       refine SQ [] [none, none, none, none, none, none] fun _ _ g r => ?_
       try simp [F12]
       and_intros
       try any_goals first | omega | (simp [maxLen, F12] <;> omega)
       obtain ⟨v11, h14, hF⟩ := bnd1_elim hF
       refine AC (w_ref23_cmp k _ _ _ h14) (.cons (.same (by simp [F12])) (.cons (.same (by simp [F12])) .nil)) ?_
       try simp [F12]
       and_intros <;> first | exact g _ (by kernel_rfl) | refine r _ _ _ ?_ | omega | (simp [maxLen, F12] <;> omega)
       refine WK [(2, AV.ptr 0 0), (3, AV.ptr 1 0), (8, Iz v7), (9, AV.ptr 2 0), (10, AV.ptr 3 0), (12, Iz v11)] [(0, .cells [Lz v0, AV.lst false false (List.map api_Pin.av v1)]), (1, .cells [Lz v2, AV.lst false false (List.map api_Pin.av v3)]), (2, .cells [Iz v8.Author, Iz v8.Height, AV.str v8.Digest]), (3, .cells [Iz v9.Author, Iz v9.Height, AV.str v9.Digest])] 4 (by simp [F12]) (by simp [F12]) ?_
       refine SQ [] [none, none] fun _ _ g r => ?_
       try simp [F12]
       and_intros <;> first | exact g _ (by kernel_rfl) | refine r _ _ _ ?_ | omega | (simp [maxLen, F12] <;> omega)
       refine WK [(2, AV.ptr 0 0), (3, AV.ptr 1 0), (8, Iz v7), (9, AV.ptr 2 0), (10, AV.ptr 3 0), (12, Iz v11), (89, AV.bool (v11 != 0))] [(0, .cells [Lz v0, AV.lst false false (List.map api_Pin.av v1)]), (1, .cells [Lz v2, AV.lst false false (List.map api_Pin.av v3)]), (2, .cells [Iz v8.Author, Iz v8.Height, AV.str v8.Digest]), (3, .cells [Iz v9.Author, Iz v9.Height, AV.str v9.Digest])] 4 (by simp [F12]) (by simp [F12]) ?_
       by_cases h15 : v11 ≠ 0
       ·replace hF := ite_t h15 hF
        have h15_ := eqb_f h15
        have h15__ := neb_t h15
        have F13 := And.intro F12 (And.intro h15 (And.intro h15_ h15__))
        refine CT (by simp [F13] <;> omega) ?_
        refine SQ [] [none, none] fun _ _ g r => ?_
        try simp [F13]
        and_intros <;> first | exact g _ (by kernel_rfl) | refine r _ _ _ ?_ | omega | (simp [maxLen, F13] <;> omega)
        refine WK [(4, Iz v11)] [] 4 (by simp [F13]) (by simp [F13]) ?_
        simp only [Option.some.injEq] at hF
        subst hF
        refine AW.ret (hQ _ _ _ ?_ (matchO_0 ?_)).1
        ·simp [Try.f19, F13]
        ·simp [F13]
       ·replace hF := ite_f h15 hF
        have h15q : v11 = 0 := Classical.not_not.1 h15
        have h15_ := eqb_t h15q
        have h15__ := neb_f h15q
        have F14 := And.intro F12 (And.intro h15_ (And.intro h15__ h15q))
        refine CF (by simp [F14] <;> omega) ?_
        refine AW.skip ?_
        refine hK940 _ _ _ ?_
        refine SQ [] [none, none, none, none, none] fun _ _ g r => ?_
        try simp [F14]
        and_intros <;> first | exact g _ (by kernel_rfl) | refine r _ _ _ ?_ | omega | (simp [maxLen, F14] <;> omega)
        refine WK [(2, AV.ptr 0 0), (3, AV.ptr 1 0), (8, Iz v7), (9, AV.ptr 2 0), (10, AV.ptr 3 0), (95, AV.bool (!strEq v8.Digest v9.Digest))] [(0, .cells [Lz v0, AV.lst false false (List.map api_Pin.av v1)]), (1, .cells [Lz v2, AV.lst false false (List.map api_Pin.av v3)]), (2, .cells [Iz v8.Author, Iz v8.Height, AV.str v8.Digest]), (3, .cells [Iz v9.Author, Iz v9.Height, AV.str v9.Digest])] 4 (by simp [F14]) (by simp [F14]) ?_
        by_cases h16 : (!strEq v8.Digest v9.Digest) = true
        ·replace hF := ite_t h16 hF
         have h16_ := h16
         try simp at h16_
         have F15 := And.intro F14 (And.intro h16 h16_)
         refine CT (by simp [F15] <;> omega) ?_
         refine AW.seq fun K947 hK947 => ?_
         refine SQ [] [none, none, none, none, none] fun _ _ g r => ?_
         try simp [F15]
         and_intros <;> first | exact g _ (by kernel_rfl) | refine r _ _ _ ?_ | omega | (simp [maxLen, F15] <;> omega)
         refine WK [(100, AV.bool (strLt v8.Digest v9.Digest))] [] 4 (by simp [F15]) (by simp [F15]) ?_
         by_cases h17 : (strLt v8.Digest v9.Digest) = true
         ·replace hF := ite_t h17 hF
          have h17_ := h17
          try simp at h17_
          have F16 := And.intro F15 (And.intro h17 h17_)
          refine CT (by simp [F16] <;> omega) ?_
          refine SQ [] [none] fun _ _ g r => ?_
          try simp [F16]
          and_intros <;> first | exact g _ (by kernel_rfl) | refine r _ _ _ ?_ | omega | (simp [maxLen, F16] <;> omega)
          refine WK [(4, Iz (-1))] [] 4 (by simp [F16]) (by simp [F16]) ?_
          simp only [Option.some.injEq] at hF
          subst hF
          refine AW.ret (hQ _ _ _ ?_ (matchO_0 ?_)).1
          ·simp [Try.f19, F16]
          ·simp [F16]
         ·replace hF := ite_f h17 hF
          have h17_ := h17
          try simp at h17_
          have F17 := And.intro F15 (And.intro h17 h17_)
          refine CF (by simp [F17] <;> omega) ?_
          refine AW.skip ?_
          refine hK947 _ _ _ ?_
          refine SQ [] [none] fun _ _ g r => ?_
          try simp [F17]
          and_intros <;> first | exact g _ (by kernel_rfl) | refine r _ _ _ ?_ | omega | (simp [maxLen, F17] <;> omega)
          refine WK [(4, Iz 1)] [] 4 (by simp [F17]) (by simp [F17]) ?_
          simp only [Option.some.injEq] at hF
          subst hF
          refine AW.ret (hQ _ _ _ ?_ (matchO_0 ?_)).1
          ·simp [Try.f19, F17]
          ·simp [F17]
        ·replace hF := ite_f h16 hF
         have h16_ := h16
         try simp at h16_
         have F18 := And.intro F14 (And.intro h16 h16_)
         refine CF (by simp [F18] <;> omega) ?_
         refine AW.skip ?_
         refine hK928 _ _ _ ?_
         refine RG [] [none, none, none] fun _ _ g r => ?_
         try simp [F18]
         and_intros <;> first | exact g _ (by kernel_rfl) | refine r _ _ _ ?_ | omega | (simp [maxLen, F18] <;> omega)
         refine hK902 _ _ _ ?_
         refine RN h0 [(0, 0), (1, 1)] [(2, AV.ptr 0 0), (3, AV.ptr 1 0), (8, Iz (IntKind.wrap .i64 (v7 + 1)))] [(0, .cells [Lz v0, AV.lst false false (List.map api_Pin.av v1)]), (1, .cells [Lz v2, AV.lst false false (List.map api_Pin.av v3)])] 2 (by simp [F18]) (by simp [F18]) ?_
         exact NX (k' := n3) (IntKind.wrap .i64 (v7 + 1)) hF (by simp [F18]) (by simp [F18])
     ·replace hF := ite_f h5 hF
      have h5_ := h5
      try simp at h5_
      have F19 := And.intro F8 (And.intro h5 h5_)
      refine CF (by simp [F19] <;> omega) ?_
      refine AW.exit ?_
      try simp
      refine hK753 _ _ _ ?_
      exact JN (()) hF (by simp [F19]) (by simp [F19])
    ·replace hF := ite_f h4 hF
     have h4_ := h4
     try simp at h4_
     have F20 := And.intro F7 (And.intro h4 h4_)
     try simp [F20]
     and_intros <;> first | exact g _ (by kernel_rfl) | refine r _ _ _ ?_ | omega | (simp [maxLen, F20] <;> omega)
     refine WK [(2, AV.ptr 0 0), (3, AV.ptr 1 0), (8, Iz v7), (62, AV.bool false)] [(0, .cells [Lz v0, AV.lst false false (List.map api_Pin.av v1)]), (1, .cells [Lz v2, AV.lst false false (List.map api_Pin.av v3)])] 2 (by simp [F20]) (by simp [F20]) ?_
     refine CF (by simp [F20]) ?_
     refine AW.exit ?_
     try simp
     refine hK753 _ _ _ ?_
     exact JN (()) hF (by simp [F20]) (by simp [F20])
   ·rintro ⟨⟩ hF
    try dsimp only at hF
    unfold ref23_Order.J2 at hF
    refine SQ [] [none, none, none, none, none, none, none, none] fun _ _ g r => ?_
    try simp [F7]
    and_intros
    try any_goals first | omega | (simp [maxLen, F7] <;> omega)
    obtain ⟨v6, h3, hF⟩ := bnd1_elim hF
    refine AC (w_ref23_cmp k _ _ _ h3) (.cons (.same (by simp [F7])) (.cons (.same (by simp [F7])) .nil)) ?_
    try simp [F7]
    and_intros <;> first | exact g _ (by kernel_rfl) | refine r _ _ _ ?_ | omega | (simp [maxLen, F7] <;> omega)
    refine WK [(4, Iz v6)] [] 2 (by simp [F7]) (by simp [F7]) ?_
    simp only [Option.some.injEq] at hF
    subst hF
    refine AW.ret (hQ _ _ _ ?_ (matchO_0 ?_)).1
    ·simp [Try.f19, F7]
    ·simp [F7]
abbrev c_law23_CasesVotes (v1 : Int) (v2 : Int) (v3 : ByteArray) (v4 : Int) (v5 : Int) (v6 : Int) (v7 : Int) (v8 : Int) (v9 : (List Int)) (v10 : (List api_Pin)) (v11 : ByteArray) (v12 : Int) (v13 : ByteArray) : AObj := .cells [Iz v1, Iz v2, AV.str v3, Iz v4, Iz v5, Iz v6, Iz v7, Iz v8, Lz v9, AV.lst false false (List.map api_Pin.av v10), AV.str v11, Iz v12, AV.str v13]
theorem w_law23_CasesVotes (k : Nat) (v0 : (List Int)) (v1 : Int) (v2 : Int) (v3 : ByteArray) (v4 : Int) (v5 : Int) (v6 : Int) (v7 : Int) (v8 : Int) (v9 : (List Int)) (v10 : (List api_Pin)) (v11 : ByteArray) (v12 : Int) (v13 : ByteArray) (v14 : Bool) (hF : law23_CasesVotes k v0 v1 v2 v3 v4 v5 v6 v7 v8 v9 v10 v11 v12 v13 = some v14) :
  FCall Try.prog 3 [AV.lst false false (List.map (AV.int .i64) v0), AV.agg [AV.int .i64 v1, AV.int .i64 v2, AV.str v3, AV.int .i64 v4, AV.int .i64 v5, AV.int .i64 v6, AV.int .i64 v7, AV.int .i64 v8, AV.lst false false (List.map (AV.int .i64) v9), AV.lst false false (List.map api_Pin.av v10), AV.str v11, AV.int .i64 v12, AV.str v13]] [] (AV.bool v14) [] := by
 unfold law23_CasesVotes at hF
 refine EN Try.func3 ?_
 intro c0 w0 Q h0 hQ
 refine WK [(0, Lz v0), (1, AV.agg [Iz v1, Iz v2, AV.str v3, Iz v4, Iz v5, Iz v6, Iz v7, Iz v8, Lz v9, AV.lst false false (List.map api_Pin.av v10), AV.str v11, Iz v12, AV.str v13])] [] 0 (by simp) (by simp) ?_
 refine SQ [] [none, none] fun _ _ g r => ?_
 try simp
 and_intros <;> first | exact g _ (by kernel_rfl) | refine r _ _ _ ?_ | omega | (simp [maxLen] <;> omega)
 refine WK [(0, Lz v0), (3, AV.ptr 0 0)] [(0, c_law23_CasesVotes v1 v2 v3 v4 v5 v6 v7 v8 v9 v10 v11 v12 v13)] 1 (by simp) (by simp) ?_
 refine AW.seq fun K321 hK321 => ?_
 refine SQ [] [none, none, none, none, some (16, false), some (16, false), some (16, false), some (16, false), some (16, false), some (16, false), some (16, false), some (16, false), some (16, false), some (16, false), some (16, false), some (16, false), none] fun _ _ g r => ?_
 try simp
 and_intros
 try any_goals first | omega | (simp [maxLen] <;> omega)
 obtain ⟨v15, h1, hF⟩ := bnd1_elim hF
 refine AC (w_mill_Light k _ _ h1) (.cons (.same (by simp)) .nil) ?_
 by_cases h2 : (!v15) = true
 ·replace hF := ite_t h2 hF
  have h2_ := h2
  try simp at h2_
  try simp [h2, h2_]
  and_intros <;> first | exact g _ (by kernel_rfl) | refine r _ _ _ ?_ | omega | (simp [h2, h2_, maxLen] <;> omega)
  refine WK [(0, Lz v0), (3, AV.ptr 0 0), (29, AV.bool true)] [(0, c_law23_CasesVotes v1 v2 v3 v4 v5 v6 v7 v8 v9 v10 v11 v12 v13)] 1 (by simp [h2, h2_]) (by simp [h2, h2_]) ?_
  refine CT (by simp [h2, h2_]) ?_
  refine SQ [] [none, none] fun _ _ g r => ?_
  try simp [h2, h2_]
  and_intros
  try any_goals first | omega | (simp [h2, h2_, maxLen] <;> omega)
  obtain ⟨v16, h3, hF⟩ := bnd1_elim hF
  refine AC (w_law23_awake k _ h3) .nil ?_
  try simp [h2, h2_]
  and_intros <;> first | exact g _ (by kernel_rfl) | refine r _ _ _ ?_ | omega | (simp [h2, h2_, maxLen] <;> omega)
  refine WK [(4, AV.bool v16)] [] 1 (by simp [h2, h2_]) (by simp [h2, h2_]) ?_
  simp only [Option.some.injEq] at hF
  subst hF
  refine AW.ret (hQ _ _ _ ?_ (matchO_0 ?_)).1
  ·simp [Try.f3, h2, h2_]
  ·simp [h2, h2_]
 ·replace hF := ite_f h2 hF
  have h2_ := h2
  try simp at h2_
  try simp [h2, h2_]
  and_intros <;> first | exact g _ (by kernel_rfl) | refine r _ _ _ ?_ | omega | (simp [h2, h2_, maxLen] <;> omega)
  refine WK [(0, Lz v0), (3, AV.ptr 0 0), (29, AV.bool (decide (5000 < IntKind.wrap .i64 (IntKind.wrap .i64 ((v9.length : Int) + (v10.length : Int)) + (v11.size : Int)))))] [(0, c_law23_CasesVotes v1 v2 v3 v4 v5 v6 v7 v8 v9 v10 v11 v12 v13)] 1 (by simp [h2, h2_]) (by simp [h2, h2_]) ?_
  by_cases h4 : 5000 < IntKind.wrap .i64 (IntKind.wrap .i64 ((v9.length : Int) + (v10.length : Int)) + (v11.size : Int))
  ·replace hF := ite_t h4 hF
   have h4_ := h4
   try simp at h4_
   have F1 := And.intro h2 (And.intro h2_ (And.intro h4 h4_))
   refine CT (by simp [F1] <;> omega) ?_
   refine SQ [] [none, none] fun _ _ g r => ?_
   try simp [F1]
   and_intros
   try any_goals first | omega | (simp [maxLen, F1] <;> omega)
   obtain ⟨v17, h5, hF⟩ := bnd1_elim hF
   refine AC (w_law23_awake k _ h5) .nil ?_
   try simp [F1]
   and_intros <;> first | exact g _ (by kernel_rfl) | refine r _ _ _ ?_ | omega | (simp [maxLen, F1] <;> omega)
   refine WK [(4, AV.bool v17)] [] 1 (by simp [F1]) (by simp [F1]) ?_
   simp only [Option.some.injEq] at hF
   subst hF
   refine AW.ret (hQ _ _ _ ?_ (matchO_0 ?_)).1
   ·simp [Try.f3, F1]
   ·simp [F1]
  ·replace hF := ite_f h4 hF
   have h4_ := h4
   try simp at h4_
   have F2 := And.intro h2 (And.intro h2_ (And.intro h4 h4_))
   refine CF (by simp [F2] <;> omega) ?_
   refine AW.skip ?_
   refine hK321 _ _ _ ?_
   refine SQ [] [none, none, none] fun _ _ g r => ?_
   try simp [F2]
   and_intros
   try any_goals first | omega | (simp [maxLen, F2] <;> omega)
   obtain ⟨v18, v19, h6, hF⟩ := bnd2_elim hF
   refine AC (w_mill_Roll k _ _ _ h6) (.cons (.same (by simp [F2])) .nil) ?_
   try simp [F2]
   and_intros <;> first | exact g _ (by kernel_rfl) | refine r _ _ _ ?_ | omega | (simp [maxLen, F2] <;> omega)
   refine WK [(3, AV.ptr 0 0), (5, AV.ptr 1 0)] [(0, c_law23_CasesVotes v1 v2 v3 v4 v5 v6 v7 v8 v9 v10 v11 v12 v13), (1, .cells [Lz v18, Iz v19])] 2 (by simp [F2]) (by simp [F2]) ?_
   refine SQ [] [none, none, none, none, none, none] fun _ _ g r => ?_
   try simp [F2]
   and_intros
   try any_goals first | omega | (simp [maxLen, F2] <;> omega)
   obtain ⟨v20, v21, h7, hF⟩ := bnd2_elim hF
   refine aCall_l (w_made_Dice_Next k _ _ _ _ _ h7) (by simp) [1] [] [1] rfl (.cons (.same (by simp [F2])) (.cons (.same (by simp [F2])) .nil)) (by simp [F2]) (by decide) (by simp) (by simp) (.inl rfl) (by simp) (by simp) ?_
   try simp [F2]
   and_intros
   try any_goals first | omega | (simp [maxLen, F2] <;> omega)
   obtain ⟨v22, v23, v24, v25, v26, h8, hF⟩ := bnd5_elim hF
   refine aCall_l (w_mill_Case k _ _ _ _ _ _ _ _ h8) (by simp) [1] [] [1] rfl (.cons (.same (by simp [F2])) (.cons (.same (by simp [F2])) .nil)) (by simp [F2]) (by decide) (by simp) (by simp) (.inl rfl) (by simp) (by simp) ?_
   try simp [F2]
   and_intros <;> first | exact g _ (by kernel_rfl) | refine r _ _ _ ?_ | omega | (simp [maxLen, F2] <;> omega)
   refine WK [(3, AV.ptr 0 0), (5, AV.ptr 1 0), (6, AV.ptr 2 0)] [(0, c_law23_CasesVotes v1 v2 v3 v4 v5 v6 v7 v8 v9 v10 v11 v12 v13), (1, .cells [Lz v18, Iz v26]), (2, .cells [Iz v22, Iz v23, Iz v24, Iz v25])] 3 (by simp [F2]) (by simp [F2]) ?_
   refine SQ [] [none, none, none, none, none, none, none, none, none, none, none] fun _ _ g r => ?_
   try simp [F2]
   and_intros
   try any_goals first | omega | (simp [maxLen, F2] <;> omega)
   obtain ⟨v27, v28, h9, hF⟩ := bnd2_elim hF
   refine aCall_l (w_made_Dice_Next k _ _ _ _ _ h9) (by simp) [1] [] [1] rfl (.cons (.same (by simp [F2])) (.cons (.same (by simp [F2])) .nil)) (by simp [F2]) (by decide) (by simp) (by simp) (.inl rfl) (by simp) (by simp) ?_
   try simp [F2]
   and_intros
   try any_goals first | omega | (simp [maxLen, F2] <;> omega)
   obtain ⟨v29, v30, h10, hF⟩ := bnd2_elim hF
   refine aCall_l (w_made_Dice_Next k _ _ _ _ _ h10) (by simp) [1] [] [1] rfl (.cons (.same (by simp [F2])) (.cons (.same (by simp [F2])) .nil)) (by simp [F2]) (by decide) (by simp) (by simp) (.inl rfl) (by simp) (by simp) ?_
   try simp [F2]
   and_intros
   try any_goals first | omega | (simp [maxLen, F2] <;> omega)
   obtain ⟨v31, v32, v33, h11, hF⟩ := bnd3_elim hF
   refine aCall_l (w_mill_Content k _ _ _ _ _ _ _ _ _ h11) (by simp) [1] [] [1] rfl (.cons (.same (by simp [F2])) (.cons (.same (by simp [F2])) .nil)) (by simp [F2]) (by decide) (by simp) (by simp) (.inl rfl) (by simp) (by simp) ?_
   try simp [F2]
   and_intros
   try any_goals first | omega | (simp [maxLen, F2] <;> omega)
   obtain ⟨v34, h12, hF⟩ := bnd1_elim hF
   refine AC (w_mill_Vote_o k _ _ _ _ _ _ _ _ _ h12) (.cons (.same (by simp [F2])) (.cons (.same (by simp [F2])) (.cons (.same (by simp [F2])) (.cons (.same (by simp [F2])) .nil)))) ?_
   try simp [F2]
   and_intros <;> first | exact g _ (by kernel_rfl) | refine r _ _ _ ?_ | omega | (simp [maxLen, F2] <;> omega)
   refine WK [(3, AV.ptr 0 0), (5, AV.ptr 1 0), (7, AV.ptr 5 0)] [(0, c_law23_CasesVotes v1 v2 v3 v4 v5 v6 v7 v8 v9 v10 v11 v12 v13), (1, .cells [Lz v18, Iz v33]), (3, .grow (List.map (AV.int .i64) v34.Lst)), (4, .grow (flatA (List.map api_Pin.av v34.Pins))), (5, .cells [Iz v34.Author, Iz v34.Number, AV.str v34.Prev, Iz v34.Time, Iz v34.Kind, Iz v34.A, Iz v34.B, Iz v34.C, AV.slc 3 0 1 v34.Lst.length false, AV.slc 4 0 3 v34.Pins.length false, AV.str v34.Body, Iz v34.Seal_Key, AV.str v34.Seal_Digest])] 6 (by simp [F2]) (by simp [F2]) ?_
   refine AW.frz 4 (o := .grow (flatA (List.map api_Pin.av v34.Pins))) (by simp [F2]) rfl [] [(5, .cells [Iz v34.Author, Iz v34.Number, AV.str v34.Prev, Iz v34.Time, Iz v34.Kind, Iz v34.A, Iz v34.B, Iz v34.C, AV.slc 3 0 1 v34.Lst.length false, AV.lst false false (List.map api_Pin.av v34.Pins), AV.str v34.Body, Iz v34.Seal_Key, AV.str v34.Seal_Digest])] trivial ⟨⟨by simp, AObj.cells [Iz v34.Author, Iz v34.Number, AV.str v34.Prev, Iz v34.Time, Iz v34.Kind, Iz v34.A, Iz v34.B, Iz v34.C, AV.slc 3 0 1 v34.Lst.length false, AV.slc 4 0 3 v34.Pins.length false, AV.str v34.Body, Iz v34.Seal_Key, AV.str v34.Seal_Digest], by simp [F2], (.mk (.cons (.same _) (.cons (.same _) (.cons (.same _) (.cons (.same _) (.cons (.same _) (.cons (.same _) (.cons (.same _) (.cons (.same _) (.cons (.same _) (.cons (.l (by simp) (by simp) (by simp) (by simp)) (.cons (.same _) (.cons (.same _) (.cons (.same _) .nil))))))))))))))⟩, trivial⟩ ?_
   refine WK [(3, AV.ptr 0 0), (5, AV.ptr 1 0), (7, AV.ptr 5 0)] [(0, c_law23_CasesVotes v1 v2 v3 v4 v5 v6 v7 v8 v9 v10 v11 v12 v13), (1, .cells [Lz v18, Iz v33]), (3, .grow (List.map (AV.int .i64) v34.Lst)), (5, .cells [Iz v34.Author, Iz v34.Number, AV.str v34.Prev, Iz v34.Time, Iz v34.Kind, Iz v34.A, Iz v34.B, Iz v34.C, AV.slc 3 0 1 v34.Lst.length false, AV.lst false false (List.map api_Pin.av v34.Pins), AV.str v34.Body, Iz v34.Seal_Key, AV.str v34.Seal_Digest])] 6 (by simp [F2]) (by simp [F2]) ?_
   refine AW.midF (α := (Int × Int × Int × Int × Int × (List Int) × ByteArray × Int)) (fun (v35, v36, v37, v38, v39, v40, v41, v42) => law23_CasesVotes.J1 k v1 v2 v3 v4 v5 v6 v7 v8 v9 v10 v11 v12 v13 v34 v35 v36 v37 v38 v39 v40 v41 v42 = some v14) (fun (v35, v36, v37, v38, v39, v40, v41, v42) => [(3, AV.ptr 0 0), (7, AV.ptr 1 0)]) (fun (v35, v36, v37, v38, v39, v40, v41, v42) => [(0, c_law23_CasesVotes v1 v2 v3 v4 v5 v6 v7 v8 v9 v10 v11 v12 v13), (1, .cells [Iz v35, Iz v34.Number, AV.str v34.Prev, Iz v34.Time, Iz v36, Iz v37, Iz v38, Iz v39, Lz v40, AV.lst false false (List.map api_Pin.av v34.Pins), AV.str v41, Iz v42, AV.str v34.Seal_Digest])]) 2 (fun K615 hK615 => ?_) ?_
   ·refine SQ [] [none, none] fun _ _ g r => ?_
    try simp [F2]
    and_intros
    try any_goals first | omega | (simp [maxLen, F2] <;> omega)
    obtain ⟨v76, v77, h23, hF⟩ := bnd2_elim hF
    refine aCall_l (w_made_Dice_Next k _ _ _ _ _ h23) (by simp) [1] [] [1] rfl (.cons (.same (by simp [F2])) (.cons (.same (by simp [F2])) .nil)) (by simp [F2]) (by decide) (by simp) (by simp) (.inl rfl) (by simp) (by simp) ?_
    try simp [F2]
    and_intros <;> first | exact g _ (by kernel_rfl) | refine r _ _ _ ?_ | omega | (simp [maxLen, F2] <;> omega)
    refine WK [(3, AV.ptr 0 0), (5, AV.ptr 1 0), (7, AV.ptr 5 0), (47, Iz v76)] [(0, c_law23_CasesVotes v1 v2 v3 v4 v5 v6 v7 v8 v9 v10 v11 v12 v13), (1, .cells [Lz v18, Iz v77]), (3, .grow (List.map (AV.int .i64) v34.Lst)), (5, .cells [Iz v34.Author, Iz v34.Number, AV.str v34.Prev, Iz v34.Time, Iz v34.Kind, Iz v34.A, Iz v34.B, Iz v34.C, AV.slc 3 0 1 v34.Lst.length false, AV.lst false false (List.map api_Pin.av v34.Pins), AV.str v34.Body, Iz v34.Seal_Key, AV.str v34.Seal_Digest])] 6 (by simp [F2]) (by simp [F2]) ?_
    refine AW.block ?_
    refine SQ [] [none, none] fun _ _ g r => ?_
    try simp [F2]
    and_intros <;> first | exact g _ (by kernel_rfl) | refine r _ _ _ ?_ | omega | (simp [maxLen, F2] <;> omega)
    refine WK [(3, AV.ptr 0 0), (5, AV.ptr 1 0), (7, AV.ptr 5 0), (47, Iz v76), (48, AV.bool (v76 == 0))] [(0, c_law23_CasesVotes v1 v2 v3 v4 v5 v6 v7 v8 v9 v10 v11 v12 v13), (1, .cells [Lz v18, Iz v77]), (3, .grow (List.map (AV.int .i64) v34.Lst)), (5, .cells [Iz v34.Author, Iz v34.Number, AV.str v34.Prev, Iz v34.Time, Iz v34.Kind, Iz v34.A, Iz v34.B, Iz v34.C, AV.slc 3 0 1 v34.Lst.length false, AV.lst false false (List.map api_Pin.av v34.Pins), AV.str v34.Body, Iz v34.Seal_Key, AV.str v34.Seal_Digest])] 6 (by simp [F2]) (by simp [F2]) ?_
    by_cases h24 : v76 = 0
    ·replace hF := ite_t h24 hF
     have h24q : v76 = 0 := h24
     have h24_ := eqb_t h24q
     have h24__ := neb_f h24q
     have F3 := And.intro F2 (And.intro h24_ (And.intro h24__ h24q))
     refine CT (by simp [F3] <;> omega) ?_
     refine RG [] [none, none, none, none, none] fun _ _ g r => ?_
     try simp [F3]
     and_intros
     try any_goals first | omega | (simp [maxLen, F3] <;> omega)
     obtain ⟨v78, v79, h25, hF⟩ := bnd2_elim hF
     refine aCall_l (w_made_Dice_Of k _ _ _ _ _ h25) (by simp) [1] [] [1] rfl (.cons (.same (by simp [F3])) (.cons (Coe.fl (by simp [F3])) .nil)) (by simp [F3]) (by decide) (by simp) (by simp) (.inl rfl) (by simp) (by simp) ?_
     try simp [F3]
     and_intros <;> first | exact g _ (by kernel_rfl) | refine r _ _ _ ?_ | omega | (simp [maxLen, F3] <;> omega)
     refine hK615 _ _ _ ?_
     refine Can.weak [(3, AV.ptr 0 0), (7, AV.ptr 5 0)] [(0, c_law23_CasesVotes v1 v2 v3 v4 v5 v6 v7 v8 v9 v10 v11 v12 v13), (3, .grow (List.map (AV.int .i64) v34.Lst)), (5, .cells [Iz v34.Author, Iz v34.Number, AV.str v34.Prev, Iz v34.Time, Iz v78, Iz v34.A, Iz v34.B, Iz v34.C, AV.slc 3 0 1 v34.Lst.length false, AV.lst false false (List.map api_Pin.av v34.Pins), AV.str v34.Body, Iz v34.Seal_Key, AV.str v34.Seal_Digest])] 6 (by simp [F3]) (by simp [F3]) (by simp) ?_
     refine Can.freeze 3 (o := .grow (List.map (AV.int .i64) v34.Lst)) (by simp [F3]) rfl [] [(5, .cells [Iz v34.Author, Iz v34.Number, AV.str v34.Prev, Iz v34.Time, Iz v78, Iz v34.A, Iz v34.B, Iz v34.C, AV.lst false false (List.map (AV.int .i64) v34.Lst), AV.lst false false (List.map api_Pin.av v34.Pins), AV.str v34.Body, Iz v34.Seal_Key, AV.str v34.Seal_Digest])] trivial ⟨⟨by simp, AObj.cells [Iz v34.Author, Iz v34.Number, AV.str v34.Prev, Iz v34.Time, Iz v78, Iz v34.A, Iz v34.B, Iz v34.C, AV.slc 3 0 1 v34.Lst.length false, AV.lst false false (List.map api_Pin.av v34.Pins), AV.str v34.Body, Iz v34.Seal_Key, AV.str v34.Seal_Digest], by simp [F3], (.mk (.cons (.same _) (.cons (.same _) (.cons (.same _) (.cons (.same _) (.cons (.same _) (.cons (.same _) (.cons (.same _) (.cons (.same _) (.cons (.l (by simp) (by simp) (by simp) (by simp)) (.cons (.same _) (.cons (.same _) (.cons (.same _) (.cons (.same _) .nil))))))))))))))⟩, trivial⟩ ?_
     refine RN h0 [(0, 0), (1, 5)] [(3, AV.ptr 0 0), (7, AV.ptr 1 0)] [(0, c_law23_CasesVotes v1 v2 v3 v4 v5 v6 v7 v8 v9 v10 v11 v12 v13), (1, .cells [Iz v34.Author, Iz v34.Number, AV.str v34.Prev, Iz v34.Time, Iz v78, Iz v34.A, Iz v34.B, Iz v34.C, AV.lst false false (List.map (AV.int .i64) v34.Lst), AV.lst false false (List.map api_Pin.av v34.Pins), AV.str v34.Body, Iz v34.Seal_Key, AV.str v34.Seal_Digest])] 2 (by simp [F3]) (by simp [F3]) ?_
     exact JN ((v34.Author, v78, v34.A, v34.B, v34.C, v34.Lst, v34.Body, v34.Seal_Key)) hF (by simp [F3]) (by simp [F3])
    ·replace hF := ite_f h24 hF
     have h24_ := eqb_f h24
     have h24__ := neb_t h24
     have F4 := And.intro F2 (And.intro h24 (And.intro h24_ h24__))
     refine CF (by simp [F4] <;> omega) ?_
     refine SQ [] [none, none] fun _ _ g r => ?_
     try simp [F4]
     and_intros <;> first | exact g _ (by kernel_rfl) | refine r _ _ _ ?_ | omega | (simp [maxLen, F4] <;> omega)
     refine WK [(3, AV.ptr 0 0), (5, AV.ptr 1 0), (7, AV.ptr 5 0), (47, Iz v76), (54, AV.bool (v76 == 1))] [(0, c_law23_CasesVotes v1 v2 v3 v4 v5 v6 v7 v8 v9 v10 v11 v12 v13), (1, .cells [Lz v18, Iz v77]), (3, .grow (List.map (AV.int .i64) v34.Lst)), (5, .cells [Iz v34.Author, Iz v34.Number, AV.str v34.Prev, Iz v34.Time, Iz v34.Kind, Iz v34.A, Iz v34.B, Iz v34.C, AV.slc 3 0 1 v34.Lst.length false, AV.lst false false (List.map api_Pin.av v34.Pins), AV.str v34.Body, Iz v34.Seal_Key, AV.str v34.Seal_Digest])] 6 (by simp [F4]) (by simp [F4]) ?_
     by_cases h26 : v76 = 1
     ·replace hF := ite_t h26 hF
      have h26q : v76 = 1 := h26
      have h26_ := eqb_t h26q
      have h26__ := neb_f h26q
      have F5 := And.intro F4 (And.intro h26_ (And.intro h26__ h26q))
      refine CT (by simp [F5] <;> omega) ?_
      refine RG [] [none, none, none, none, none] fun _ _ g r => ?_
      try simp [F5]
      and_intros
      try any_goals first | omega | (simp [maxLen, F5] <;> omega)
      obtain ⟨v80, v81, h27, hF⟩ := bnd2_elim hF
      refine aCall_l (w_made_Dice_Of k _ _ _ _ _ h27) (by simp) [1] [] [1] rfl (.cons (.same (by simp [F5])) (.cons (Coe.fl (by simp [F5])) .nil)) (by simp [F5]) (by decide) (by simp) (by simp) (.inl rfl) (by simp) (by simp) ?_
      try simp [F5]
      and_intros <;> first | exact g _ (by kernel_rfl) | refine r _ _ _ ?_ | omega | (simp [maxLen, F5] <;> omega)
      refine hK615 _ _ _ ?_
      refine Can.weak [(3, AV.ptr 0 0), (7, AV.ptr 5 0)] [(0, c_law23_CasesVotes v1 v2 v3 v4 v5 v6 v7 v8 v9 v10 v11 v12 v13), (3, .grow (List.map (AV.int .i64) v34.Lst)), (5, .cells [Iz v34.Author, Iz v34.Number, AV.str v34.Prev, Iz v34.Time, Iz v34.Kind, Iz v80, Iz v34.B, Iz v34.C, AV.slc 3 0 1 v34.Lst.length false, AV.lst false false (List.map api_Pin.av v34.Pins), AV.str v34.Body, Iz v34.Seal_Key, AV.str v34.Seal_Digest])] 6 (by simp [F5]) (by simp [F5]) (by simp) ?_
      refine Can.freeze 3 (o := .grow (List.map (AV.int .i64) v34.Lst)) (by simp [F5]) rfl [] [(5, .cells [Iz v34.Author, Iz v34.Number, AV.str v34.Prev, Iz v34.Time, Iz v34.Kind, Iz v80, Iz v34.B, Iz v34.C, AV.lst false false (List.map (AV.int .i64) v34.Lst), AV.lst false false (List.map api_Pin.av v34.Pins), AV.str v34.Body, Iz v34.Seal_Key, AV.str v34.Seal_Digest])] trivial ⟨⟨by simp, AObj.cells [Iz v34.Author, Iz v34.Number, AV.str v34.Prev, Iz v34.Time, Iz v34.Kind, Iz v80, Iz v34.B, Iz v34.C, AV.slc 3 0 1 v34.Lst.length false, AV.lst false false (List.map api_Pin.av v34.Pins), AV.str v34.Body, Iz v34.Seal_Key, AV.str v34.Seal_Digest], by simp [F5], (.mk (.cons (.same _) (.cons (.same _) (.cons (.same _) (.cons (.same _) (.cons (.same _) (.cons (.same _) (.cons (.same _) (.cons (.same _) (.cons (.l (by simp) (by simp) (by simp) (by simp)) (.cons (.same _) (.cons (.same _) (.cons (.same _) (.cons (.same _) .nil))))))))))))))⟩, trivial⟩ ?_
      refine RN h0 [(0, 0), (1, 5)] [(3, AV.ptr 0 0), (7, AV.ptr 1 0)] [(0, c_law23_CasesVotes v1 v2 v3 v4 v5 v6 v7 v8 v9 v10 v11 v12 v13), (1, .cells [Iz v34.Author, Iz v34.Number, AV.str v34.Prev, Iz v34.Time, Iz v34.Kind, Iz v80, Iz v34.B, Iz v34.C, AV.lst false false (List.map (AV.int .i64) v34.Lst), AV.lst false false (List.map api_Pin.av v34.Pins), AV.str v34.Body, Iz v34.Seal_Key, AV.str v34.Seal_Digest])] 2 (by simp [F5]) (by simp [F5]) ?_
      exact JN ((v34.Author, v34.Kind, v80, v34.B, v34.C, v34.Lst, v34.Body, v34.Seal_Key)) hF (by simp [F5]) (by simp [F5])
     ·replace hF := ite_f h26 hF
      have h26_ := eqb_f h26
      have h26__ := neb_t h26
      have F6 := And.intro F4 (And.intro h26 (And.intro h26_ h26__))
      refine CF (by simp [F6] <;> omega) ?_
      refine SQ [] [none, none] fun _ _ g r => ?_
      try simp [F6]
      and_intros <;> first | exact g _ (by kernel_rfl) | refine r _ _ _ ?_ | omega | (simp [maxLen, F6] <;> omega)
      refine WK [(3, AV.ptr 0 0), (5, AV.ptr 1 0), (7, AV.ptr 5 0), (47, Iz v76), (60, AV.bool (v76 == 2))] [(0, c_law23_CasesVotes v1 v2 v3 v4 v5 v6 v7 v8 v9 v10 v11 v12 v13), (1, .cells [Lz v18, Iz v77]), (3, .grow (List.map (AV.int .i64) v34.Lst)), (5, .cells [Iz v34.Author, Iz v34.Number, AV.str v34.Prev, Iz v34.Time, Iz v34.Kind, Iz v34.A, Iz v34.B, Iz v34.C, AV.slc 3 0 1 v34.Lst.length false, AV.lst false false (List.map api_Pin.av v34.Pins), AV.str v34.Body, Iz v34.Seal_Key, AV.str v34.Seal_Digest])] 6 (by simp [F6]) (by simp [F6]) ?_
      by_cases h28 : v76 = 2
      ·replace hF := ite_t h28 hF
       have h28q : v76 = 2 := h28
       have h28_ := eqb_t h28q
       have h28__ := neb_f h28q
       have F7 := And.intro F6 (And.intro h28_ (And.intro h28__ h28q))
       refine CT (by simp [F7] <;> omega) ?_
       refine RG [] [none, none, none, none, none] fun _ _ g r => ?_
       try simp [F7]
       and_intros
       try any_goals first | omega | (simp [maxLen, F7] <;> omega)
       obtain ⟨v82, v83, h29, hF⟩ := bnd2_elim hF
       refine aCall_l (w_made_Dice_Of k _ _ _ _ _ h29) (by simp) [1] [] [1] rfl (.cons (.same (by simp [F7])) (.cons (Coe.fl (by simp [F7])) .nil)) (by simp [F7]) (by decide) (by simp) (by simp) (.inl rfl) (by simp) (by simp) ?_
       try simp [F7]
       and_intros <;> first | exact g _ (by kernel_rfl) | refine r _ _ _ ?_ | omega | (simp [maxLen, F7] <;> omega)
       refine hK615 _ _ _ ?_
       refine Can.weak [(3, AV.ptr 0 0), (7, AV.ptr 5 0)] [(0, c_law23_CasesVotes v1 v2 v3 v4 v5 v6 v7 v8 v9 v10 v11 v12 v13), (3, .grow (List.map (AV.int .i64) v34.Lst)), (5, .cells [Iz v34.Author, Iz v34.Number, AV.str v34.Prev, Iz v34.Time, Iz v34.Kind, Iz v34.A, Iz v82, Iz v34.C, AV.slc 3 0 1 v34.Lst.length false, AV.lst false false (List.map api_Pin.av v34.Pins), AV.str v34.Body, Iz v34.Seal_Key, AV.str v34.Seal_Digest])] 6 (by simp [F7]) (by simp [F7]) (by simp) ?_
       refine Can.freeze 3 (o := .grow (List.map (AV.int .i64) v34.Lst)) (by simp [F7]) rfl [] [(5, .cells [Iz v34.Author, Iz v34.Number, AV.str v34.Prev, Iz v34.Time, Iz v34.Kind, Iz v34.A, Iz v82, Iz v34.C, AV.lst false false (List.map (AV.int .i64) v34.Lst), AV.lst false false (List.map api_Pin.av v34.Pins), AV.str v34.Body, Iz v34.Seal_Key, AV.str v34.Seal_Digest])] trivial ⟨⟨by simp, AObj.cells [Iz v34.Author, Iz v34.Number, AV.str v34.Prev, Iz v34.Time, Iz v34.Kind, Iz v34.A, Iz v82, Iz v34.C, AV.slc 3 0 1 v34.Lst.length false, AV.lst false false (List.map api_Pin.av v34.Pins), AV.str v34.Body, Iz v34.Seal_Key, AV.str v34.Seal_Digest], by simp [F7], (.mk (.cons (.same _) (.cons (.same _) (.cons (.same _) (.cons (.same _) (.cons (.same _) (.cons (.same _) (.cons (.same _) (.cons (.same _) (.cons (.l (by simp) (by simp) (by simp) (by simp)) (.cons (.same _) (.cons (.same _) (.cons (.same _) (.cons (.same _) .nil))))))))))))))⟩, trivial⟩ ?_
       refine RN h0 [(0, 0), (1, 5)] [(3, AV.ptr 0 0), (7, AV.ptr 1 0)] [(0, c_law23_CasesVotes v1 v2 v3 v4 v5 v6 v7 v8 v9 v10 v11 v12 v13), (1, .cells [Iz v34.Author, Iz v34.Number, AV.str v34.Prev, Iz v34.Time, Iz v34.Kind, Iz v34.A, Iz v82, Iz v34.C, AV.lst false false (List.map (AV.int .i64) v34.Lst), AV.lst false false (List.map api_Pin.av v34.Pins), AV.str v34.Body, Iz v34.Seal_Key, AV.str v34.Seal_Digest])] 2 (by simp [F7]) (by simp [F7]) ?_
       exact JN ((v34.Author, v34.Kind, v34.A, v82, v34.C, v34.Lst, v34.Body, v34.Seal_Key)) hF (by simp [F7]) (by simp [F7])
      ·replace hF := ite_f h28 hF
       have h28_ := eqb_f h28
       have h28__ := neb_t h28
       have F8 := And.intro F6 (And.intro h28 (And.intro h28_ h28__))
       refine CF (by simp [F8] <;> omega) ?_
       refine SQ [] [none, none] fun _ _ g r => ?_
       try simp [F8]
       and_intros <;> first | exact g _ (by kernel_rfl) | refine r _ _ _ ?_ | omega | (simp [maxLen, F8] <;> omega)
       refine WK [(3, AV.ptr 0 0), (5, AV.ptr 1 0), (7, AV.ptr 5 0), (47, Iz v76), (66, AV.bool (v76 == 3))] [(0, c_law23_CasesVotes v1 v2 v3 v4 v5 v6 v7 v8 v9 v10 v11 v12 v13), (1, .cells [Lz v18, Iz v77]), (3, .grow (List.map (AV.int .i64) v34.Lst)), (5, .cells [Iz v34.Author, Iz v34.Number, AV.str v34.Prev, Iz v34.Time, Iz v34.Kind, Iz v34.A, Iz v34.B, Iz v34.C, AV.slc 3 0 1 v34.Lst.length false, AV.lst false false (List.map api_Pin.av v34.Pins), AV.str v34.Body, Iz v34.Seal_Key, AV.str v34.Seal_Digest])] 6 (by simp [F8]) (by simp [F8]) ?_
       by_cases h30 : v76 = 3
       ·replace hF := ite_t h30 hF
        have h30q : v76 = 3 := h30
        have h30_ := eqb_t h30q
        have h30__ := neb_f h30q
        have F9 := And.intro F8 (And.intro h30_ (And.intro h30__ h30q))
        refine CT (by simp [F9] <;> omega) ?_
        refine RG [] [none, none, none, none, none] fun _ _ g r => ?_
        try simp [F9]
        and_intros
        try any_goals first | omega | (simp [maxLen, F9] <;> omega)
        obtain ⟨v84, v85, h31, hF⟩ := bnd2_elim hF
        refine aCall_l (w_made_Dice_Of k _ _ _ _ _ h31) (by simp) [1] [] [1] rfl (.cons (.same (by simp [F9])) (.cons (Coe.fl (by simp [F9])) .nil)) (by simp [F9]) (by decide) (by simp) (by simp) (.inl rfl) (by simp) (by simp) ?_
        try simp [F9]
        and_intros <;> first | exact g _ (by kernel_rfl) | refine r _ _ _ ?_ | omega | (simp [maxLen, F9] <;> omega)
        refine hK615 _ _ _ ?_
        refine Can.weak [(3, AV.ptr 0 0), (7, AV.ptr 5 0)] [(0, c_law23_CasesVotes v1 v2 v3 v4 v5 v6 v7 v8 v9 v10 v11 v12 v13), (3, .grow (List.map (AV.int .i64) v34.Lst)), (5, .cells [Iz v34.Author, Iz v34.Number, AV.str v34.Prev, Iz v34.Time, Iz v34.Kind, Iz v34.A, Iz v34.B, Iz v84, AV.slc 3 0 1 v34.Lst.length false, AV.lst false false (List.map api_Pin.av v34.Pins), AV.str v34.Body, Iz v34.Seal_Key, AV.str v34.Seal_Digest])] 6 (by simp [F9]) (by simp [F9]) (by simp) ?_
        refine Can.freeze 3 (o := .grow (List.map (AV.int .i64) v34.Lst)) (by simp [F9]) rfl [] [(5, .cells [Iz v34.Author, Iz v34.Number, AV.str v34.Prev, Iz v34.Time, Iz v34.Kind, Iz v34.A, Iz v34.B, Iz v84, AV.lst false false (List.map (AV.int .i64) v34.Lst), AV.lst false false (List.map api_Pin.av v34.Pins), AV.str v34.Body, Iz v34.Seal_Key, AV.str v34.Seal_Digest])] trivial ⟨⟨by simp, AObj.cells [Iz v34.Author, Iz v34.Number, AV.str v34.Prev, Iz v34.Time, Iz v34.Kind, Iz v34.A, Iz v34.B, Iz v84, AV.slc 3 0 1 v34.Lst.length false, AV.lst false false (List.map api_Pin.av v34.Pins), AV.str v34.Body, Iz v34.Seal_Key, AV.str v34.Seal_Digest], by simp [F9], (.mk (.cons (.same _) (.cons (.same _) (.cons (.same _) (.cons (.same _) (.cons (.same _) (.cons (.same _) (.cons (.same _) (.cons (.same _) (.cons (.l (by simp) (by simp) (by simp) (by simp)) (.cons (.same _) (.cons (.same _) (.cons (.same _) (.cons (.same _) .nil))))))))))))))⟩, trivial⟩ ?_
        refine RN h0 [(0, 0), (1, 5)] [(3, AV.ptr 0 0), (7, AV.ptr 1 0)] [(0, c_law23_CasesVotes v1 v2 v3 v4 v5 v6 v7 v8 v9 v10 v11 v12 v13), (1, .cells [Iz v34.Author, Iz v34.Number, AV.str v34.Prev, Iz v34.Time, Iz v34.Kind, Iz v34.A, Iz v34.B, Iz v84, AV.lst false false (List.map (AV.int .i64) v34.Lst), AV.lst false false (List.map api_Pin.av v34.Pins), AV.str v34.Body, Iz v34.Seal_Key, AV.str v34.Seal_Digest])] 2 (by simp [F9]) (by simp [F9]) ?_
        exact JN ((v34.Author, v34.Kind, v34.A, v34.B, v84, v34.Lst, v34.Body, v34.Seal_Key)) hF (by simp [F9]) (by simp [F9])
       ·replace hF := ite_f h30 hF
        have h30_ := eqb_f h30
        have h30__ := neb_t h30
        have F10 := And.intro F8 (And.intro h30 (And.intro h30_ h30__))
        refine CF (by simp [F10] <;> omega) ?_
        refine SQ [] [none, none] fun _ _ g r => ?_
        try simp [F10]
        and_intros <;> first | exact g _ (by kernel_rfl) | refine r _ _ _ ?_ | omega | (simp [maxLen, F10] <;> omega)
        refine WK [(3, AV.ptr 0 0), (5, AV.ptr 1 0), (7, AV.ptr 5 0), (47, Iz v76), (72, AV.bool (v76 == 4))] [(0, c_law23_CasesVotes v1 v2 v3 v4 v5 v6 v7 v8 v9 v10 v11 v12 v13), (1, .cells [Lz v18, Iz v77]), (3, .grow (List.map (AV.int .i64) v34.Lst)), (5, .cells [Iz v34.Author, Iz v34.Number, AV.str v34.Prev, Iz v34.Time, Iz v34.Kind, Iz v34.A, Iz v34.B, Iz v34.C, AV.slc 3 0 1 v34.Lst.length false, AV.lst false false (List.map api_Pin.av v34.Pins), AV.str v34.Body, Iz v34.Seal_Key, AV.str v34.Seal_Digest])] 6 (by simp [F10]) (by simp [F10]) ?_
        by_cases h32 : v76 = 4
        ·replace hF := ite_t h32 hF
         have h32q : v76 = 4 := h32
         have h32_ := eqb_t h32q
         have h32__ := neb_f h32q
         refine CT (by simp [F10, h32_, h32__, h32q] <;> omega) ?_
         refine RG [] [none, none, none, none, none, none] fun _ _ g r => ?_
         obtain ⟨h33, hF⟩ := chk_elim hF
         have h33_ := h33
         try simp at h33_
         have F11 := And.intro F10 (And.intro h32_ (And.intro h32__ (And.intro h32q h33)))
         try simp [F11]
         and_intros <;> first | exact g _ (by kernel_rfl) | refine r _ _ _ ?_ | omega | (simp [maxLen, F11] <;> omega)
         refine hK615 _ _ _ ?_
         refine Can.weak [(3, AV.ptr 0 0), (7, AV.ptr 5 0)] [(0, c_law23_CasesVotes v1 v2 v3 v4 v5 v6 v7 v8 v9 v10 v11 v12 v13), (5, .cells [Iz v34.Author, Iz v34.Number, AV.str v34.Prev, Iz v34.Time, Iz v34.Kind, Iz v34.A, Iz v34.B, Iz v34.C, AV.slc 6 0 1 ((v34.Lst ++ ([1] : List Int)).length) false, AV.lst false false (List.map api_Pin.av v34.Pins), AV.str v34.Body, Iz v34.Seal_Key, AV.str v34.Seal_Digest]), (6, .grow (List.map (AV.int .i64) (v34.Lst ++ ([1] : List Int))))] 7 (by simp [F11]) (by simp [F11]) (by simp) ?_
         refine Can.freeze 6 (o := .grow (List.map (AV.int .i64) (v34.Lst ++ ([1] : List Int)))) (by simp [F11]) rfl [] [(5, .cells [Iz v34.Author, Iz v34.Number, AV.str v34.Prev, Iz v34.Time, Iz v34.Kind, Iz v34.A, Iz v34.B, Iz v34.C, Lz (v34.Lst ++ ([1] : List Int)), AV.lst false false (List.map api_Pin.av v34.Pins), AV.str v34.Body, Iz v34.Seal_Key, AV.str v34.Seal_Digest])] trivial ⟨⟨by simp, AObj.cells [Iz v34.Author, Iz v34.Number, AV.str v34.Prev, Iz v34.Time, Iz v34.Kind, Iz v34.A, Iz v34.B, Iz v34.C, AV.slc 6 0 1 ((v34.Lst ++ ([1] : List Int)).length) false, AV.lst false false (List.map api_Pin.av v34.Pins), AV.str v34.Body, Iz v34.Seal_Key, AV.str v34.Seal_Digest], by simp [F11], (.mk (.cons (.same _) (.cons (.same _) (.cons (.same _) (.cons (.same _) (.cons (.same _) (.cons (.same _) (.cons (.same _) (.cons (.same _) (.cons (.l (by simp) (by simp) (by simp) (by simp)) (.cons (.same _) (.cons (.same _) (.cons (.same _) (.cons (.same _) .nil))))))))))))))⟩, trivial⟩ ?_
         refine RN h0 [(0, 0), (1, 5)] [(3, AV.ptr 0 0), (7, AV.ptr 1 0)] [(0, c_law23_CasesVotes v1 v2 v3 v4 v5 v6 v7 v8 v9 v10 v11 v12 v13), (1, .cells [Iz v34.Author, Iz v34.Number, AV.str v34.Prev, Iz v34.Time, Iz v34.Kind, Iz v34.A, Iz v34.B, Iz v34.C, Lz (v34.Lst ++ ([1] : List Int)), AV.lst false false (List.map api_Pin.av v34.Pins), AV.str v34.Body, Iz v34.Seal_Key, AV.str v34.Seal_Digest])] 2 (by simp [F11]) (by simp [F11]) ?_
         exact JN ((v34.Author, v34.Kind, v34.A, v34.B, v34.C, v34.Lst ++ ([1] : List Int), v34.Body, v34.Seal_Key)) hF (by simp [F11]) (by simp [F11])
        ·replace hF := ite_f h32 hF
         have h32_ := eqb_f h32
         have h32__ := neb_t h32
         have F12 := And.intro F10 (And.intro h32 (And.intro h32_ h32__))
         refine CF (by simp [F12] <;> omega) ?_
         refine SQ [] [none, none] fun _ _ g r => ?_
         try simp [F12]
         and_intros <;> first | exact g _ (by kernel_rfl) | refine r _ _ _ ?_ | omega | (simp [maxLen, F12] <;> omega)
         refine WK [(3, AV.ptr 0 0), (5, AV.ptr 1 0), (7, AV.ptr 5 0), (47, Iz v76), (79, AV.bool (v76 == 5))] [(0, c_law23_CasesVotes v1 v2 v3 v4 v5 v6 v7 v8 v9 v10 v11 v12 v13), (1, .cells [Lz v18, Iz v77]), (3, .grow (List.map (AV.int .i64) v34.Lst)), (5, .cells [Iz v34.Author, Iz v34.Number, AV.str v34.Prev, Iz v34.Time, Iz v34.Kind, Iz v34.A, Iz v34.B, Iz v34.C, AV.slc 3 0 1 v34.Lst.length false, AV.lst false false (List.map api_Pin.av v34.Pins), AV.str v34.Body, Iz v34.Seal_Key, AV.str v34.Seal_Digest])] 6 (by simp [F12]) (by simp [F12]) ?_
         refine AW.frz 3 (o := .grow (List.map (AV.int .i64) v34.Lst)) (by simp [F12]) rfl [] [(5, .cells [Iz v34.Author, Iz v34.Number, AV.str v34.Prev, Iz v34.Time, Iz v34.Kind, Iz v34.A, Iz v34.B, Iz v34.C, AV.lst false false (List.map (AV.int .i64) v34.Lst), AV.lst false false (List.map api_Pin.av v34.Pins), AV.str v34.Body, Iz v34.Seal_Key, AV.str v34.Seal_Digest])] trivial ⟨⟨by simp, AObj.cells [Iz v34.Author, Iz v34.Number, AV.str v34.Prev, Iz v34.Time, Iz v34.Kind, Iz v34.A, Iz v34.B, Iz v34.C, AV.slc 3 0 1 v34.Lst.length false, AV.lst false false (List.map api_Pin.av v34.Pins), AV.str v34.Body, Iz v34.Seal_Key, AV.str v34.Seal_Digest], by simp [F12], (.mk (.cons (.same _) (.cons (.same _) (.cons (.same _) (.cons (.same _) (.cons (.same _) (.cons (.same _) (.cons (.same _) (.cons (.same _) (.cons (.l (by simp) (by simp) (by simp) (by simp)) (.cons (.same _) (.cons (.same _) (.cons (.same _) (.cons (.same _) .nil))))))))))))))⟩, trivial⟩ ?_
         refine WK [(3, AV.ptr 0 0), (5, AV.ptr 1 0), (7, AV.ptr 5 0), (47, Iz v76), (79, AV.bool (v76 == 5))] [(0, c_law23_CasesVotes v1 v2 v3 v4 v5 v6 v7 v8 v9 v10 v11 v12 v13), (1, .cells [Lz v18, Iz v77]), (5, .cells [Iz v34.Author, Iz v34.Number, AV.str v34.Prev, Iz v34.Time, Iz v34.Kind, Iz v34.A, Iz v34.B, Iz v34.C, AV.lst false false (List.map (AV.int .i64) v34.Lst), AV.lst false false (List.map api_Pin.av v34.Pins), AV.str v34.Body, Iz v34.Seal_Key, AV.str v34.Seal_Digest])] 6 (by simp [F12]) (by simp [F12]) ?_
         by_cases h34 : v76 = 5
         ·replace hF := ite_t h34 hF
          have h34q : v76 = 5 := h34
          have h34_ := eqb_t h34q
          have h34__ := neb_f h34q
          have F13 := And.intro F12 (And.intro h34_ (And.intro h34__ h34q))
          refine CT (by simp [F13] <;> omega) ?_
          refine RG [] [none, none] fun _ _ g r => ?_
          try simp [F13]
          and_intros <;> first | exact g _ (by kernel_rfl) | refine r _ _ _ ?_ | omega | (simp [maxLen, F13] <;> omega)
          refine hK615 _ _ _ ?_
          refine RN h0 [(0, 0), (1, 5)] [(3, AV.ptr 0 0), (7, AV.ptr 1 0)] [(0, c_law23_CasesVotes v1 v2 v3 v4 v5 v6 v7 v8 v9 v10 v11 v12 v13), (1, .cells [Iz v34.Author, Iz v34.Number, AV.str v34.Prev, Iz v34.Time, Iz v34.Kind, Iz v34.A, Iz v34.B, Iz v34.C, AV.lst false false (List.map (AV.int .i64) v34.Lst), AV.lst false false (List.map api_Pin.av v34.Pins), AV.str (ByteArray.mk #[120]), Iz v34.Seal_Key, AV.str v34.Seal_Digest])] 2 (by simp [F13]) (by simp [F13]) ?_
          exact JN ((v34.Author, v34.Kind, v34.A, v34.B, v34.C, v34.Lst, (ByteArray.mk #[120]), v34.Seal_Key)) hF (by simp [F13]) (by simp [F13])
         ·replace hF := ite_f h34 hF
          have h34_ := eqb_f h34
          have h34__ := neb_t h34
          have F14 := And.intro F12 (And.intro h34 (And.intro h34_ h34__))
          refine CF (by simp [F14] <;> omega) ?_
          refine SQ [] [none, none] fun _ _ g r => ?_
          try simp [F14]
          and_intros <;> first | exact g _ (by kernel_rfl) | refine r _ _ _ ?_ | omega | (simp [maxLen, F14] <;> omega)
          refine WK [(3, AV.ptr 0 0), (5, AV.ptr 1 0), (7, AV.ptr 5 0), (47, Iz v76), (82, AV.bool (v76 == 6))] [(0, c_law23_CasesVotes v1 v2 v3 v4 v5 v6 v7 v8 v9 v10 v11 v12 v13), (1, .cells [Lz v18, Iz v77]), (5, .cells [Iz v34.Author, Iz v34.Number, AV.str v34.Prev, Iz v34.Time, Iz v34.Kind, Iz v34.A, Iz v34.B, Iz v34.C, AV.lst false false (List.map (AV.int .i64) v34.Lst), AV.lst false false (List.map api_Pin.av v34.Pins), AV.str v34.Body, Iz v34.Seal_Key, AV.str v34.Seal_Digest])] 6 (by simp [F14]) (by simp [F14]) ?_
          by_cases h35 : v76 = 6
          ·replace hF := ite_t h35 hF
           have h35q : v76 = 6 := h35
           have h35_ := eqb_t h35q
           have h35__ := neb_f h35q
           have F15 := And.intro F14 (And.intro h35_ (And.intro h35__ h35q))
           refine CT (by simp [F15] <;> omega) ?_
           refine RG [] [none, none, none, none, none] fun _ _ g r => ?_
           try simp [F15]
           and_intros
           try any_goals first | omega | (simp [maxLen, F15] <;> omega)
           obtain ⟨v86, v87, h36, hF⟩ := bnd2_elim hF
           refine aCall_l (w_made_Dice_Of k _ _ _ _ _ h36) (by simp) [1] [] [1] rfl (.cons (.same (by simp [F15])) (.cons (Coe.fl (by simp [F15])) .nil)) (by simp [F15]) (by decide) (by simp) (by simp) (.inl rfl) (by simp) (by simp) ?_
           try simp [F15]
           and_intros <;> first | exact g _ (by kernel_rfl) | refine r _ _ _ ?_ | omega | (simp [maxLen, F15] <;> omega)
           refine hK615 _ _ _ ?_
           refine RN h0 [(0, 0), (1, 5)] [(3, AV.ptr 0 0), (7, AV.ptr 1 0)] [(0, c_law23_CasesVotes v1 v2 v3 v4 v5 v6 v7 v8 v9 v10 v11 v12 v13), (1, .cells [Iz v86, Iz v34.Number, AV.str v34.Prev, Iz v34.Time, Iz v34.Kind, Iz v34.A, Iz v34.B, Iz v34.C, AV.lst false false (List.map (AV.int .i64) v34.Lst), AV.lst false false (List.map api_Pin.av v34.Pins), AV.str v34.Body, Iz v34.Seal_Key, AV.str v34.Seal_Digest])] 2 (by simp [F15]) (by simp [F15]) ?_
           exact JN ((v86, v34.Kind, v34.A, v34.B, v34.C, v34.Lst, v34.Body, v34.Seal_Key)) hF (by simp [F15]) (by simp [F15])
          ·replace hF := ite_f h35 hF
           have h35_ := eqb_f h35
           have h35__ := neb_t h35
           have F16 := And.intro F14 (And.intro h35 (And.intro h35_ h35__))
           refine CF (by simp [F16] <;> omega) ?_
           refine SQ [] [none, none] fun _ _ g r => ?_
           try simp [F16]
           and_intros <;> first | exact g _ (by kernel_rfl) | refine r _ _ _ ?_ | omega | (simp [maxLen, F16] <;> omega)
           refine WK [(3, AV.ptr 0 0), (7, AV.ptr 5 0), (88, AV.bool (v76 == 7))] [(0, c_law23_CasesVotes v1 v2 v3 v4 v5 v6 v7 v8 v9 v10 v11 v12 v13), (5, .cells [Iz v34.Author, Iz v34.Number, AV.str v34.Prev, Iz v34.Time, Iz v34.Kind, Iz v34.A, Iz v34.B, Iz v34.C, AV.lst false false (List.map (AV.int .i64) v34.Lst), AV.lst false false (List.map api_Pin.av v34.Pins), AV.str v34.Body, Iz v34.Seal_Key, AV.str v34.Seal_Digest])] 6 (by simp [F16]) (by simp [F16]) ?_
           by_cases h37 : v76 = 7
           ·replace hF := ite_t h37 hF
            have h37q : v76 = 7 := h37
            have h37_ := eqb_t h37q
            have h37__ := neb_f h37q
            have F17 := And.intro F16 (And.intro h37_ (And.intro h37__ h37q))
            refine CT (by simp [F17] <;> omega) ?_
            refine RG [] [none, none, none] fun _ _ g r => ?_
            try simp [F17]
            and_intros <;> first | exact g _ (by kernel_rfl) | refine r _ _ _ ?_ | omega | (simp [maxLen, F17] <;> omega)
            refine hK615 _ _ _ ?_
            refine RN h0 [(0, 0), (1, 5)] [(3, AV.ptr 0 0), (7, AV.ptr 1 0)] [(0, c_law23_CasesVotes v1 v2 v3 v4 v5 v6 v7 v8 v9 v10 v11 v12 v13), (1, .cells [Iz v34.Author, Iz v34.Number, AV.str v34.Prev, Iz v34.Time, Iz v34.Kind, Iz v34.A, Iz v34.B, Iz v34.C, AV.lst false false (List.map (AV.int .i64) v34.Lst), AV.lst false false (List.map api_Pin.av v34.Pins), AV.str v34.Body, Iz 9, AV.str v34.Seal_Digest])] 2 (by simp [F17]) (by simp [F17]) ?_
            exact JN ((v34.Author, v34.Kind, v34.A, v34.B, v34.C, v34.Lst, v34.Body, 9)) hF (by simp [F17]) (by simp [F17])
           ·replace hF := ite_f h37 hF
            have h37_ := eqb_f h37
            have h37__ := neb_t h37
            have F18 := And.intro F16 (And.intro h37 (And.intro h37_ h37__))
            refine CF (by simp [F18] <;> omega) ?_
            refine AW.skip ?_
            refine hK615 _ _ _ ?_
            refine RN h0 [(0, 0), (1, 5)] [(3, AV.ptr 0 0), (7, AV.ptr 1 0)] [(0, c_law23_CasesVotes v1 v2 v3 v4 v5 v6 v7 v8 v9 v10 v11 v12 v13), (1, .cells [Iz v34.Author, Iz v34.Number, AV.str v34.Prev, Iz v34.Time, Iz v34.Kind, Iz v34.A, Iz v34.B, Iz v34.C, AV.lst false false (List.map (AV.int .i64) v34.Lst), AV.lst false false (List.map api_Pin.av v34.Pins), AV.str v34.Body, Iz v34.Seal_Key, AV.str v34.Seal_Digest])] 2 (by simp [F18]) (by simp [F18]) ?_
            exact JN ((v34.Author, v34.Kind, v34.A, v34.B, v34.C, v34.Lst, v34.Body, v34.Seal_Key)) hF (by simp [F18]) (by simp [F18])
   ·rintro ⟨v35, v36, v37, v38, v39, v40, v41, v42⟩ hF
    try dsimp only at hF
    unfold law23_CasesVotes.J1 at hF
    refine AW.seq fun K479 hK479 => ?_
    refine SQ [] [none] fun _ _ g r => ?_
    try simp [F2]
    and_intros <;> first | exact g _ (by kernel_rfl) | refine r _ _ _ ?_ | omega | (simp [maxLen, F2] <;> omega)
    refine WK [(3, AV.ptr 0 0), (7, AV.ptr 1 0), (8, Iz 0)] [(0, c_law23_CasesVotes v1 v2 v3 v4 v5 v6 v7 v8 v9 v10 v11 v12 v13), (1, .cells [Iz v35, Iz v34.Number, AV.str v34.Prev, Iz v34.Time, Iz v36, Iz v37, Iz v38, Iz v39, Lz v40, AV.lst false false (List.map api_Pin.av v34.Pins), AV.str v41, Iz v42, AV.str v34.Seal_Digest])] 2 (by simp [F2]) (by simp [F2]) ?_
    refine AW.block ?_
    refine AW.loopF (α := (Int × Int × Int × ByteArray × Int × Int × Int × Int × Int × (List Int) × (List api_Pin) × ByteArray × Int × ByteArray)) (fun n (v43, v44, v45, v46, v47, v48, v49, v50, v51, v52, v53, v54, v55, v56) => law23_CasesVotes.L2 k v1 v2 v3 v4 v5 v6 v7 v8 v9 v10 v11 v12 v13 n v43 v44 v45 v46 v47 v48 v49 v50 v51 v52 v53 v54 v55 v56 = some v14) (fun (v43, v44, v45, v46, v47, v48, v49, v50, v51, v52, v53, v54, v55, v56) => [(3, AV.ptr 0 0), (7, AV.ptr 1 0), (8, Iz v43)]) (fun (v43, v44, v45, v46, v47, v48, v49, v50, v51, v52, v53, v54, v55, v56) => [(0, c_law23_CasesVotes v1 v2 v3 v4 v5 v6 v7 v8 v9 v10 v11 v12 v13), (1, .cells [Iz v44, Iz v45, AV.str v46, Iz v47, Iz v48, Iz v49, Iz v50, Iz v51, Lz v52, AV.lst false false (List.map api_Pin.av v53), AV.str v54, Iz v55, AV.str v56])]) 2 k ((0, v35, v34.Number, v34.Prev, v34.Time, v36, v37, v38, v39, v40, v34.Pins, v41, v42, v34.Seal_Digest)) hF (by simp [F2]) (by simp [F2]) (by simp) ?_
    rintro (_|n2) ⟨v43, v44, v45, v46, v47, v48, v49, v50, v51, v52, v53, v54, v55, v56⟩ hF K580 hK580
    ·try dsimp only at hF
     rw [law23_CasesVotes.L2] at hF; cases hF
    try dsimp only at hF
    rw [law23_CasesVotes.L2] at hF
    refine AW.seq fun K582 hK582 => ?_
    refine SQ [] [none, none] fun _ _ g r => ?_
    try simp [F2]
    and_intros <;> first | exact g _ (by kernel_rfl) | refine r _ _ _ ?_ | omega | (simp [maxLen, F2] <;> omega)
    refine WK [(3, AV.ptr 0 0), (7, AV.ptr 1 0), (8, Iz v43), (93, AV.bool (decide (v43 < 2)))] [(0, c_law23_CasesVotes v1 v2 v3 v4 v5 v6 v7 v8 v9 v10 v11 v12 v13), (1, .cells [Iz v44, Iz v45, AV.str v46, Iz v47, Iz v48, Iz v49, Iz v50, Iz v51, Lz v52, AV.lst false false (List.map api_Pin.av v53), AV.str v54, Iz v55, AV.str v56])] 2 (by simp [F2]) (by simp [F2]) ?_
    by_cases h13 : v43 < 2
    ·replace hF := ite_t h13 hF
     have h13_ := h13
     try simp at h13_
     have F19 := And.intro F2 (And.intro h13 h13_)
     refine CT (by simp [F19] <;> omega) ?_
     refine AW.skip ?_
     refine hK582 _ _ _ ?_
     refine AW.seq fun K598 hK598 => ?_
     refine AW.block ?_
     refine SQ [] [none, none, none, none, none, none, none, none] fun _ _ g r => ?_
     try simp [F19]
     and_intros
     try any_goals first | omega | (simp [maxLen, F19] <;> omega)
     obtain ⟨v57, v58, v59, v60, v61, v62, v63, v64, h14, hF⟩ := bnd8_elim hF
     refine AC (w_cases_Of k _ _ _ _ _ _ _ _ _ _ _ _ _ _ _ _ _ _ _ _ _ h14) (.cons (.same (by simp [F19])) .nil) ?_
     try simp [F19]
     and_intros <;> first | exact g _ (by kernel_rfl) | refine r _ _ _ ?_ | omega | (simp [maxLen, F19] <;> omega)
     refine WK [(3, AV.ptr 0 0), (7, AV.ptr 1 0), (8, Iz v43), (9, AV.ptr 2 0), (10, Iz v64)] [(0, c_law23_CasesVotes v1 v2 v3 v4 v5 v6 v7 v8 v9 v10 v11 v12 v13), (1, .cells [Iz v44, Iz v45, AV.str v46, Iz v47, Iz v48, Iz v49, Iz v50, Iz v51, Lz v52, AV.lst false false (List.map api_Pin.av v53), AV.str v54, Iz v55, AV.str v56]), (2, .cells [Iz v57, Iz v58, Iz v59, Iz v60, Iz v61, Lz v62, AV.lst false false (List.map api_Pin.av v63)])] 3 (by simp [F19]) (by simp [F19]) ?_
     refine SQ [] [none, none, none, none, none, none, none, none] fun _ _ g r => ?_
     try simp [F19]
     and_intros
     try any_goals first | omega | (simp [maxLen, F19] <;> omega)
     obtain ⟨v65, v66, v67, v68, v69, v70, v71, v72, h15, hF⟩ := bnd8_elim hF
     refine AC (w_ref23_Of k _ _ _ _ _ _ _ _ _ _ _ _ _ _ _ _ _ _ _ _ _ h15) (.cons (.same (by simp [F19])) .nil) ?_
     try simp [F19]
     and_intros <;> first | exact g _ (by kernel_rfl) | refine r _ _ _ ?_ | omega | (simp [maxLen, F19] <;> omega)
     refine WK [(3, AV.ptr 0 0), (7, AV.ptr 1 0), (8, Iz v43), (9, AV.ptr 2 0), (10, Iz v64), (11, AV.ptr 3 0), (12, Iz v72)] [(0, c_law23_CasesVotes v1 v2 v3 v4 v5 v6 v7 v8 v9 v10 v11 v12 v13), (1, .cells [Iz v44, Iz v45, AV.str v46, Iz v47, Iz v48, Iz v49, Iz v50, Iz v51, Lz v52, AV.lst false false (List.map api_Pin.av v53), AV.str v54, Iz v55, AV.str v56]), (2, .cells [Iz v57, Iz v58, Iz v59, Iz v60, Iz v61, Lz v62, AV.lst false false (List.map api_Pin.av v63)]), (3, .cells [Iz v65, Iz v66, Iz v67, Iz v68, Iz v69, Lz v70, AV.lst false false (List.map api_Pin.av v71)])] 4 (by simp [F19]) (by simp [F19]) ?_
     refine AW.seq fun K606 hK606 => ?_
     refine SQ [] [none, none, none, none, some (109, false), some (109, false), some (109, false), some (109, false), some (109, false), none, none, some (116, false), some (116, false), some (116, false), some (116, false), some (116, false), none, none, some (123, false), some (123, false), some (123, false), some (123, false), some (123, false), some (123, false), none] fun _ _ g r => ?_
     by_cases h16 : v64 ≠ v72
     ·replace hF := ite_t h16 hF
      have h16_ := eqb_f h16
      have h16__ := neb_t h16
      have F20 := And.intro F19 (And.intro h16 (And.intro h16_ h16__))
      try simp [F20]
      and_intros <;> first | exact g _ (by kernel_rfl) | refine r _ _ _ ?_ | omega | (simp [maxLen, F20] <;> omega)
      refine WK [(3, AV.ptr 0 0), (7, AV.ptr 1 0), (8, Iz v43), (130, AV.bool true)] [(0, c_law23_CasesVotes v1 v2 v3 v4 v5 v6 v7 v8 v9 v10 v11 v12 v13), (1, .cells [Iz v44, Iz v45, AV.str v46, Iz v47, Iz v48, Iz v49, Iz v50, Iz v51, Lz v52, AV.lst false false (List.map api_Pin.av v53), AV.str v54, Iz v55, AV.str v56])] 4 (by simp [F20]) (by simp [F20]) ?_
      refine CT (by simp [F20]) ?_
      refine SQ [] [none] fun _ _ g r => ?_
      try simp [F20]
      and_intros <;> first | exact g _ (by kernel_rfl) | refine r _ _ _ ?_ | omega | (simp [maxLen, F20] <;> omega)
      refine WK [(4, AV.bool false)] [] 4 (by simp [F20]) (by simp [F20]) ?_
      simp only [Option.some.injEq] at hF
      subst hF
      refine AW.ret (hQ _ _ _ ?_ (matchO_0 ?_)).1
      ·simp [Try.f3, F20]
      ·simp [F20]
     ·replace hF := ite_f h16 hF
      have h16q : v64 = v72 := Classical.not_not.1 h16
      have h16_ := eqb_t h16q
      have h16__ := neb_f h16q
      by_cases h17 : v57 ≠ v65
      ·replace hF := ite_t h17 hF
       have h17_ := eqb_f h17
       have h17__ := neb_t h17
       have F21 := And.intro F19 (And.intro h16_ (And.intro h16__ (And.intro h17 (And.intro h17_ h17__))))
       try simp [F21]
       and_intros <;> first | exact g _ (by kernel_rfl) | refine r _ _ _ ?_ | omega | (simp [maxLen, F21] <;> omega)
       refine WK [(3, AV.ptr 0 0), (7, AV.ptr 1 0), (8, Iz v43), (130, AV.bool true)] [(0, c_law23_CasesVotes v1 v2 v3 v4 v5 v6 v7 v8 v9 v10 v11 v12 v13), (1, .cells [Iz v44, Iz v45, AV.str v46, Iz v47, Iz v48, Iz v49, Iz v50, Iz v51, Lz v52, AV.lst false false (List.map api_Pin.av v53), AV.str v54, Iz v55, AV.str v56])] 4 (by simp [F21]) (by simp [F21]) ?_
       refine CT (by simp [F21]) ?_
       refine SQ [] [none] fun _ _ g r => ?_
       try simp [F21]
       and_intros <;> first | exact g _ (by kernel_rfl) | refine r _ _ _ ?_ | omega | (simp [maxLen, F21] <;> omega)
       refine WK [(4, AV.bool false)] [] 4 (by simp [F21]) (by simp [F21]) ?_
       simp only [Option.some.injEq] at hF
       subst hF
       refine AW.ret (hQ _ _ _ ?_ (matchO_0 ?_)).1
       ·simp [Try.f3, F21]
       ·simp [F21]
      ·replace hF := ite_f h17 hF
       have h17q : v57 = v65 := Classical.not_not.1 h17
       have h17_ := eqb_t h17q
       have h17__ := neb_f h17q
       obtain ⟨v73, h18, hF⟩ := let1_elim hF
       have h18_ := h18
       try simp at h18_
       by_cases h19 : (!v73) = true
       ·replace hF := ite_t h19 hF
        have h19_ := h19
        try simp at h19_
        have F22 := And.intro F19 (And.intro h16_ (And.intro h16__ (And.intro h17_ (And.intro h17__ (And.intro h18 (And.intro h18_ (And.intro h19 h19_)))))))
        try simp [F22]
        and_intros <;> first | exact g _ (by kernel_rfl) | refine r _ _ _ ?_ | omega | (simp [maxLen, F22] <;> omega)
        refine WK [(3, AV.ptr 0 0), (7, AV.ptr 1 0), (8, Iz v43), (130, AV.bool true)] [(0, c_law23_CasesVotes v1 v2 v3 v4 v5 v6 v7 v8 v9 v10 v11 v12 v13), (1, .cells [Iz v44, Iz v45, AV.str v46, Iz v47, Iz v48, Iz v49, Iz v50, Iz v51, Lz v52, AV.lst false false (List.map api_Pin.av v53), AV.str v54, Iz v55, AV.str v56])] 4 (by simp [F22]) (by simp [F22]) ?_
        refine CT (by simp [F22]) ?_
        refine SQ [] [none] fun _ _ g r => ?_
        try simp [F22]
        and_intros <;> first | exact g _ (by kernel_rfl) | refine r _ _ _ ?_ | omega | (simp [maxLen, F22] <;> omega)
        refine WK [(4, AV.bool false)] [] 4 (by simp [F22]) (by simp [F22]) ?_
        simp only [Option.some.injEq] at hF
        subst hF
        refine AW.ret (hQ _ _ _ ?_ (matchO_0 ?_)).1
        ·simp [Try.f3, F22]
        ·simp [F22]
       ·replace hF := ite_f h19 hF
        have h19_ := h19
        try simp at h19_
        have F23 := And.intro F19 (And.intro h16_ (And.intro h16__ (And.intro h17_ (And.intro h17__ (And.intro h18 (And.intro h18_ (And.intro h19 h19_)))))))
        try simp [F23]
        and_intros
        try any_goals first | omega | (simp [maxLen, F23] <;> omega)
        obtain ⟨v74, h20, hF⟩ := bnd1_elim hF
        refine AC (w_ref23_Order k _ _ _ _ _ h20) (.cons (.same (by simp [F23])) (.cons (.same (by simp [F23])) .nil)) ?_
        try simp [F23]
        and_intros <;> first | exact g _ (by kernel_rfl) | refine r _ _ _ ?_ | omega | (simp [maxLen, F23] <;> omega)
        refine WK [(3, AV.ptr 0 0), (7, AV.ptr 1 0), (8, Iz v43), (130, AV.bool (v74 != 0))] [(0, c_law23_CasesVotes v1 v2 v3 v4 v5 v6 v7 v8 v9 v10 v11 v12 v13), (1, .cells [Iz v44, Iz v45, AV.str v46, Iz v47, Iz v48, Iz v49, Iz v50, Iz v51, Lz v52, AV.lst false false (List.map api_Pin.av v53), AV.str v54, Iz v55, AV.str v56])] 4 (by simp [F23]) (by simp [F23]) ?_
        by_cases h21 : v74 ≠ 0
        ·replace hF := ite_t h21 hF
         have h21_ := eqb_f h21
         have h21__ := neb_t h21
         have F24 := And.intro F23 (And.intro h21 (And.intro h21_ h21__))
         refine CT (by simp [F24] <;> omega) ?_
         refine SQ [] [none] fun _ _ g r => ?_
         try simp [F24]
         and_intros <;> first | exact g _ (by kernel_rfl) | refine r _ _ _ ?_ | omega | (simp [maxLen, F24] <;> omega)
         refine WK [(4, AV.bool false)] [] 4 (by simp [F24]) (by simp [F24]) ?_
         simp only [Option.some.injEq] at hF
         subst hF
         refine AW.ret (hQ _ _ _ ?_ (matchO_0 ?_)).1
         ·simp [Try.f3, F24]
         ·simp [F24]
        ·replace hF := ite_f h21 hF
         have h21q : v74 = 0 := Classical.not_not.1 h21
         have h21_ := eqb_t h21q
         have h21__ := neb_f h21q
         have F25 := And.intro F23 (And.intro h21_ (And.intro h21__ h21q))
         refine CF (by simp [F25] <;> omega) ?_
         refine AW.skip ?_
         refine hK606 _ _ _ ?_
         refine RG [] [none, none] fun _ _ g r => ?_
         try simp [F25]
         and_intros <;> first | exact g _ (by kernel_rfl) | refine r _ _ _ ?_ | omega | (simp [maxLen, F25] <;> omega)
         refine hK598 _ _ _ ?_
         refine WK [(3, AV.ptr 0 0), (7, AV.ptr 1 0), (8, Iz v43)] [(0, c_law23_CasesVotes v1 v2 v3 v4 v5 v6 v7 v8 v9 v10 v11 v12 v13), (1, c_law23_CasesVotes v1 v2 v3 v4 v5 v6 v7 v8 v9 v10 v11 v12 v13)] 4 (by simp [F25]) (by simp [F25]) ?_
         refine RG [] [none, none, none] fun _ _ g r => ?_
         try simp [F25]
         and_intros <;> first | exact g _ (by kernel_rfl) | refine r _ _ _ ?_ | omega | (simp [maxLen, F25] <;> omega)
         refine hK580 _ _ _ ?_
         refine RN h0 [(0, 0), (1, 1)] [(3, AV.ptr 0 0), (7, AV.ptr 1 0), (8, Iz (IntKind.wrap .i64 (v43 + 1)))] [(0, c_law23_CasesVotes v1 v2 v3 v4 v5 v6 v7 v8 v9 v10 v11 v12 v13), (1, c_law23_CasesVotes v1 v2 v3 v4 v5 v6 v7 v8 v9 v10 v11 v12 v13)] 2 (by simp [F25]) (by simp [F25]) ?_
         exact NX (k' := n2) ((IntKind.wrap .i64 (v43 + 1), v1, v2, v3, v4, v5, v6, v7, v8, v9, v10, v11, v12, v13)) hF (by simp [F25]) (by simp [F25])
    ·replace hF := ite_f h13 hF
     have h13_ := h13
     try simp at h13_
     have F26 := And.intro F2 (And.intro h13 h13_)
     refine CF (by simp [F26] <;> omega) ?_
     refine AW.exit ?_
     try simp
     refine hK479 _ _ _ ?_
     refine SQ [] [none, none] fun _ _ g r => ?_
     try simp [F26]
     and_intros
     try any_goals first | omega | (simp [maxLen, F26] <;> omega)
     obtain ⟨v75, h22, hF⟩ := bnd1_elim hF
     refine AC (w_law23_awake k _ h22) .nil ?_
     try simp [F26]
     and_intros <;> first | exact g _ (by kernel_rfl) | refine r _ _ _ ?_ | omega | (simp [maxLen, F26] <;> omega)
     refine WK [(4, AV.bool v75)] [] 2 (by simp [F26]) (by simp [F26]) ?_
     simp only [Option.some.injEq] at hF
     subst hF
     refine AW.ret (hQ _ _ _ ?_ (matchO_0 ?_)).1
     ·simp [Try.f3, F26]
     ·simp [F26]
end Go.TF
