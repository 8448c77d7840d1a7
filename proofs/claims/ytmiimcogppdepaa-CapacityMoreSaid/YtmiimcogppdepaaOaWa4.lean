/- Walks: the Go text computes the Lean functions (printed by a program of our own). -/
import Derived.Test.YtmiimcogppdepaaOaPu
import Derived.Test.YtmiimcogppdepaaOaAbsT
import Derived.Test.YtmiimcogppdepaaOaWa0
import Derived.Test.YtmiimcogppdepaaOaWa1
import Derived.Test.YtmiimcogppdepaaOaWa2
import Derived.Test.YtmiimcogppdepaaOaWa3
set_option linter.unusedVariables false
set_option linter.unusedSimpArgs false
set_option maxRecDepth 100000
set_option maxHeartbeats 4000000
namespace Go.TF
open Go Go.Abs Go.Proofs Go.Proofs.YtmiimcogppdepaaOaT
abbrev c_made_Dice_Graph_o  : AObj := .cells [Iz 0, AV.slc 2 0 3 (([] : List api_Edge).length) false, AV.slc 3 0 1 (([] : List Int).length) false]
abbrev c_made_Dice_Graph_o1  : AObj := .cells [Iz 0, AV.lst true true (List.map api_Edge.av ([] : List api_Edge)), AV.lst true true (List.map (AV.int .i64) ([] : List Int))]
theorem w_made_Dice_Graph_o (k : Nat) (v0 : (List Int)) (v1 : Int) (v2 : Int) (v3 : (List api_Edge)) (v4 : (List Int)) (v5 : Int) (hF : made_Dice_Graph_o k v0 v1 = some (v2, v3, v4, v5)) :
  FCall Try.prog 12 [AV.ptr 0 0] [.cells [AV.lst false false (List.map (AV.int .i64) v0), AV.int .i64 v1]] (AV.agg [AV.int .i64 v2, AV.slc 1 0 3 v3.length false, AV.slc 2 0 1 v4.length false]) [some (.cells [AV.lst false false (List.map (AV.int .i64) v0), AV.int .i64 v5]), some (.grow (flatA (List.map api_Edge.av v3))), some (.grow (List.map (AV.int .i64) v4))] := by
 unfold made_Dice_Graph_o at hF
 refine EN Try.func12 ?_
 intro c0 w0 Q h0 hQ
 refine WK [(0, AV.ptr 0 0)] [(0, .cells [Lz v0, Iz v1])] 1 (by simp) (by simp) ?_
 refine SQ [] [none] fun _ _ g r => ?_
 try simp
 and_intros <;> first | exact g _ (by kernel_rfl) | refine r _ _ _ ?_ | omega | (simp [maxLen] <;> omega)
 refine WK [(0, AV.ptr 0 0), (2, AV.ptr 1 0)] [(0, .cells [Lz v0, Iz v1]), (1, c_made_Dice_Graph_o1 )] 2 (by simp) (by simp) ?_
 refine SQ [] [none, none, none, none, none, none] fun _ _ g r => ?_
 try simp
 and_intros
 try any_goals first | omega | (simp [maxLen] <;> omega)
 obtain ⟨v6, v7, h1, hF⟩ := bnd2_elim hF
 refine aCall_l (w_made_Dice_Next k _ _ _ _ _ h1) (by simp) [0] [] [0] rfl (.cons (.same (by simp)) (.cons (.same (by simp)) .nil)) (by simp) (by decide) (by simp) (by simp) (.inl rfl) (by simp) (by simp) ?_
 try simp
 and_intros <;> first | exact g _ (by kernel_rfl) | refine r _ _ _ ?_ | omega | (simp [maxLen] <;> omega)
 refine WK [(0, AV.ptr 0 0), (2, AV.ptr 1 0), (3, AV.ptr 2 0)] [(0, .cells [Lz v0, Iz v7]), (1, c_made_Dice_Graph_o1 ), (2, .cells [Iz (IntKind.wrap .i64 (2 + v6)), AV.lst true true (List.map api_Edge.av ([] : List api_Edge)), AV.lst true true (List.map (AV.int .i64) ([] : List Int))])] 3 (by simp) (by simp) ?_
 refine AW.midF (α := Int) (fun v8 => made_Dice_Graph_o.J1 k v0 v7 v8 = some (v2, v3, v4, v5)) (fun v8 => [(0, AV.ptr 0 0), (2, AV.ptr 1 0), (3, AV.ptr 2 0)]) (fun v8 => [(0, .cells [Lz v0, Iz v7]), (1, c_made_Dice_Graph_o1 ), (2, .cells [Iz v8, AV.lst true true (List.map api_Edge.av ([] : List api_Edge)), AV.lst true true (List.map (AV.int .i64) ([] : List Int))])]) 3 (fun K210 hK210 => ?_) ?_
 ·refine SQ [] [none, none, none, none, none, none] fun _ _ g r => ?_
  try simp
  and_intros <;> first | exact g _ (by kernel_rfl) | refine r _ _ _ ?_ | omega | (simp [maxLen] <;> omega)
  refine WK [(0, AV.ptr 0 0), (2, AV.ptr 1 0), (3, AV.ptr 2 0), (16, AV.bool ((v0.length : Int) == 0))] [(0, .cells [Lz v0, Iz v7]), (1, c_made_Dice_Graph_o1 ), (2, .cells [Iz (IntKind.wrap .i64 (2 + v6)), AV.lst true true (List.map api_Edge.av ([] : List api_Edge)), AV.lst true true (List.map (AV.int .i64) ([] : List Int))])] 3 (by simp) (by simp) ?_
  by_cases h12 : (v0.length : Int) = 0
  ·replace hF := ite_t h12 hF
   have h12q : (v0.length : Int) = 0 := h12
   have h12_ := eqb_t h12q
   have h12__ := neb_f h12q
   have F1 := And.intro h12_ (And.intro h12__ h12q)
   refine CT (by simp [F1] <;> omega) ?_
   refine RG [] [none, none] fun _ _ g r => ?_
   try simp [F1]
   and_intros <;> first | exact g _ (by kernel_rfl) | refine r _ _ _ ?_ | omega | (simp [maxLen, F1] <;> omega)
   refine hK210 _ _ _ ?_
   exact JN (4) hF (by simp [F1]) (by simp [F1])
  ·replace hF := ite_f h12 hF
   have h12_ := eqb_f h12
   have h12__ := neb_t h12
   have F2 := And.intro h12 (And.intro h12_ h12__)
   refine CF (by simp [F2] <;> omega) ?_
   refine AW.skip ?_
   refine hK210 _ _ _ ?_
   exact JN (IntKind.wrap .i64 (2 + v6)) hF (by simp [F2]) (by simp [F2])
 ·rintro v8 hF
  try dsimp only at hF
  unfold made_Dice_Graph_o.J1 at hF
  refine AW.midF (α := (Int × (List Int))) (fun (v9, v10) => made_Dice_Graph_o.J2 k v0 v8 v9 v10 = some (v2, v3, v4, v5)) (fun (v9, v10) => [(0, AV.ptr 0 0), (2, AV.ptr 1 0), (3, AV.ptr 2 0)]) (fun (v9, v10) => [(0, .cells [Lz v0, Iz v9]), (1, c_made_Dice_Graph_o1 ), (2, .cells [Iz v8, AV.lst true true (List.map api_Edge.av ([] : List api_Edge)), AV.slc 3 0 1 v10.length false]), (3, .grow (List.map (AV.int .i64) v10))]) 4 (fun K207 hK207 => ?_) ?_
  ·refine SQ [] [none, none] fun _ _ g r => ?_
   try simp
   and_intros
   try any_goals first | omega | (simp [maxLen] <;> omega)
   obtain ⟨v32, v33, h9, hF⟩ := bnd2_elim hF
   refine aCall_l (w_made_Dice_One k _ _ _ _ _ h9) (by simp) [0] [] [0] rfl (.cons (.same (by simp)) (.cons (.same (by simp)) .nil)) (by simp) (by decide) (by simp) (by simp) (.inl rfl) (by simp) (by simp) ?_
   try simp
   and_intros <;> first | exact g _ (by kernel_rfl) | refine r _ _ _ ?_ | omega | (simp [maxLen] <;> omega)
   refine WK [(0, AV.ptr 0 0), (2, AV.ptr 1 0), (3, AV.ptr 2 0), (19, AV.bool v32)] [(0, .cells [Lz v0, Iz v33]), (1, c_made_Dice_Graph_o1 ), (2, .cells [Iz v8, AV.lst true true (List.map api_Edge.av ([] : List api_Edge)), AV.lst true true (List.map (AV.int .i64) ([] : List Int))])] 3 (by simp) (by simp) ?_
   by_cases h10 : v32 = true
   ·replace hF := ite_t h10 hF
    have h10_ := h10
    try simp at h10_
    refine CT (by simp [h10, h10_] <;> omega) ?_
    refine RG [24] [none, none, none, none, none, none, none] fun _ _ g r => ?_
    try simp [h10, h10_]
    and_intros
    try any_goals first | omega | (simp [h10, h10_, maxLen] <;> omega)
    obtain ⟨v34, v35, h11, hF⟩ := bnd2_elim hF
    refine aCall_l (w_made_Dice_Next k _ _ _ _ _ h11) (by simp) [0] [] [0] rfl (.cons (.same (by simp [h10, h10_])) (.cons (.same (by simp [h10, h10_])) .nil)) (by simp [h10, h10_]) (by decide) (by simp) (by simp) (.inl rfl) (by simp) (by simp) ?_
    try simp [h10, h10_]
    and_intros <;> first | exact g _ (by kernel_rfl) | refine r _ _ _ ?_ | omega | (simp [h10, h10_, maxLen] <;> omega)
    refine hK207 _ _ _ ?_
    refine Can.weak [(0, AV.ptr 0 0), (2, AV.ptr 1 0), (3, AV.ptr 2 0)] [(0, .cells [Lz v0, Iz v35]), (1, c_made_Dice_Graph_o1 ), (2, .cells [Iz v8, AV.lst true true (List.map api_Edge.av ([] : List api_Edge)), AV.slc 3 0 1 (([v34] : List Int).length) true]), (3, .cells (List.map (AV.int .i64) ([v34] : List Int)))] 4 (by simp [h10, h10_]) (by simp [h10, h10_]) (by simp) ?_
    refine Can.flg [] [(2, .cells [Iz v8, AV.lst true true (List.map api_Edge.av ([] : List api_Edge)), AV.slc 3 0 1 (([v34] : List Int).length) false]), (3, .grow (List.map (AV.int .i64) ([v34] : List Int)))] trivial ⟨⟨AObj.cells [Iz v8, AV.lst true true (List.map api_Edge.av ([] : List api_Edge)), AV.slc 3 0 1 (([v34] : List Int).length) true], by simp [h10, h10_], (.mk (.cons (.same _) (.cons (.same _) (.cons .slc .nil))))⟩, ⟨AObj.cells (List.map (AV.int .i64) ([v34] : List Int)), by simp [h10, h10_], (.gr (by simp [h10, h10_]))⟩, trivial⟩ (by simp) ?_
    exact JN ((v35, ([v34] : List Int))) hF (by simp [h10, h10_]) (by simp [h10, h10_])
   ·replace hF := ite_f h10 hF
    have h10_ := h10
    try simp at h10_
    refine CF (by simp [h10, h10_] <;> omega) ?_
    refine AW.skip ?_
    refine hK207 _ _ _ ?_
    refine Can.ownC 2 2 1 true (cs := [Iz v8, AV.lst true true (List.map api_Edge.av ([] : List api_Edge)), AV.lst true true (List.map (AV.int .i64) ([] : List Int))]) (by simp [h10, h10_]) (by simp) ?_
    exact JN ((v33, ([] : List Int))) hF (by simp [h10, h10_]) (by simp [h10, h10_])
  ·rintro ⟨v9, v10⟩ hF
   try dsimp only at hF
   unfold made_Dice_Graph_o.J2 at hF
   refine AW.seq fun K159 hK159 => ?_
   refine SQ [] [none, none, none] fun _ _ g r => ?_
   try simp
   and_intros
   try any_goals first | omega | (simp [maxLen] <;> omega)
   obtain ⟨v11, v12, h2, hF⟩ := bnd2_elim hF
   refine aCall_l (w_made_Dice_Next k _ _ _ _ _ h2) (by simp) [0] [] [0] rfl (.cons (.same (by simp)) (.cons (.same (by simp)) .nil)) (by simp) (by decide) (by simp) (by simp) (.inl rfl) (by simp) (by simp) ?_
   try simp
   and_intros <;> first | exact g _ (by kernel_rfl) | refine r _ _ _ ?_ | omega | (simp [maxLen] <;> omega)
   refine WK [(0, AV.ptr 0 0), (2, AV.ptr 1 0), (3, AV.ptr 2 0), (4, Iz v11)] [(0, .cells [Lz v0, Iz v12]), (1, c_made_Dice_Graph_o1 ), (2, .cells [Iz v8, AV.lst true true (List.map api_Edge.av ([] : List api_Edge)), AV.slc 3 0 1 v10.length false]), (3, .grow (List.map (AV.int .i64) v10))] 4 (by simp) (by simp) ?_
   refine AW.block ?_
   refine AW.ownC 1 1 3 true (cs := [Iz 0, AV.lst true true (List.map api_Edge.av ([] : List api_Edge)), AV.lst true true (List.map (AV.int .i64) ([] : List Int))]) (by simp) (by simp) ?_
   refine AW.ownC 1 2 1 true (cs := [Iz 0, AV.slc 4 0 3 (([] : List api_Edge).length) false, AV.lst true true (List.map (AV.int .i64) ([] : List Int))]) (by simp) (by simp) ?_
   refine AW.ownC 2 1 3 true (cs := [Iz v8, AV.lst true true (List.map api_Edge.av ([] : List api_Edge)), AV.slc 3 0 1 v10.length false]) (by simp) (by simp) ?_
   refine AW.rnm (m := 1) h0 [(0, 0), (1, 1), (2, 4), (3, 5), (4, 2), (5, 6), (6, 3)] [(0, AV.ptr 0 0), (2, AV.ptr 1 0), (3, AV.ptr 4 0), (4, Iz v11)] [(0, .cells [Lz v0, Iz v12]), (1, c_made_Dice_Graph_o ), (2, .grow (flatA (List.map api_Edge.av ([] : List api_Edge)))), (3, .grow (List.map (AV.int .i64) ([] : List Int))), (4, .cells [Iz v8, AV.slc 5 0 3 (([] : List api_Edge).length) false, AV.slc 6 0 1 v10.length false]), (5, .grow (flatA (List.map api_Edge.av ([] : List api_Edge)))), (6, .grow (List.map (AV.int .i64) v10))] 7 (by decide) (by decide) (by decide) rfl (by simp) (by simp) ?_
   refine AW.loopF (α := (Int × Int × Int × (List api_Edge) × (List Int))) (fun n (v13, v14, v15, v16, v17) => made_Dice_Graph_o.L3 k v0 n v13 v14 v15 v16 v17 = some (v2, v3, v4, v5)) (fun (v13, v14, v15, v16, v17) => [(0, AV.ptr 0 0), (2, AV.ptr 1 0), (3, AV.ptr 4 0), (4, Iz v13)]) (fun (v13, v14, v15, v16, v17) => [(0, .cells [Lz v0, Iz v14]), (1, c_made_Dice_Graph_o ), (2, .grow (flatA (List.map api_Edge.av ([] : List api_Edge)))), (3, .grow (List.map (AV.int .i64) ([] : List Int))), (4, .cells [Iz v15, AV.slc 5 0 3 v16.length false, AV.slc 6 0 1 v17.length false]), (5, .grow (flatA (List.map api_Edge.av v16))), (6, .grow (List.map (AV.int .i64) v17))]) 7 k ((v11, v12, v8, ([] : List api_Edge), v10)) hF (by simp) (by simp) (by simp) ?_
   rintro (_|n3) ⟨v13, v14, v15, v16, v17⟩ hF K194 hK194
   ·try dsimp only at hF
    rw [made_Dice_Graph_o.L3] at hF; cases hF
   try dsimp only at hF
   rw [made_Dice_Graph_o.L3] at hF
   refine AW.seq fun K196 hK196 => ?_
   refine SQ [] [none, none] fun _ _ g r => ?_
   try simp
   and_intros <;> first | exact g _ (by kernel_rfl) | refine r _ _ _ ?_ | omega | (simp [maxLen] <;> omega)
   refine WK [(0, AV.ptr 0 0), (2, AV.ptr 1 0), (3, AV.ptr 4 0), (4, Iz v13), (29, AV.bool (decide (0 < v13)))] [(0, .cells [Lz v0, Iz v14]), (1, c_made_Dice_Graph_o ), (2, .grow (flatA (List.map api_Edge.av ([] : List api_Edge)))), (3, .grow (List.map (AV.int .i64) ([] : List Int))), (4, .cells [Iz v15, AV.slc 5 0 3 v16.length false, AV.slc 6 0 1 v17.length false]), (5, .grow (flatA (List.map api_Edge.av v16))), (6, .grow (List.map (AV.int .i64) v17))] 7 (by simp) (by simp) ?_
   by_cases h3 : 0 < v13
   ·replace hF := ite_t h3 hF
    have h3_ := h3
    try simp at h3_
    refine CT (by simp [h3, h3_] <;> omega) ?_
    refine AW.skip ?_
    refine hK196 _ _ _ ?_
    refine AW.midF (α := (Int × Int × (List api_Edge) × (List Int))) (fun (v18, v19, v20, v21) => made_Dice_Graph_o.J4 k v13 (fun v13_ v14_ v15_ v16_ v17_ => made_Dice_Graph_o.L3 k v0 n3 v13_ v14_ v15_ v16_ v17_) v18 v19 v20 v21 = some (v2, v3, v4, v5)) (fun (v18, v19, v20, v21) => [(0, AV.ptr 0 0), (2, AV.ptr 1 0), (3, AV.ptr 4 0), (4, Iz v13)]) (fun (v18, v19, v20, v21) => [(0, .cells [Lz v0, Iz v18]), (1, c_made_Dice_Graph_o ), (2, .grow (flatA (List.map api_Edge.av ([] : List api_Edge)))), (3, .grow (List.map (AV.int .i64) ([] : List Int))), (4, .cells [Iz v19, AV.slc 5 0 3 v20.length false, AV.slc 6 0 1 v21.length false]), (5, .grow (flatA (List.map api_Edge.av v20))), (6, .grow (List.map (AV.int .i64) v21))]) 7 (fun K202 hK202 => ?_) ?_
    ·refine AW.block ?_
     refine SQ [] [none, none, none, none, none, none, none, none, none, none, none, none, none, none, none, none, none, none, none, none] fun _ _ g r => ?_
     try simp [h3, h3_]
     and_intros
     try any_goals first | omega | (simp [h3, h3_, maxLen] <;> omega)
     obtain ⟨v22, v23, h4, hF⟩ := bnd2_elim hF
     refine aCall_l (w_made_Dice_Next k _ _ _ _ _ h4) (by simp) [0] [] [0] rfl (.cons (.same (by simp [h3, h3_])) (.cons (.same (by simp [h3, h3_])) .nil)) (by simp [h3, h3_]) (by decide) (by simp) (by simp) (.inl rfl) (by simp) (by simp) ?_
     try simp [h3, h3_]
     and_intros
     try any_goals first | omega | (simp [h3, h3_, maxLen] <;> omega)
     obtain ⟨v24, v25, h5, hF⟩ := bnd2_elim hF
     refine aCall_l (w_made_Dice_Next k _ _ _ _ _ h5) (by simp) [0] [] [0] rfl (.cons (.same (by simp [h3, h3_])) (.cons (.same (by simp [h3, h3_])) .nil)) (by simp [h3, h3_]) (by decide) (by simp) (by simp) (.inl rfl) (by simp) (by simp) ?_
     try simp [h3, h3_]
     and_intros
     try any_goals first | omega | (simp [h3, h3_, maxLen] <;> omega)
     obtain ⟨v26, v27, h6, hF⟩ := bnd2_elim hF
     refine aCall_l (w_made_Dice_Next k _ _ _ _ _ h6) (by simp) [0] [] [0] rfl (.cons (.same (by simp [h3, h3_])) (.cons (.same (by simp [h3, h3_])) .nil)) (by simp [h3, h3_]) (by decide) (by simp) (by simp) (.inl rfl) (by simp) (by simp) ?_
     try simp [h3, h3_]
     and_intros
     try any_goals first | omega | (simp [h3, h3_, maxLen] <;> omega)
     obtain ⟨v28, v29, v30, v31, h7, hF⟩ := bnd4_elim hF
     refine aCall_l (w_ref11_With_o k _ _ _ _ _ _ _ _ _ _ h7) (by simp) [] [5, 6] [] rfl (.cons (.agg (.cons (.same (by simp [h3, h3_])) (.cons (Coe.l (o := .grow (flatA (List.map api_Edge.av v16))) (by simp [h3, h3_]) rfl (by simp [h3, h3_]) (by simp [noIdsL]) (by simp [h3, h3_]) (by simp [h3, h3_])) (.cons (Coe.l (o := .grow (List.map (AV.int .i64) v17)) (by simp [h3, h3_]) rfl (by simp [h3, h3_]) (by simp [noIdsL]) (by simp [h3, h3_]) (by simp [h3, h3_])) .nil)))) (.cons (.same (by simp [h3, h3_])) .nil)) (by simp [h3, h3_]) (by decide) (by simp) (by simp) (.inr ⟨by simp, by simp⟩) (by simp) (by simp) ?_
     try simp [h3, h3_]
     and_intros <;> first | exact g _ (by kernel_rfl) | refine r _ _ _ ?_ | omega | (simp [h3, h3_, maxLen] <;> omega)
     refine WK [(0, AV.ptr 0 0), (2, AV.ptr 1 0), (3, AV.ptr 4 0), (4, Iz v13), (5, AV.ptr 9 0), (6, Iz v31)] [(0, .cells [Lz v0, Iz v27]), (1, c_made_Dice_Graph_o ), (2, .grow (flatA (List.map api_Edge.av ([] : List api_Edge)))), (3, .grow (List.map (AV.int .i64) ([] : List Int))), (4, .cells [Iz v15, AV.slc 5 0 3 v16.length false, AV.slc 6 0 1 v17.length false]), (5, .grow (flatA (List.map api_Edge.av v16))), (6, .grow (List.map (AV.int .i64) v17)), (7, .grow (flatA (List.map api_Edge.av v29))), (8, .grow (List.map (AV.int .i64) v30)), (9, .cells [Iz v28, AV.slc 7 0 3 v29.length false, AV.slc 8 0 1 v30.length false])] 10 (by simp [h3, h3_]) (by simp [h3, h3_]) ?_
     refine SQ [] [none, none] fun _ _ g r => ?_
     try simp [h3, h3_]
     and_intros <;> first | exact g _ (by kernel_rfl) | refine r _ _ _ ?_ | omega | (simp [h3, h3_, maxLen] <;> omega)
     refine WK [(0, AV.ptr 0 0), (2, AV.ptr 1 0), (3, AV.ptr 4 0), (4, Iz v13), (5, AV.ptr 9 0), (50, AV.bool (v31 == 0))] [(0, .cells [Lz v0, Iz v27]), (1, c_made_Dice_Graph_o ), (2, .grow (flatA (List.map api_Edge.av ([] : List api_Edge)))), (3, .grow (List.map (AV.int .i64) ([] : List Int))), (4, .cells [Iz v15, AV.slc 5 0 3 v16.length false, AV.slc 6 0 1 v17.length false]), (5, .grow (flatA (List.map api_Edge.av v16))), (6, .grow (List.map (AV.int .i64) v17)), (7, .grow (flatA (List.map api_Edge.av v29))), (8, .grow (List.map (AV.int .i64) v30)), (9, .cells [Iz v28, AV.slc 7 0 3 v29.length false, AV.slc 8 0 1 v30.length false])] 10 (by simp [h3, h3_]) (by simp [h3, h3_]) ?_
     by_cases h8 : v31 = 0
     ·replace hF := ite_t h8 hF
      have h8q : v31 = 0 := h8
      have h8_ := eqb_t h8q
      have h8__ := neb_f h8q
      have F3 := And.intro h3 (And.intro h3_ (And.intro h8_ (And.intro h8__ h8q)))
      refine CT (by simp [F3] <;> omega) ?_
      refine RG [] [none, none] fun _ _ g r => ?_
      try simp [F3]
      and_intros <;> first | exact g _ (by kernel_rfl) | refine r _ _ _ ?_ | omega | (simp [maxLen, F3] <;> omega)
      refine hK202 _ _ _ ?_
      refine Can.weak [(0, AV.ptr 0 0), (2, AV.ptr 1 0), (3, AV.ptr 4 0), (4, Iz v13)] [(0, .cells [Lz v0, Iz v27]), (1, c_made_Dice_Graph_o ), (2, .grow (flatA (List.map api_Edge.av ([] : List api_Edge)))), (3, .grow (List.map (AV.int .i64) ([] : List Int))), (4, .cells [Iz v28, AV.slc 7 0 3 v29.length false, AV.slc 8 0 1 v30.length false]), (7, .grow (flatA (List.map api_Edge.av v29))), (8, .grow (List.map (AV.int .i64) v30))] 10 (by simp [F3]) (by simp [F3]) (by simp) ?_
      refine Can.ren (m := 1) h0 [(0, 0), (1, 1), (2, 2), (3, 3), (4, 4), (5, 7), (6, 8)] [(0, AV.ptr 0 0), (2, AV.ptr 1 0), (3, AV.ptr 4 0), (4, Iz v13)] [(0, .cells [Lz v0, Iz v27]), (1, c_made_Dice_Graph_o ), (2, .grow (flatA (List.map api_Edge.av ([] : List api_Edge)))), (3, .grow (List.map (AV.int .i64) ([] : List Int))), (4, .cells [Iz v28, AV.slc 5 0 3 v29.length false, AV.slc 6 0 1 v30.length false]), (5, .grow (flatA (List.map api_Edge.av v29))), (6, .grow (List.map (AV.int .i64) v30))] 7 (by decide) (by decide) (by decide) rfl (by simp [F3]) (by simp [F3]) ?_
      exact JN ((v27, v28, v29, v30)) hF (by simp [F3]) (by simp [F3])
     ·replace hF := ite_f h8 hF
      have h8_ := eqb_f h8
      have h8__ := neb_t h8
      have F4 := And.intro h3 (And.intro h3_ (And.intro h8 (And.intro h8_ h8__)))
      refine CF (by simp [F4] <;> omega) ?_
      refine AW.skip ?_
      refine hK202 _ _ _ ?_
      refine Can.ren (m := 1) h0 [(0, 0), (1, 1), (2, 2), (3, 3), (4, 4), (5, 5), (6, 6)] [(0, AV.ptr 0 0), (2, AV.ptr 1 0), (3, AV.ptr 4 0), (4, Iz v13)] [(0, .cells [Lz v0, Iz v27]), (1, c_made_Dice_Graph_o ), (2, .grow (flatA (List.map api_Edge.av ([] : List api_Edge)))), (3, .grow (List.map (AV.int .i64) ([] : List Int))), (4, .cells [Iz v15, AV.slc 5 0 3 v16.length false, AV.slc 6 0 1 v17.length false]), (5, .grow (flatA (List.map api_Edge.av v16))), (6, .grow (List.map (AV.int .i64) v17))] 7 (by decide) (by decide) (by decide) rfl (by simp [F4]) (by simp [F4]) ?_
      exact JN ((v27, v15, v16, v17)) hF (by simp [F4]) (by simp [F4])
    ·rintro ⟨v18, v19, v20, v21⟩ hF
     try dsimp only at hF
     unfold made_Dice_Graph_o.J4 at hF
     refine RG [] [none, none, none] fun _ _ g r => ?_
     try simp [h3, h3_]
     and_intros <;> first | exact g _ (by kernel_rfl) | refine r _ _ _ ?_ | omega | (simp [h3, h3_, maxLen] <;> omega)
     refine hK194 _ _ _ ?_
     exact NX (k' := n3) ((IntKind.wrap .i64 (v13 - 1), v18, v19, v20, v21)) hF (by simp [h3, h3_]) (by simp [h3, h3_])
   ·replace hF := ite_f h3 hF
    have h3_ := h3
    try simp at h3_
    refine CF (by simp [h3, h3_] <;> omega) ?_
    refine AW.exit ?_
    try simp
    refine hK159 _ _ _ ?_
    refine SQ [] [none, none] fun _ _ g r => ?_
    try simp [h3, h3_]
    and_intros <;> first | exact g _ (by kernel_rfl) | refine r _ _ _ ?_ | omega | (simp [h3, h3_, maxLen] <;> omega)
    refine WK [(2, AV.ptr 1 0)] [(0, .cells [Lz v0, Iz v14]), (1, .cells [Iz v15, AV.slc 5 0 3 v16.length false, AV.slc 6 0 1 v17.length false]), (5, .grow (flatA (List.map api_Edge.av v16))), (6, .grow (List.map (AV.int .i64) v17))] 7 (by simp [h3, h3_]) (by simp [h3, h3_]) ?_
    refine AW.rnm (m := 1) h0 [(0, 0), (1, 5), (2, 6), (3, 1)] [(2, AV.ptr 3 0)] [(0, .cells [Lz v0, Iz v14]), (1, .grow (flatA (List.map api_Edge.av v16))), (2, .grow (List.map (AV.int .i64) v17)), (3, .cells [Iz v15, AV.slc 1 0 3 v16.length false, AV.slc 2 0 1 v17.length false])] 4 (by decide) (by decide) (by decide) rfl (by simp [h3, h3_]) (by simp [h3, h3_]) ?_
    simp only [Option.some.injEq, Prod.mk.injEq] at hF
    obtain ⟨e0, e1, e2, e3⟩ := hF
    subst e0 e1 e2 e3
    refine AW.ret (hQ _ _ _ ?_ (matchO_0 ?_)).1
    ·simp [Try.f12, h3, h3_]
    ·simp [h3, h3_]
theorem w_made_Dice_Of (k : Nat) (v0 : (List Int)) (v1 : Int) (v2 : (List Int)) (v3 : Int) (v4 : Int) (hF : made_Dice_Of k v0 v1 v2 = some (v3, v4)) :
  FCall Try.prog 19 [AV.ptr 0 0, AV.lst false false (List.map (AV.int .i64) v2)] [.cells [AV.lst false false (List.map (AV.int .i64) v0), AV.int .i64 v1]] (AV.int .i64 v3) [some (.cells [AV.lst false false (List.map (AV.int .i64) v0), AV.int .i64 v4])] := by
 unfold made_Dice_Of at hF
 refine EN Try.func19 ?_
 intro c0 w0 Q h0 hQ
 refine WK [(0, AV.ptr 0 0), (1, Lz v2)] [(0, .cells [Lz v0, Iz v1])] 1 (by simp) (by simp) ?_
 refine SQ [] [none] fun _ _ g r => ?_
 try simp
 and_intros <;> first | exact g _ (by kernel_rfl) | refine r _ _ _ ?_ | omega | (simp [maxLen] <;> omega)
 refine WK [(0, AV.ptr 0 0), (1, Lz v2)] [(0, .cells [Lz v0, Iz v1])] 1 (by simp) (by simp) ?_
 refine SQ [] [none, none, none, none, none, none, none, none] fun _ _ g r => ?_
 try simp
 and_intros
 try any_goals first | omega | (simp [maxLen] <;> omega)
 obtain ⟨v5, v6, h1, hF⟩ := bnd2_elim hF
 refine aCall_l (w_made_Dice_Next k _ _ _ _ _ h1) (by simp) [0] [] [0] rfl (.cons (.same (by simp)) (.cons (.same (by simp)) .nil)) (by simp) (by decide) (by simp) (by simp) (.inl rfl) (by simp) (by simp) ?_
 obtain ⟨v7, h2, h3, h4, hF⟩ := idx_elim hF
 have h4_ := get_of h4
 try simp at h4_
 have h3_ := h3
 try simp at h3_
 have F1 := And.intro h2 (And.intro h3 (And.intro h4 (And.intro h4_ h3_)))
 try simp [F1]
 and_intros <;> first | exact g _ (by kernel_rfl) | refine r _ _ _ ?_ | omega | (simp [maxLen, F1] <;> omega)
 refine WK [(4, Iz v7)] [(0, .cells [Lz v0, Iz v6])] 1 (by simp [F1]) (by simp [F1]) ?_
 simp only [Option.some.injEq, Prod.mk.injEq] at hF
 obtain ⟨e0, e1⟩ := hF
 subst e0 e1
 refine AW.ret (hQ _ _ _ ?_ (matchO_0 ?_)).1
 ·simp [Try.f19, F1]
 ·simp [F1]
theorem w_ref11_Put (k : Nat) (v0 : (List Int)) (v1 : Int) (v2 : (List Int)) (hF : ref11_Put k v0 v1 = some v2) :
  FCall Try.prog 40 [AV.lst false false (List.map (AV.int .i64) v0), AV.int .i64 v1] [] (AV.slc 0 0 1 v2.length false) [some (.grow (List.map (AV.int .i64) v2))] := by
 unfold ref11_Put at hF
 refine EN Try.func40 ?_
 intro c0 w0 Q h0 hQ
 refine WK [(0, Lz v0), (1, Iz v1)] [] 0 (by simp) (by simp) ?_
 refine SQ [] [none] fun _ _ g r => ?_
 try simp
 and_intros <;> first | exact g _ (by kernel_rfl) | refine r _ _ _ ?_ | omega | (simp [maxLen] <;> omega)
 refine WK [(0, Lz v0), (1, Iz v1)] [] 0 (by simp) (by simp) ?_
 refine SQ [] [none] fun _ _ g r => ?_
 try simp
 and_intros <;> first | exact g _ (by kernel_rfl) | refine r _ _ _ ?_ | omega | (simp [maxLen] <;> omega)
 refine WK [(0, Lz v0), (1, Iz v1), (5, Iz 0)] [] 0 (by simp) (by simp) ?_
 refine AW.midF (α := Int) (fun v3 => ref11_Put.J1 k v0 v1 v3 = some v2) (fun v3 => [(0, Lz v0), (1, Iz v1), (5, Iz v3)]) (fun v3 => []) 0 (fun K69 hK69 => ?_) ?_
 ·refine AW.block ?_
  refine AW.loopF (α := Int) (fun n v5 => ref11_Put.L3 k v0 v1 n v5 = some v2) (fun v5 => [(0, Lz v0), (1, Iz v1), (5, Iz v5)]) (fun v5 => []) 0 k (0) hF (by simp) (by simp) (by simp) ?_
  rintro (_|n3) v5 hF K82 hK82
  ·try dsimp only at hF
   rw [ref11_Put.L3] at hF; cases hF
  try dsimp only at hF
  rw [ref11_Put.L3] at hF
  refine AW.seq fun K84 hK84 => ?_
  refine SQ [] [none, none, none, none, none, some (10, true), some (10, true), some (10, true), some (10, true), some (10, true), some (10, true), none] fun _ _ g r => ?_
  by_cases h14 : v5 < (v0.length : Int)
  ·replace hF := ite_t h14 hF
   have h14_ := h14
   try simp at h14_
   obtain ⟨v6, h15, h16, h17, hF⟩ := idx_elim hF
   have h17_ := get_of h17
   try simp at h17_
   have h16_ := h16
   try simp at h16_
   have F1 := And.intro h14 (And.intro h14_ (And.intro h15 (And.intro h16 (And.intro h17 (And.intro h17_ h16_)))))
   try simp [F1]
   and_intros <;> first | exact g _ (by kernel_rfl) | refine r _ _ _ ?_ | omega | (simp [maxLen, F1] <;> omega)
   refine WK [(0, Lz v0), (1, Iz v1), (5, Iz v5), (17, AV.bool (decide (v6 < v1)))] [] 0 (by simp [F1]) (by simp [F1]) ?_
   by_cases h18 : v6 < v1
   ·replace hF := ite_t h18 hF
    have h18_ := h18
    try simp at h18_
    have F2 := And.intro F1 (And.intro h18 h18_)
    refine CT (by simp [F2] <;> omega) ?_
    refine AW.skip ?_
    refine hK84 _ _ _ ?_
    refine AW.block ?_
    refine RG [] [none, none, none] fun _ _ g r => ?_
    try simp [F2]
    and_intros <;> first | exact g _ (by kernel_rfl) | refine r _ _ _ ?_ | omega | (simp [maxLen, F2] <;> omega)
    refine hK82 _ _ _ ?_
    exact NX (k' := n3) (IntKind.wrap .i64 (v5 + 1)) hF (by simp [F2]) (by simp [F2])
   ·replace hF := ite_f h18 hF
    have h18_ := h18
    try simp at h18_
    have F3 := And.intro F1 (And.intro h18 h18_)
    refine CF (by simp [F3] <;> omega) ?_
    refine AW.exit ?_
    try simp
    refine hK69 _ _ _ ?_
    exact JN (v5) hF (by simp [F3]) (by simp [F3])
  ·replace hF := ite_f h14 hF
   have h14_ := h14
   try simp at h14_
   try simp [h14, h14_]
   and_intros <;> first | exact g _ (by kernel_rfl) | refine r _ _ _ ?_ | omega | (simp [h14, h14_, maxLen] <;> omega)
   refine WK [(0, Lz v0), (1, Iz v1), (5, Iz v5), (17, AV.bool false)] [] 0 (by simp [h14, h14_]) (by simp [h14, h14_]) ?_
   refine CF (by simp [h14, h14_]) ?_
   refine AW.exit ?_
   try simp
   refine hK69 _ _ _ ?_
   exact JN (v5) hF (by simp [h14, h14_]) (by simp [h14, h14_])
 ·rintro v3 hF
  try dsimp only at hF
  unfold ref11_Put.J1 at hF
  refine AW.midF (α := Unit) (fun _ => ref11_Put.J2 k v0 v1 v3 = some v2) (fun _ => [(0, Lz v0), (1, Iz v1), (5, Iz v3)]) (fun _ => []) 0 (fun K66 hK66 => ?_) ?_
  ·refine SQ [] [none, none, none, none, none, some (24, true), some (24, true), some (24, true), some (24, true), some (24, true), some (24, true), none] fun _ _ g r => ?_
   by_cases h8 : v3 < (v0.length : Int)
   ·replace hF := ite_t h8 hF
    have h8_ := h8
    try simp at h8_
    obtain ⟨v4, h9, h10, h11, hF⟩ := idx_elim hF
    have h11_ := get_of h11
    try simp at h11_
    have h10_ := h10
    try simp at h10_
    have F4 := And.intro h8 (And.intro h8_ (And.intro h9 (And.intro h10 (And.intro h11 (And.intro h11_ h10_)))))
    try simp [F4]
    and_intros <;> first | exact g _ (by kernel_rfl) | refine r _ _ _ ?_ | omega | (simp [maxLen, F4] <;> omega)
    refine WK [(0, Lz v0), (1, Iz v1), (5, Iz v3), (31, AV.bool (v4 == v1))] [] 0 (by simp [F4]) (by simp [F4]) ?_
    by_cases h12 : v4 = v1
    ·replace hF := ite_t h12 hF
     have h12q : v4 = v1 := h12
     have h12_ := eqb_t h12q
     have h12__ := neb_f h12q
     refine CT (by simp [F4, h12_, h12__] <;> omega) ?_
     refine SQ [33] [none, none, none] fun _ _ g r => ?_
     obtain ⟨h13, hF⟩ := chk_elim hF
     have h13_ := h13
     try simp at h13_
     have F5 := And.intro F4 (And.intro h12_ (And.intro h12__ h13))
     try simp [F5]
     and_intros <;> first | exact g _ (by kernel_rfl) | refine r _ _ _ ?_ | omega | (simp [maxLen, F5] <;> omega)
     refine WK [(4, AV.slc 0 0 1 v0.length false)] [(0, .grow (List.map (AV.int .i64) v0))] 1 (by simp [F5]) (by simp [F5]) ?_
     simp only [Option.some.injEq] at hF
     subst hF
     refine AW.ret (hQ _ _ _ ?_ (matchO_0 ?_)).1
     ·simp [Try.f40, F5]
     ·simp [F5]
    ·replace hF := ite_f h12 hF
     have h12_ := eqb_f h12
     have h12__ := neb_t h12
     have F6 := And.intro F4 (And.intro h12 (And.intro h12_ h12__))
     refine CF (by simp [F6] <;> omega) ?_
     refine AW.skip ?_
     refine hK66 _ _ _ ?_
     exact JN (()) hF (by simp [F6]) (by simp [F6])
   ·replace hF := ite_f h8 hF
    have h8_ := h8
    try simp at h8_
    try simp [h8, h8_]
    and_intros <;> first | exact g _ (by kernel_rfl) | refine r _ _ _ ?_ | omega | (simp [h8, h8_, maxLen] <;> omega)
    refine WK [(0, Lz v0), (1, Iz v1), (5, Iz v3), (31, AV.bool false)] [] 0 (by simp [h8, h8_]) (by simp [h8, h8_]) ?_
    refine CF (by simp [h8, h8_]) ?_
    refine AW.skip ?_
    refine hK66 _ _ _ ?_
    exact JN (()) hF (by simp [h8, h8_]) (by simp [h8, h8_])
  ·rintro ⟨⟩ hF
   try dsimp only at hF
   unfold ref11_Put.J2 at hF
   refine SQ [37] [none, none, none, none, none, none, none, none, none, none, none, none] fun _ _ g r => ?_
   obtain ⟨⟨h1, h2⟩, hF⟩ := chk_elim hF
   have h1_ := h1
   try simp at h1_
   have h2_ := h2
   try simp at h2_
   obtain ⟨h3, hF⟩ := chk_elim hF
   have h3_ := h3
   try simp at h3_
   obtain ⟨h4, hF⟩ := chk_elim hF
   have h4_ := h4
   try simp at h4_
   obtain ⟨⟨h5, h6⟩, hF⟩ := chk_elim hF
   have h5_ := h5
   try simp at h5_
   have h6_ := h6
   try simp at h6_
   obtain ⟨h7, hF⟩ := chk_elim hF
   have h7_ := h7
   try simp at h7_
   have F7 := And.intro h1 (And.intro h2 (And.intro h1_ (And.intro h2_ (And.intro h3 (And.intro h4 (And.intro h5 (And.intro h6 (And.intro h5_ (And.intro h6_ h7)))))))))
   try simp [F7]
   and_intros <;> first | exact g _ (by kernel_rfl) | refine r _ _ _ ?_ | omega | (simp [maxLen, F7] <;> omega)
   refine RM h0 [(0, 2)] [(4, AV.slc 0 0 1 ((((v0.take (v3).toNat) ++ ([v1] : List Int)) ++ (v0.drop (v3).toNat)).length) false)] [(0, .grow (List.map (AV.int .i64) (((v0.take (v3).toNat) ++ ([v1] : List Int)) ++ (v0.drop (v3).toNat))))] 1 (by simp [F7] <;> omega) (by simp [F7]) ?_
   simp only [Option.some.injEq] at hF
   subst hF
   refine AW.ret (hQ _ _ _ ?_ (matchO_0 ?_)).1
   ·simp [Try.f40, F7]
   ·simp [F7]
abbrev c_made_Dice_Policy  : AObj := .cells [AV.lst true true (List.map (AV.int .i64) ([] : List Int)), AV.lst true true (List.map (AV.int .i64) ([] : List Int)), Iz 0]
abbrev c_made_Dice_Policy1  : AObj := .cells [AV.lst true true (List.map (AV.int .i64) ([] : List Int)), AV.slc 2 0 1 (([] : List Int).length) false, Iz 0]
theorem w_made_Dice_Policy (k : Nat) (v0 : (List Int)) (v1 : Int) (v2 : Int) (v3 : (List api_Edge)) (v4 : (List Int)) (v5 : (List Int)) (v6 : (List Int)) (v7 : Int) (v8 : Int) (hF : made_Dice_Policy k v0 v1 v2 v3 v4 = some (v5, v6, v7, v8)) :
  FCall Try.prog 16 [AV.ptr 0 0, AV.agg [AV.int .i64 v2, AV.lst false false (List.map api_Edge.av v3), AV.lst false false (List.map (AV.int .i64) v4)]] [.cells [AV.lst false false (List.map (AV.int .i64) v0), AV.int .i64 v1]] (AV.agg [AV.lst false false (List.map (AV.int .i64) v5), AV.slc 1 0 1 v6.length false, AV.int .i64 v7]) [some (.cells [AV.lst false false (List.map (AV.int .i64) v0), AV.int .i64 v8]), some (.grow (List.map (AV.int .i64) v6))] := by
 unfold made_Dice_Policy at hF
 refine EN Try.func16 ?_
 intro c0 w0 Q h0 hQ
 refine WK [(0, AV.ptr 0 0), (1, AV.agg [Iz v2, AV.lst false false (List.map api_Edge.av v3), Lz v4])] [(0, .cells [Lz v0, Iz v1])] 1 (by simp) (by simp) ?_
 refine SQ [] [none, none] fun _ _ g r => ?_
 try simp
 and_intros <;> first | exact g _ (by kernel_rfl) | refine r _ _ _ ?_ | omega | (simp [maxLen] <;> omega)
 refine WK [(0, AV.ptr 0 0), (3, AV.ptr 1 0), (4, AV.ptr 2 0)] [(0, .cells [Lz v0, Iz v1]), (1, .cells [Iz v2, AV.lst false false (List.map api_Edge.av v3), Lz v4]), (2, c_made_Dice_Policy )] 3 (by simp) (by simp) ?_
 refine SQ [] [none, none, none, none, none, none, none, none, none, none, none] fun _ _ g r => ?_
 try simp
 and_intros
 try any_goals first | omega | (simp [maxLen] <;> omega)
 obtain ⟨v9, v10, h1, hF⟩ := bnd2_elim hF
 refine aCall_l (w_made_Dice_Next k _ _ _ _ _ h1) (by simp) [0] [] [0] rfl (.cons (.same (by simp)) (.cons (.same (by simp)) .nil)) (by simp) (by decide) (by simp) (by simp) (.inl rfl) (by simp) (by simp) ?_
 try simp
 and_intros
 try any_goals first | omega | (simp [maxLen] <;> omega)
 obtain ⟨v11, v12, h2, hF⟩ := bnd2_elim hF
 refine aCall_l (w_made_Dice_Of k _ _ _ _ _ h2) (by simp) [0] [] [0] rfl (.cons (.same (by simp)) (.cons (Coe.fl (by simp)) .nil)) (by simp) (by decide) (by simp) (by simp) (.inl rfl) (by simp) (by simp) ?_
 try simp
 and_intros <;> first | exact g _ (by kernel_rfl) | refine r _ _ _ ?_ | omega | (simp [maxLen] <;> omega)
 refine WK [(0, AV.ptr 0 0), (3, AV.ptr 1 0), (4, AV.ptr 2 0), (5, AV.ptr 3 0)] [(0, .cells [Lz v0, Iz v12]), (1, .cells [Iz v2, AV.lst false false (List.map api_Edge.av v3), Lz v4]), (2, c_made_Dice_Policy ), (3, .cells [AV.lst false true (List.map (AV.int .i64) ([v9] : List Int)), AV.lst true true (List.map (AV.int .i64) ([] : List Int)), Iz v11])] 4 (by simp) (by simp) ?_
 refine AW.midF (α := (Int × (List Int))) (fun (v13, v14) => made_Dice_Policy.J1 k v0 v11 v13 v14 = some (v5, v6, v7, v8)) (fun (v13, v14) => [(0, AV.ptr 0 0), (4, AV.ptr 1 0), (5, AV.ptr 2 0)]) (fun (v13, v14) => [(0, .cells [Lz v0, Iz v13]), (1, c_made_Dice_Policy ), (2, .cells [Lz v14, AV.lst true true (List.map (AV.int .i64) ([] : List Int)), Iz v11])]) 3 (fun K170 hK170 => ?_) ?_
 ·refine SQ [] [none, none] fun _ _ g r => ?_
  try simp
  and_intros
  try any_goals first | omega | (simp [maxLen] <;> omega)
  obtain ⟨v26, v27, h9, hF⟩ := bnd2_elim hF
  refine aCall_l (w_made_Dice_One k _ _ _ _ _ h9) (by simp) [0] [] [0] rfl (.cons (.same (by simp)) (.cons (.same (by simp)) .nil)) (by simp) (by decide) (by simp) (by simp) (.inl rfl) (by simp) (by simp) ?_
  try simp
  and_intros <;> first | exact g _ (by kernel_rfl) | refine r _ _ _ ?_ | omega | (simp [maxLen] <;> omega)
  refine WK [(0, AV.ptr 0 0), (3, AV.ptr 1 0), (4, AV.ptr 2 0), (5, AV.ptr 3 0), (18, AV.bool v26)] [(0, .cells [Lz v0, Iz v27]), (1, .cells [Iz v2, AV.lst false false (List.map api_Edge.av v3), Lz v4]), (2, c_made_Dice_Policy ), (3, .cells [AV.lst false true (List.map (AV.int .i64) ([v9] : List Int)), AV.lst true true (List.map (AV.int .i64) ([] : List Int)), Iz v11])] 4 (by simp) (by simp) ?_
  by_cases h10 : v26 = true
  ·replace hF := ite_t h10 hF
   have h10_ := h10
   try simp at h10_
   refine CT (by simp [h10, h10_] <;> omega) ?_
   refine RG [] [none, none, none, none, none, none, none, none, none] fun _ _ g r => ?_
   try simp [h10, h10_]
   and_intros
   try any_goals first | omega | (simp [h10, h10_, maxLen] <;> omega)
   obtain ⟨v28, v29, h11, hF⟩ := bnd2_elim hF
   refine aCall_l (w_made_Dice_Next k _ _ _ _ _ h11) (by simp) [0] [] [0] rfl (.cons (.same (by simp [h10, h10_])) (.cons (.same (by simp [h10, h10_])) .nil)) (by simp [h10, h10_]) (by decide) (by simp) (by simp) (.inl rfl) (by simp) (by simp) ?_
   try simp [h10, h10_]
   and_intros
   try any_goals first | omega | (simp [h10, h10_, maxLen] <;> omega)
   obtain ⟨v30, h12, hF⟩ := bnd1_elim hF
   refine AC (w_ref11_Put k _ _ _ h12) (.cons (Coe.fl (by simp [h10, h10_])) (.cons (.same (by simp [h10, h10_])) .nil)) ?_
   try simp [h10, h10_]
   and_intros <;> first | exact g _ (by kernel_rfl) | refine r _ _ _ ?_ | omega | (simp [h10, h10_, maxLen] <;> omega)
   refine hK170 _ _ _ ?_
   refine Can.weak [(0, AV.ptr 0 0), (4, AV.ptr 2 0), (5, AV.ptr 3 0)] [(0, .cells [Lz v0, Iz v29]), (2, c_made_Dice_Policy ), (3, .cells [AV.slc 4 0 1 v30.length false, AV.lst true true (List.map (AV.int .i64) ([] : List Int)), Iz v11]), (4, .grow (List.map (AV.int .i64) v30))] 5 (by simp [h10, h10_]) (by simp [h10, h10_]) (by simp) ?_
   refine Can.freeze 4 (o := .grow (List.map (AV.int .i64) v30)) (by simp [h10, h10_]) rfl [] [(3, .cells [Lz v30, AV.lst true true (List.map (AV.int .i64) ([] : List Int)), Iz v11])] trivial ⟨⟨by simp, AObj.cells [AV.slc 4 0 1 v30.length false, AV.lst true true (List.map (AV.int .i64) ([] : List Int)), Iz v11], by simp [h10, h10_], (.mk (.cons (.l (by simp) (by simp) (by simp) (by simp)) (.cons (.same _) (.cons (.same _) .nil))))⟩, trivial⟩ ?_
   refine Can.ren (m := 1) h0 [(0, 0), (1, 2), (2, 3)] [(0, AV.ptr 0 0), (4, AV.ptr 1 0), (5, AV.ptr 2 0)] [(0, .cells [Lz v0, Iz v29]), (1, c_made_Dice_Policy ), (2, .cells [Lz v30, AV.lst true true (List.map (AV.int .i64) ([] : List Int)), Iz v11])] 3 (by decide) (by decide) (by decide) rfl (by simp [h10, h10_]) (by simp [h10, h10_]) ?_
   exact JN ((v29, v30)) hF (by simp [h10, h10_]) (by simp [h10, h10_])
  ·replace hF := ite_f h10 hF
   have h10_ := h10
   try simp at h10_
   refine CF (by simp [h10, h10_] <;> omega) ?_
   refine AW.skip ?_
   refine hK170 _ _ _ ?_
   refine Can.ren (m := 1) h0 [(0, 0), (1, 2), (2, 3)] [(0, AV.ptr 0 0), (4, AV.ptr 1 0), (5, AV.ptr 2 0)] [(0, .cells [Lz v0, Iz v27]), (1, c_made_Dice_Policy ), (2, .cells [AV.lst false true (List.map (AV.int .i64) ([v9] : List Int)), AV.lst true true (List.map (AV.int .i64) ([] : List Int)), Iz v11])] 3 (by decide) (by decide) (by decide) rfl (by simp [h10, h10_]) (by simp [h10, h10_]) ?_
   refine Can.flg [] [(2, .cells [Lz ([v9] : List Int), AV.lst true true (List.map (AV.int .i64) ([] : List Int)), Iz v11])] trivial ⟨⟨AObj.cells [AV.lst false true (List.map (AV.int .i64) ([v9] : List Int)), AV.lst true true (List.map (AV.int .i64) ([] : List Int)), Iz v11], by simp [h10, h10_], (.mk (.cons (.lst (by simp)) (.cons (.same _) (.cons (.same _) .nil))))⟩, trivial⟩ (by simp) ?_
   exact JN ((v27, ([v9] : List Int))) hF (by simp [h10, h10_]) (by simp [h10, h10_])
 ·rintro ⟨v13, v14⟩ hF
  try dsimp only at hF
  unfold made_Dice_Policy.J1 at hF
  refine SQ [] [none, none, none, none, none] fun _ _ g r => ?_
  try simp
  and_intros
  try any_goals first | omega | (simp [maxLen] <;> omega)
  obtain ⟨v15, v16, h3, hF⟩ := bnd2_elim hF
  refine aCall_l (w_made_Dice_Of k _ _ _ _ _ h3) (by simp) [0] [] [0] rfl (.cons (.same (by simp)) (.cons (Coe.fl (by simp)) .nil)) (by simp) (by decide) (by simp) (by simp) (.inl rfl) (by simp) (by simp) ?_
  try simp
  and_intros <;> first | exact g _ (by kernel_rfl) | refine r _ _ _ ?_ | omega | (simp [maxLen] <;> omega)
  refine WK [(0, AV.ptr 0 0), (4, AV.ptr 1 0), (5, AV.ptr 2 0), (6, Iz (IntKind.wrap .i64 (1 + v15)))] [(0, .cells [Lz v0, Iz v16]), (1, c_made_Dice_Policy ), (2, .cells [Lz v14, AV.lst true true (List.map (AV.int .i64) ([] : List Int)), Iz v11])] 3 (by simp) (by simp) ?_
  refine AW.seq fun K130 hK130 => ?_
  refine SQ [] [none, none, none, none] fun _ _ g r => ?_
  try simp
  and_intros
  try any_goals first | omega | (simp [maxLen] <;> omega)
  obtain ⟨v17, v18, h4, hF⟩ := bnd2_elim hF
  refine aCall_l (w_made_Dice_Next k _ _ _ _ _ h4) (by simp) [0] [] [0] rfl (.cons (.same (by simp)) (.cons (.same (by simp)) .nil)) (by simp) (by decide) (by simp) (by simp) (.inl rfl) (by simp) (by simp) ?_
  try simp
  and_intros <;> first | exact g _ (by kernel_rfl) | refine r _ _ _ ?_ | omega | (simp [maxLen] <;> omega)
  refine WK [(0, AV.ptr 0 0), (4, AV.ptr 1 0), (5, AV.ptr 2 0), (6, Iz (IntKind.wrap .i64 (1 + v15))), (7, Iz (IntKind.wrap .i64 (1 + v17)))] [(0, .cells [Lz v0, Iz v18]), (1, c_made_Dice_Policy ), (2, .cells [Lz v14, AV.lst true true (List.map (AV.int .i64) ([] : List Int)), Iz v11])] 3 (by simp) (by simp) ?_
  refine AW.block ?_
  refine AW.ownC 1 1 1 true (cs := [AV.lst true true (List.map (AV.int .i64) ([] : List Int)), AV.lst true true (List.map (AV.int .i64) ([] : List Int)), Iz 0]) (by simp) (by simp) ?_
  refine AW.ownC 2 1 1 true (cs := [Lz v14, AV.lst true true (List.map (AV.int .i64) ([] : List Int)), Iz v11]) (by simp) (by simp) ?_
  refine AW.rnm (m := 1) h0 [(0, 0), (1, 1), (2, 3), (3, 2), (4, 4)] [(0, AV.ptr 0 0), (4, AV.ptr 1 0), (5, AV.ptr 3 0), (6, Iz (IntKind.wrap .i64 (1 + v15))), (7, Iz (IntKind.wrap .i64 (1 + v17)))] [(0, .cells [Lz v0, Iz v18]), (1, c_made_Dice_Policy1 ), (2, .grow (List.map (AV.int .i64) ([] : List Int))), (3, .cells [Lz v14, AV.slc 4 0 1 (([] : List Int).length) false, Iz v11]), (4, .grow (List.map (AV.int .i64) ([] : List Int)))] 5 (by decide) (by decide) (by decide) rfl (by simp) (by simp) ?_
  refine AW.loopF (α := (Int × Int × Int × (List Int))) (fun n (v19, v20, v21, v22) => made_Dice_Policy.L2 k v0 v11 v14 n v19 v20 v21 v22 = some (v5, v6, v7, v8)) (fun (v19, v20, v21, v22) => [(0, AV.ptr 0 0), (4, AV.ptr 1 0), (5, AV.ptr 3 0), (6, Iz v19), (7, Iz v20)]) (fun (v19, v20, v21, v22) => [(0, .cells [Lz v0, Iz v21]), (1, c_made_Dice_Policy1 ), (2, .grow (List.map (AV.int .i64) ([] : List Int))), (3, .cells [Lz v14, AV.slc 4 0 1 v22.length false, Iz v11]), (4, .grow (List.map (AV.int .i64) v22))]) 5 k ((IntKind.wrap .i64 (1 + v15), IntKind.wrap .i64 (1 + v17), v18, ([] : List Int))) hF (by simp) (by simp) (by simp) ?_
  rintro (_|n2) ⟨v19, v20, v21, v22⟩ hF K159 hK159
  ·try dsimp only at hF
   rw [made_Dice_Policy.L2] at hF; cases hF
  try dsimp only at hF
  rw [made_Dice_Policy.L2] at hF
  refine AW.seq fun K161 hK161 => ?_
  refine SQ [] [none, none] fun _ _ g r => ?_
  try simp
  and_intros <;> first | exact g _ (by kernel_rfl) | refine r _ _ _ ?_ | omega | (simp [maxLen] <;> omega)
  refine WK [(0, AV.ptr 0 0), (4, AV.ptr 1 0), (5, AV.ptr 3 0), (6, Iz v19), (7, Iz v20), (35, AV.bool (decide (0 < v20)))] [(0, .cells [Lz v0, Iz v21]), (1, c_made_Dice_Policy1 ), (2, .grow (List.map (AV.int .i64) ([] : List Int))), (3, .cells [Lz v14, AV.slc 4 0 1 v22.length false, Iz v11]), (4, .grow (List.map (AV.int .i64) v22))] 5 (by simp) (by simp) ?_
  by_cases h5 : 0 < v20
  ·replace hF := ite_t h5 hF
   have h5_ := h5
   try simp at h5_
   refine CT (by simp [h5, h5_] <;> omega) ?_
   refine AW.skip ?_
   refine hK161 _ _ _ ?_
   refine AW.seq fun K165 hK165 => ?_
   refine AW.block ?_
   refine SQ [] [none, none, none, none, none, none, none] fun _ _ g r => ?_
   obtain ⟨h6, hF⟩ := chk_elim hF
   have h6_ := h6
   try simp at h6_
   have F1 := And.intro h5 (And.intro h5_ h6)
   try simp [F1]
   and_intros <;> first | exact g _ (by kernel_rfl) | refine r _ _ _ ?_ | omega | (simp [maxLen, F1] <;> omega)
   refine WK [(0, AV.ptr 0 0), (4, AV.ptr 1 0), (5, AV.ptr 3 0), (6, Iz v19), (7, Iz v20)] [(0, .cells [Lz v0, Iz v21]), (1, c_made_Dice_Policy1 ), (2, .grow (List.map (AV.int .i64) ([] : List Int))), (3, .cells [Lz v14, AV.slc 5 0 1 ((v22 ++ ([v19] : List Int)).length) false, Iz v11]), (5, .grow (List.map (AV.int .i64) (v22 ++ ([v19] : List Int))))] 6 (by simp [F1]) (by simp [F1] <;> omega) ?_
   refine RG [] [none, none, none, none, none, none] fun _ _ g r => ?_
   try simp [F1]
   and_intros
   try any_goals first | omega | (simp [maxLen, F1] <;> omega)
   obtain ⟨v23, v24, h7, hF⟩ := bnd2_elim hF
   refine aCall_l (w_made_Dice_Next k _ _ _ _ _ h7) (by simp) [0] [] [0] rfl (.cons (.same (by simp [F1])) (.cons (.same (by simp [F1])) .nil)) (by simp [F1]) (by decide) (by simp) (by simp) (.inl rfl) (by simp) (by simp) ?_
   obtain ⟨v25, h8, hF⟩ := let1_elim hF
   have h8_ := h8
   try simp at h8_
   have F2 := And.intro F1 (And.intro h8 h8_)
   try simp [F2]
   and_intros <;> first | exact g _ (by kernel_rfl) | refine r _ _ _ ?_ | omega | (simp [maxLen, F2] <;> omega)
   refine hK165 _ _ _ ?_
   refine WK [(0, AV.ptr 0 0), (4, AV.ptr 1 0), (5, AV.ptr 3 0), (6, Iz v25), (7, Iz v20)] [(0, .cells [Lz v0, Iz v24]), (1, c_made_Dice_Policy1 ), (2, .grow (List.map (AV.int .i64) ([] : List Int))), (3, .cells [Lz v14, AV.slc 5 0 1 ((v22 ++ ([v19] : List Int)).length) false, Iz v11]), (5, .grow (List.map (AV.int .i64) (v22 ++ ([v19] : List Int))))] 6 (by simp [F2]) (by simp [F2] <;> omega) ?_
   refine RG [] [none, none, none] fun _ _ g r => ?_
   try simp [F2]
   and_intros <;> first | exact g _ (by kernel_rfl) | refine r _ _ _ ?_ | omega | (simp [maxLen, F2] <;> omega)
   refine hK159 _ _ _ ?_
   refine Can.weak [(0, AV.ptr 0 0), (4, AV.ptr 1 0), (5, AV.ptr 3 0), (6, Iz v25), (7, Iz (IntKind.wrap .i64 (v20 - 1)))] [(0, .cells [Lz v0, Iz v24]), (1, c_made_Dice_Policy1 ), (2, .grow (List.map (AV.int .i64) ([] : List Int))), (3, .cells [Lz v14, AV.slc 5 0 1 ((v22 ++ ([v19] : List Int)).length) false, Iz v11]), (5, .grow (List.map (AV.int .i64) (v22 ++ ([v19] : List Int))))] 6 (by simp [F2]) (by simp [F2] <;> omega) (by simp) ?_
   refine Can.ren (m := 1) h0 [(0, 0), (1, 1), (2, 2), (3, 3), (4, 5)] [(0, AV.ptr 0 0), (4, AV.ptr 1 0), (5, AV.ptr 3 0), (6, Iz v25), (7, Iz (IntKind.wrap .i64 (v20 - 1)))] [(0, .cells [Lz v0, Iz v24]), (1, c_made_Dice_Policy1 ), (2, .grow (List.map (AV.int .i64) ([] : List Int))), (3, .cells [Lz v14, AV.slc 4 0 1 ((v22 ++ ([v19] : List Int)).length) false, Iz v11]), (4, .grow (List.map (AV.int .i64) (v22 ++ ([v19] : List Int))))] 5 (by decide) (by decide) (by decide) rfl (by simp [F2]) (by simp [F2]) ?_
   exact NX (k' := n2) ((v25, IntKind.wrap .i64 (v20 - 1), v24, v22 ++ ([v19] : List Int))) hF (by simp [F2]) (by simp [F2])
  ·replace hF := ite_f h5 hF
   have h5_ := h5
   try simp at h5_
   refine CF (by simp [h5, h5_] <;> omega) ?_
   refine AW.exit ?_
   try simp
   refine hK130 _ _ _ ?_
   refine SQ [] [none, none] fun _ _ g r => ?_
   try simp [h5, h5_]
   and_intros <;> first | exact g _ (by kernel_rfl) | refine r _ _ _ ?_ | omega | (simp [h5, h5_, maxLen] <;> omega)
   refine WK [(4, AV.ptr 1 0)] [(0, .cells [Lz v0, Iz v21]), (1, .cells [Lz v14, AV.slc 4 0 1 v22.length false, Iz v11]), (4, .grow (List.map (AV.int .i64) v22))] 5 (by simp [h5, h5_]) (by simp [h5, h5_]) ?_
   refine AW.rnm (m := 1) h0 [(0, 0), (1, 4), (2, 1)] [(4, AV.ptr 2 0)] [(0, .cells [Lz v0, Iz v21]), (1, .grow (List.map (AV.int .i64) v22)), (2, .cells [Lz v14, AV.slc 1 0 1 v22.length false, Iz v11])] 3 (by decide) (by decide) (by decide) rfl (by simp [h5, h5_]) (by simp [h5, h5_]) ?_
   simp only [Option.some.injEq, Prod.mk.injEq] at hF
   obtain ⟨e0, e1, e2, e3⟩ := hF
   subst e0 e1 e2 e3
   refine AW.ret (hQ _ _ _ ?_ (matchO_0 ?_)).1
   ·simp [Try.f16, h5, h5_]
   ·simp [h5, h5_]
theorem w_ref13_CopyPolicy_o (k : Nat) (v0 : (List Int)) (v1 : (List Int)) (v2 : Int) (v3 : (List Int)) (v4 : (List Int)) (v5 : Int) (hF : ref13_CopyPolicy_o k v0 v1 v2 = some (v3, v4, v5)) :
  FCall Try.prog 21 [AV.agg [AV.lst false false (List.map (AV.int .i64) v0), AV.lst false false (List.map (AV.int .i64) v1), AV.int .i64 v2]] [] (AV.agg [AV.slc 0 0 1 v3.length false, AV.slc 1 0 1 v4.length false, AV.int .i64 v5]) [some (.grow (List.map (AV.int .i64) v3)), some (.grow (List.map (AV.int .i64) v4))] := by
 unfold ref13_CopyPolicy_o at hF
 refine EN Try.func21 ?_
 intro c0 w0 Q h0 hQ
 refine WK [(0, AV.agg [Lz v0, Lz v1, Iz v2])] [] 0 (by simp) (by simp) ?_
 refine SQ [] [none, none] fun _ _ g r => ?_
 try simp
 and_intros <;> first | exact g _ (by kernel_rfl) | refine r _ _ _ ?_ | omega | (simp [maxLen] <;> omega)
 refine WK [(1, AV.ptr 0 0), (2, AV.ptr 1 0)] [(0, .cells [Lz v0, Lz v1, Iz v2]), (1, .cells [AV.lst true true (List.map (AV.int .i64) ([] : List Int)), AV.lst true true (List.map (AV.int .i64) ([] : List Int)), Iz 0])] 2 (by simp) (by simp) ?_
 refine SQ [5, 8] [none, none, none, none, none, none, none, none, none, none] fun _ _ g r => ?_
 obtain ⟨h1, hF⟩ := chk_elim hF
 have h1_ := h1
 try simp at h1_
 obtain ⟨h2, hF⟩ := chk_elim hF
 have h2_ := h2
 try simp at h2_
 try simp [h1, h2]
 and_intros <;> first | exact g _ (by kernel_rfl) | refine r _ _ _ ?_ | omega | (simp [h1, h2, maxLen] <;> omega)
 refine RM h0 [(0, 2), (1, 3), (2, 1)] [(2, AV.ptr 2 0)] [(0, .grow (List.map (AV.int .i64) v0)), (1, .grow (List.map (AV.int .i64) v1)), (2, .cells [AV.slc 0 0 1 v0.length false, AV.slc 1 0 1 v1.length false, Iz v2])] 3 (by simp [h1, h2]) (by simp [h1, h2]) ?_
 simp only [Option.some.injEq, Prod.mk.injEq] at hF
 obtain ⟨e0, e1, e2⟩ := hF
 subst e0 e1 e2
 refine AW.ret (hQ _ _ _ ?_ (matchO_0 ?_)).1
 ·simp [Try.f21, h1, h2]
 ·simp [h1, h2]
theorem w_law13_CapacityMore (k : Nat) (v0 : (List Int)) (v1 : Bool) (hF : law13_CapacityMore k v0 = some v1) :
  FCall Try.prog 5 [AV.lst false false (List.map (AV.int .i64) v0)] [] (AV.bool v1) [] := by
 unfold law13_CapacityMore at hF
 refine EN Try.func5 ?_
 intro c0 w0 Q h0 hQ
 refine WK [(0, Lz v0)] [] 0 (by simp) (by simp) ?_
 refine SQ [] [none] fun _ _ g r => ?_
 try simp
 and_intros <;> first | exact g _ (by kernel_rfl) | refine r _ _ _ ?_ | omega | (simp [maxLen] <;> omega)
 refine WK [(0, Lz v0)] [] 0 (by simp) (by simp) ?_
 refine AW.seq fun K203 hK203 => ?_
 refine SQ [] [none, none, none] fun _ _ g r => ?_
 try simp
 and_intros
 try any_goals first | omega | (simp [maxLen] <;> omega)
 obtain ⟨v2, h1, hF⟩ := bnd1_elim hF
 refine AC (w_made_Light k _ _ h1) (.cons (.same (by simp)) .nil) ?_
 try simp
 and_intros <;> first | exact g _ (by kernel_rfl) | refine r _ _ _ ?_ | omega | (simp [maxLen] <;> omega)
 refine WK [(0, Lz v0), (17, AV.bool (!v2))] [] 0 (by simp) (by simp) ?_
 by_cases h2 : (!v2) = true
 ·replace hF := ite_t h2 hF
  have h2_ := h2
  try simp at h2_
  refine CT (by simp [h2, h2_] <;> omega) ?_
  refine SQ [] [none, none] fun _ _ g r => ?_
  try simp [h2, h2_]
  and_intros
  try any_goals first | omega | (simp [h2, h2_, maxLen] <;> omega)
  obtain ⟨v3, h3, hF⟩ := bnd1_elim hF
  refine AC (w_law13_awake k _ h3) .nil ?_
  try simp [h2, h2_]
  and_intros <;> first | exact g _ (by kernel_rfl) | refine r _ _ _ ?_ | omega | (simp [h2, h2_, maxLen] <;> omega)
  refine WK [(2, AV.bool v3)] [] 0 (by simp [h2, h2_]) (by simp [h2, h2_]) ?_
  simp only [Option.some.injEq] at hF
  subst hF
  refine AW.ret (hQ _ _ _ ?_ (matchO_0 ?_)).1
  ·simp [Try.f5, h2, h2_]
  ·simp [h2, h2_]
 ·replace hF := ite_f h2 hF
  have h2_ := h2
  try simp at h2_
  refine CF (by simp [h2, h2_] <;> omega) ?_
  refine AW.skip ?_
  refine hK203 _ _ _ ?_
  refine SQ [] [none, none, none] fun _ _ g r => ?_
  try simp [h2, h2_]
  and_intros
  try any_goals first | omega | (simp [h2, h2_, maxLen] <;> omega)
  obtain ⟨v4, v5, h4, hF⟩ := bnd2_elim hF
  refine AC (w_made_Roll k _ _ _ h4) (.cons (.same (by simp [h2, h2_])) .nil) ?_
  try simp [h2, h2_]
  and_intros <;> first | exact g _ (by kernel_rfl) | refine r _ _ _ ?_ | omega | (simp [h2, h2_, maxLen] <;> omega)
  refine WK [(3, AV.ptr 0 0)] [(0, .cells [Lz v4, Iz v5])] 1 (by simp [h2, h2_]) (by simp [h2, h2_]) ?_
  refine SQ [] [none, none, none, none] fun _ _ g r => ?_
  try simp [h2, h2_]
  and_intros
  try any_goals first | omega | (simp [h2, h2_, maxLen] <;> omega)
  obtain ⟨v6, v7, v8, v9, h5, hF⟩ := bnd4_elim hF
  refine aCall_l (w_made_Dice_Graph_o k _ _ _ _ _ _ h5) (by simp) [0] [] [0] rfl (.cons (.same (by simp [h2, h2_])) .nil) (by simp [h2, h2_]) (by decide) (by simp) (by simp) (.inl rfl) (by simp) (by simp) ?_
  try simp [h2, h2_]
  and_intros <;> first | exact g _ (by kernel_rfl) | refine r _ _ _ ?_ | omega | (simp [h2, h2_, maxLen] <;> omega)
  refine WK [(3, AV.ptr 0 0), (4, AV.ptr 3 0)] [(0, .cells [Lz v4, Iz v9]), (1, .grow (flatA (List.map api_Edge.av v7))), (2, .grow (List.map (AV.int .i64) v8)), (3, .cells [Iz v6, AV.slc 1 0 3 v7.length false, AV.slc 2 0 1 v8.length false])] 4 (by simp [h2, h2_]) (by simp [h2, h2_]) ?_
  refine AW.frz 1 (o := .grow (flatA (List.map api_Edge.av v7))) (by simp [h2, h2_]) rfl [] [(3, .cells [Iz v6, AV.lst false false (List.map api_Edge.av v7), AV.slc 2 0 1 v8.length false])] trivial ⟨⟨by simp, AObj.cells [Iz v6, AV.slc 1 0 3 v7.length false, AV.slc 2 0 1 v8.length false], by simp [h2, h2_], (.mk (.cons (.same _) (.cons (.l (by simp) (by simp) (by simp) (by simp)) (.cons (.same _) .nil))))⟩, trivial⟩ ?_
  refine AW.frz 2 (o := .grow (List.map (AV.int .i64) v8)) (by simp [h2, h2_]) rfl [] [(3, .cells [Iz v6, AV.lst false false (List.map api_Edge.av v7), Lz v8])] trivial ⟨⟨by simp, AObj.cells [Iz v6, AV.lst false false (List.map api_Edge.av v7), AV.slc 2 0 1 v8.length false], by simp [h2, h2_], (.mk (.cons (.same _) (.cons (.same _) (.cons (.l (by simp) (by simp) (by simp) (by simp)) .nil))))⟩, trivial⟩ ?_
  refine WK [(3, AV.ptr 0 0), (4, AV.ptr 3 0)] [(0, .cells [Lz v4, Iz v9]), (3, .cells [Iz v6, AV.lst false false (List.map api_Edge.av v7), Lz v8])] 4 (by simp [h2, h2_]) (by simp [h2, h2_]) ?_
  refine SQ [] [none, none, none, none, none] fun _ _ g r => ?_
  try simp [h2, h2_]
  and_intros
  try any_goals first | omega | (simp [h2, h2_, maxLen] <;> omega)
  obtain ⟨v10, v11, v12, v13, h6, hF⟩ := bnd4_elim hF
  refine aCall_l (w_made_Dice_Policy k _ _ _ _ _ _ _ _ _ h6) (by simp) [0] [] [0] rfl (.cons (.same (by simp [h2, h2_])) (.cons (.same (by simp [h2, h2_])) .nil)) (by simp [h2, h2_]) (by decide) (by simp) (by simp) (.inl rfl) (by simp) (by simp) ?_
  try simp [h2, h2_]
  and_intros <;> first | exact g _ (by kernel_rfl) | refine r _ _ _ ?_ | omega | (simp [h2, h2_, maxLen] <;> omega)
  refine WK [(3, AV.ptr 0 0), (4, AV.ptr 3 0), (5, AV.ptr 5 0)] [(0, .cells [Lz v4, Iz v13]), (3, .cells [Iz v6, AV.lst false false (List.map api_Edge.av v7), Lz v8]), (4, .grow (List.map (AV.int .i64) v11)), (5, .cells [Lz v10, AV.slc 4 0 1 v11.length false, Iz v12])] 6 (by simp [h2, h2_]) (by simp [h2, h2_]) ?_
  refine SQ [] [none, none, none] fun _ _ g r => ?_
  try simp [h2, h2_]
  and_intros <;> first | exact g _ (by kernel_rfl) | refine r _ _ _ ?_ | omega | (simp [h2, h2_, maxLen] <;> omega)
  refine WK [(3, AV.ptr 0 0), (4, AV.ptr 3 0), (5, AV.ptr 5 0), (6, AV.ptr 6 0)] [(0, .cells [Lz v4, Iz v13]), (3, .cells [Iz v6, AV.lst false false (List.map api_Edge.av v7), Lz v8]), (4, .grow (List.map (AV.int .i64) v11)), (5, .cells [Lz v10, AV.slc 4 0 1 v11.length false, Iz v12]), (6, .cells [Iz v6, AV.lst false false (List.map api_Edge.av v7), Lz v8])] 7 (by simp [h2, h2_]) (by simp [h2, h2_]) ?_
  refine AW.midF (α := (Int × (List api_Edge) × (List Int))) (fun (v14, v15, v16) => law13_CapacityMore.J1 k v6 v7 v8 v10 v11 v12 v14 v15 v16 = some v1) (fun (v14, v15, v16) => [(4, AV.ptr 0 0), (5, AV.ptr 1 0), (6, AV.ptr 3 0)]) (fun (v14, v15, v16) => [(0, .cells [Iz v6, AV.lst false false (List.map api_Edge.av v7), Lz v8]), (1, .cells [Lz v10, AV.slc 2 0 1 v11.length false, Iz v12]), (2, .grow (List.map (AV.int .i64) v11)), (3, .cells [Iz v14, AV.lst false false (List.map api_Edge.av v15), Lz v16])]) 4 (fun K395 hK395 => ?_) ?_
  ·refine SQ [] [none, none, none, none, none, none, none, none, none, none, none, none, none, none, none, none, none] fun _ _ g r => ?_
   try simp [h2, h2_]
   and_intros
   try any_goals first | omega | (simp [h2, h2_, maxLen] <;> omega)
   obtain ⟨v31, v32, h36, hF⟩ := bnd2_elim hF
   refine aCall_l (w_made_Dice_Next k _ _ _ _ _ h36) (by simp) [0] [] [0] rfl (.cons (.same (by simp [h2, h2_])) (.cons (.same (by simp [h2, h2_])) .nil)) (by simp [h2, h2_]) (by decide) (by simp) (by simp) (.inl rfl) (by simp) (by simp) ?_
   try simp [h2, h2_]
   and_intros
   try any_goals first | omega | (simp [h2, h2_, maxLen] <;> omega)
   obtain ⟨v33, v34, h37, hF⟩ := bnd2_elim hF
   refine aCall_l (w_made_Dice_Next k _ _ _ _ _ h37) (by simp) [0] [] [0] rfl (.cons (.same (by simp [h2, h2_])) (.cons (.same (by simp [h2, h2_])) .nil)) (by simp [h2, h2_]) (by decide) (by simp) (by simp) (.inl rfl) (by simp) (by simp) ?_
   try simp [h2, h2_]
   and_intros
   try any_goals first | omega | (simp [h2, h2_, maxLen] <;> omega)
   obtain ⟨v35, v36, v37, v38, h38, hF⟩ := bnd4_elim hF
   refine AC (w_ref11_With_o k _ _ _ _ _ _ _ _ _ _ h38) (.cons (.same (by simp [h2, h2_])) (.cons (.same (by simp [h2, h2_])) .nil)) ?_
   try simp [h2, h2_]
   and_intros <;> first | exact g _ (by kernel_rfl) | refine r _ _ _ ?_ | omega | (simp [h2, h2_, maxLen] <;> omega)
   refine WK [(4, AV.ptr 3 0), (5, AV.ptr 5 0), (6, AV.ptr 6 0), (7, AV.ptr 9 0), (8, Iz v38)] [(3, .cells [Iz v6, AV.lst false false (List.map api_Edge.av v7), Lz v8]), (4, .grow (List.map (AV.int .i64) v11)), (5, .cells [Lz v10, AV.slc 4 0 1 v11.length false, Iz v12]), (6, .cells [Iz v6, AV.lst false false (List.map api_Edge.av v7), Lz v8]), (7, .grow (flatA (List.map api_Edge.av v36))), (8, .grow (List.map (AV.int .i64) v37)), (9, .cells [Iz v35, AV.slc 7 0 3 v36.length false, AV.slc 8 0 1 v37.length false])] 10 (by simp [h2, h2_]) (by simp [h2, h2_]) ?_
   refine AW.frz 7 (o := .grow (flatA (List.map api_Edge.av v36))) (by simp [h2, h2_]) rfl [] [(9, .cells [Iz v35, AV.lst false false (List.map api_Edge.av v36), AV.slc 8 0 1 v37.length false])] trivial ⟨⟨by simp, AObj.cells [Iz v35, AV.slc 7 0 3 v36.length false, AV.slc 8 0 1 v37.length false], by simp [h2, h2_], (.mk (.cons (.same _) (.cons (.l (by simp) (by simp) (by simp) (by simp)) (.cons (.same _) .nil))))⟩, trivial⟩ ?_
   refine AW.frz 8 (o := .grow (List.map (AV.int .i64) v37)) (by simp [h2, h2_]) rfl [] [(9, .cells [Iz v35, AV.lst false false (List.map api_Edge.av v36), Lz v37])] trivial ⟨⟨by simp, AObj.cells [Iz v35, AV.lst false false (List.map api_Edge.av v36), AV.slc 8 0 1 v37.length false], by simp [h2, h2_], (.mk (.cons (.same _) (.cons (.same _) (.cons (.l (by simp) (by simp) (by simp) (by simp)) .nil))))⟩, trivial⟩ ?_
   refine WK [(4, AV.ptr 3 0), (5, AV.ptr 5 0), (6, AV.ptr 6 0), (7, AV.ptr 9 0), (8, Iz v38)] [(3, .cells [Iz v6, AV.lst false false (List.map api_Edge.av v7), Lz v8]), (4, .grow (List.map (AV.int .i64) v11)), (5, .cells [Lz v10, AV.slc 4 0 1 v11.length false, Iz v12]), (6, .cells [Iz v6, AV.lst false false (List.map api_Edge.av v7), Lz v8]), (9, .cells [Iz v35, AV.lst false false (List.map api_Edge.av v36), Lz v37])] 10 (by simp [h2, h2_]) (by simp [h2, h2_]) ?_
   refine SQ [] [none, none] fun _ _ g r => ?_
   try simp [h2, h2_]
   and_intros <;> first | exact g _ (by kernel_rfl) | refine r _ _ _ ?_ | omega | (simp [h2, h2_, maxLen] <;> omega)
   refine WK [(4, AV.ptr 3 0), (5, AV.ptr 5 0), (6, AV.ptr 6 0), (7, AV.ptr 9 0), (42, AV.bool (v38 == 0))] [(3, .cells [Iz v6, AV.lst false false (List.map api_Edge.av v7), Lz v8]), (4, .grow (List.map (AV.int .i64) v11)), (5, .cells [Lz v10, AV.slc 4 0 1 v11.length false, Iz v12]), (6, .cells [Iz v6, AV.lst false false (List.map api_Edge.av v7), Lz v8]), (9, .cells [Iz v35, AV.lst false false (List.map api_Edge.av v36), Lz v37])] 10 (by simp [h2, h2_]) (by simp [h2, h2_]) ?_
   by_cases h39 : v38 = 0
   ·replace hF := ite_t h39 hF
    have h39q : v38 = 0 := h39
    have h39_ := eqb_t h39q
    have h39__ := neb_f h39q
    have F1 := And.intro h2 (And.intro h2_ (And.intro h39_ (And.intro h39__ h39q)))
    refine CT (by simp [F1] <;> omega) ?_
    refine RG [] [none, none] fun _ _ g r => ?_
    try simp [F1]
    and_intros <;> first | exact g _ (by kernel_rfl) | refine r _ _ _ ?_ | omega | (simp [maxLen, F1] <;> omega)
    refine hK395 _ _ _ ?_
    refine RN h0 [(0, 3), (1, 5), (2, 4), (3, 6)] [(4, AV.ptr 0 0), (5, AV.ptr 1 0), (6, AV.ptr 3 0)] [(0, .cells [Iz v6, AV.lst false false (List.map api_Edge.av v7), Lz v8]), (1, .cells [Lz v10, AV.slc 2 0 1 v11.length false, Iz v12]), (2, .grow (List.map (AV.int .i64) v11)), (3, .cells [Iz v35, AV.lst false false (List.map api_Edge.av v36), Lz v37])] 4 (by simp [F1]) (by simp [F1]) ?_
    exact JN ((v35, v36, v37)) hF (by simp [F1]) (by simp [F1])
   ·replace hF := ite_f h39 hF
    have h39_ := eqb_f h39
    have h39__ := neb_t h39
    have F2 := And.intro h2 (And.intro h2_ (And.intro h39 (And.intro h39_ h39__)))
    refine CF (by simp [F2] <;> omega) ?_
    refine AW.skip ?_
    refine hK395 _ _ _ ?_
    refine RN h0 [(0, 3), (1, 5), (2, 4), (3, 6)] [(4, AV.ptr 0 0), (5, AV.ptr 1 0), (6, AV.ptr 3 0)] [(0, .cells [Iz v6, AV.lst false false (List.map api_Edge.av v7), Lz v8]), (1, .cells [Lz v10, AV.slc 2 0 1 v11.length false, Iz v12]), (2, .grow (List.map (AV.int .i64) v11)), (3, .cells [Iz v6, AV.lst false false (List.map api_Edge.av v7), Lz v8])] 4 (by simp [F2]) (by simp [F2]) ?_
    exact JN ((v6, v7, v8)) hF (by simp [F2]) (by simp [F2])
  ·rintro ⟨v14, v15, v16⟩ hF
   try dsimp only at hF
   unfold law13_CapacityMore.J1 at hF
   refine SQ [] [none, none, none, none] fun _ _ g r => ?_
   try simp [h2, h2_]
   and_intros
   try any_goals first | omega | (simp [h2, h2_, maxLen] <;> omega)
   obtain ⟨v17, v18, v19, h7, hF⟩ := bnd3_elim hF
   refine aCall_l (w_ref13_CopyPolicy_o k _ _ _ _ _ _ h7) (by simp) [] [2] [] rfl (.cons (.agg (.cons (.same (by simp [h2, h2_])) (.cons (Coe.l (o := .grow (List.map (AV.int .i64) v11)) (by simp [h2, h2_]) rfl (by simp [h2, h2_]) (by simp [noIdsL]) (by simp [h2, h2_]) (by simp [h2, h2_])) (.cons (.same (by simp [h2, h2_])) .nil)))) .nil) (by simp [h2, h2_]) (by decide) (by simp) (by simp) (.inr ⟨by simp, by simp⟩) (by simp) (by simp) ?_
   try simp [h2, h2_]
   and_intros <;> first | exact g _ (by kernel_rfl) | refine r _ _ _ ?_ | omega | (simp [h2, h2_, maxLen] <;> omega)
   refine WK [(4, AV.ptr 0 0), (5, AV.ptr 1 0), (6, AV.ptr 3 0), (9, AV.ptr 6 0)] [(0, .cells [Iz v6, AV.lst false false (List.map api_Edge.av v7), Lz v8]), (1, .cells [Lz v10, AV.slc 2 0 1 v11.length false, Iz v12]), (2, .grow (List.map (AV.int .i64) v11)), (3, .cells [Iz v14, AV.lst false false (List.map api_Edge.av v15), Lz v16]), (4, .grow (List.map (AV.int .i64) v17)), (5, .grow (List.map (AV.int .i64) v18)), (6, .cells [AV.slc 4 0 1 v17.length false, AV.slc 5 0 1 v18.length false, Iz v19])] 7 (by simp [h2, h2_]) (by simp [h2, h2_]) ?_
   refine AW.frz 4 (o := .grow (List.map (AV.int .i64) v17)) (by simp [h2, h2_]) rfl [] [(6, .cells [Lz v17, AV.slc 5 0 1 v18.length false, Iz v19])] trivial ⟨⟨by simp, AObj.cells [AV.slc 4 0 1 v17.length false, AV.slc 5 0 1 v18.length false, Iz v19], by simp [h2, h2_], (.mk (.cons (.l (by simp) (by simp) (by simp) (by simp)) (.cons (.same _) (.cons (.same _) .nil))))⟩, trivial⟩ ?_
   refine WK [(4, AV.ptr 0 0), (5, AV.ptr 1 0), (6, AV.ptr 3 0), (9, AV.ptr 6 0)] [(0, .cells [Iz v6, AV.lst false false (List.map api_Edge.av v7), Lz v8]), (1, .cells [Lz v10, AV.slc 2 0 1 v11.length false, Iz v12]), (2, .grow (List.map (AV.int .i64) v11)), (3, .cells [Iz v14, AV.lst false false (List.map api_Edge.av v15), Lz v16]), (5, .grow (List.map (AV.int .i64) v18)), (6, .cells [Lz v17, AV.slc 5 0 1 v18.length false, Iz v19])] 7 (by simp [h2, h2_]) (by simp [h2, h2_]) ?_
   refine AW.seq fun K244 hK244 => ?_
   refine SQ [] [none] fun _ _ g r => ?_
   try simp [h2, h2_]
   and_intros <;> first | exact g _ (by kernel_rfl) | refine r _ _ _ ?_ | omega | (simp [h2, h2_, maxLen] <;> omega)
   refine WK [(4, AV.ptr 0 0), (5, AV.ptr 1 0), (6, AV.ptr 3 0), (9, AV.ptr 6 0), (10, Iz 0)] [(0, .cells [Iz v6, AV.lst false false (List.map api_Edge.av v7), Lz v8]), (1, .cells [Lz v10, AV.slc 2 0 1 v11.length false, Iz v12]), (2, .grow (List.map (AV.int .i64) v11)), (3, .cells [Iz v14, AV.lst false false (List.map api_Edge.av v15), Lz v16]), (5, .grow (List.map (AV.int .i64) v18)), (6, .cells [Lz v17, AV.slc 5 0 1 v18.length false, Iz v19])] 7 (by simp [h2, h2_]) (by simp [h2, h2_]) ?_
   refine AW.block ?_
   refine RM h0 [(0, 0), (1, 1), (2, 2), (3, 3), (4, 6), (5, 5)] [(4, AV.ptr 0 0), (5, AV.ptr 1 0), (6, AV.ptr 3 0), (9, AV.ptr 4 0), (10, Iz 0)] [(0, .cells [Iz v6, AV.lst false false (List.map api_Edge.av v7), Lz v8]), (1, .cells [Lz v10, AV.slc 2 0 1 v11.length false, Iz v12]), (2, .grow (List.map (AV.int .i64) v11)), (3, .cells [Iz v14, AV.lst false false (List.map api_Edge.av v15), Lz v16]), (4, .cells [Lz v17, AV.slc 5 0 1 v18.length false, Iz v19]), (5, .grow (List.map (AV.int .i64) v18))] 6 (by simp [h2, h2_]) (by simp [h2, h2_]) ?_
   refine AW.loopF (α := (Int × (List Int))) (fun n (v20, v21) => law13_CapacityMore.L2 k v6 v7 v8 v10 v11 v12 v14 v15 v16 v17 v19 n v20 v21 = some v1) (fun (v20, v21) => [(4, AV.ptr 0 0), (5, AV.ptr 1 0), (6, AV.ptr 3 0), (9, AV.ptr 4 0), (10, Iz v20)]) (fun (v20, v21) => [(0, .cells [Iz v6, AV.lst false false (List.map api_Edge.av v7), Lz v8]), (1, .cells [Lz v10, AV.slc 2 0 1 v11.length false, Iz v12]), (2, .grow (List.map (AV.int .i64) v11)), (3, .cells [Iz v14, AV.lst false false (List.map api_Edge.av v15), Lz v16]), (4, .cells [Lz v17, AV.slc 5 0 1 v21.length false, Iz v19]), (5, .grow (List.map (AV.int .i64) v21))]) 6 k ((0, v18)) hF (by simp [h2, h2_]) (by simp [h2, h2_]) (by simp) ?_
   rintro (_|n2) ⟨v20, v21⟩ hF K267 hK267
   ·try dsimp only at hF
    rw [law13_CapacityMore.L2] at hF; cases hF
   try dsimp only at hF
   rw [law13_CapacityMore.L2] at hF
   refine AW.seq fun K269 hK269 => ?_
   refine SQ [] [none, none, none, none, none] fun _ _ g r => ?_
   try simp [h2, h2_]
   and_intros <;> first | exact g _ (by kernel_rfl) | refine r _ _ _ ?_ | omega | (simp [h2, h2_, maxLen] <;> omega)
   refine WK [(4, AV.ptr 0 0), (5, AV.ptr 1 0), (6, AV.ptr 3 0), (9, AV.ptr 4 0), (10, Iz v20), (50, AV.bool (decide (v20 < (v21.length : Int))))] [(0, .cells [Iz v6, AV.lst false false (List.map api_Edge.av v7), Lz v8]), (1, .cells [Lz v10, AV.slc 2 0 1 v11.length false, Iz v12]), (2, .grow (List.map (AV.int .i64) v11)), (3, .cells [Iz v14, AV.lst false false (List.map api_Edge.av v15), Lz v16]), (4, .cells [Lz v17, AV.slc 5 0 1 v21.length false, Iz v19]), (5, .grow (List.map (AV.int .i64) v21))] 6 (by simp [h2, h2_]) (by simp [h2, h2_]) ?_
   by_cases h8 : v20 < (v21.length : Int)
   ·replace hF := ite_t h8 hF
    have h8_ := h8
    try simp at h8_
    have F3 := And.intro h2 (And.intro h2_ (And.intro h8 h8_))
    refine CT (by simp [F3] <;> omega) ?_
    refine AW.skip ?_
    refine hK269 _ _ _ ?_
    refine AW.seq fun K272 hK272 => ?_
    refine AW.block ?_
    refine RG [] [none, none, none, none, none, none, none, none] fun _ _ g r => ?_
    obtain ⟨⟨h9, h10⟩, hF⟩ := chk_elim hF
    have h10_ := ne_of_lt h10
    obtain ⟨v22, h11, h12, h13, hF⟩ := idx_elim hF
    have h13_ := get_of h13
    try simp at h13_
    have h12_ := h12
    try simp at h12_
    obtain ⟨⟨h14, h15⟩, hF⟩ := chk_elim hF
    have h15_ := ne_of_lt h15
    have F4 := And.intro F3 (And.intro h9 (And.intro h10 (And.intro h10_ (And.intro h11 (And.intro h12 (And.intro h13 (And.intro h13_ (And.intro h12_ (And.intro h14 (And.intro h15 h15_))))))))))
    try simp [F4]
    and_intros <;> first | exact g _ (by kernel_rfl) | refine r _ _ _ ?_ | omega | (simp [maxLen, F4] <;> omega)
    refine hK272 _ _ _ ?_
    refine WK [(4, AV.ptr 0 0), (5, AV.ptr 1 0), (6, AV.ptr 3 0), (9, AV.ptr 4 0), (10, Iz v20)] [(0, .cells [Iz v6, AV.lst false false (List.map api_Edge.av v7), Lz v8]), (1, .cells [Lz v10, AV.slc 2 0 1 v11.length false, Iz v12]), (2, .grow (List.map (AV.int .i64) v11)), (3, .cells [Iz v14, AV.lst false false (List.map api_Edge.av v15), Lz v16]), (4, .cells [Lz v17, AV.slc 5 0 1 ((v21.set (v20).toNat (IntKind.wrap .i64 (v22 + 2))).length) false, Iz v19]), (5, .grow (List.map (AV.int .i64) (v21.set (v20).toNat (IntKind.wrap .i64 (v22 + 2)))))] 6 (by simp [F4]) (by simp [F4]) ?_
    refine RG [] [none, none, none] fun _ _ g r => ?_
    try simp [F4]
    and_intros <;> first | exact g _ (by kernel_rfl) | refine r _ _ _ ?_ | omega | (simp [maxLen, F4] <;> omega)
    refine hK267 _ _ _ ?_
    exact NX (k' := n2) ((IntKind.wrap .i64 (v20 + 1), v21.set (v20).toNat (IntKind.wrap .i64 (v22 + 2)))) hF (by simp [F4]) (by simp [F4])
   ·replace hF := ite_f h8 hF
    have h8_ := h8
    try simp at h8_
    have F5 := And.intro h2 (And.intro h2_ (And.intro h8 h8_))
    refine CF (by simp [F5] <;> omega) ?_
    refine AW.exit ?_
    try simp
    refine hK244 _ _ _ ?_
    refine WK [(4, AV.ptr 0 0), (5, AV.ptr 1 0), (6, AV.ptr 3 0), (9, AV.ptr 4 0)] [(0, .cells [Iz v6, AV.lst false false (List.map api_Edge.av v7), Lz v8]), (1, .cells [Lz v10, AV.slc 2 0 1 v11.length false, Iz v12]), (2, .grow (List.map (AV.int .i64) v11)), (3, .cells [Iz v14, AV.lst false false (List.map api_Edge.av v15), Lz v16]), (4, .cells [Lz v17, AV.slc 5 0 1 v21.length false, Iz v19]), (5, .grow (List.map (AV.int .i64) v21))] 6 (by simp [F5]) (by simp [F5]) ?_
    refine AW.frz 2 (o := .grow (List.map (AV.int .i64) v11)) (by simp [F5]) rfl [] [(1, .cells [Lz v10, Lz v11, Iz v12])] trivial ⟨⟨by simp, AObj.cells [Lz v10, AV.slc 2 0 1 v11.length false, Iz v12], by simp [F5], (.mk (.cons (.same _) (.cons (.l (by simp) (by simp) (by simp) (by simp)) (.cons (.same _) .nil))))⟩, trivial⟩ ?_
    refine AW.frz 5 (o := .grow (List.map (AV.int .i64) v21)) (by simp [F5]) rfl [] [(4, .cells [Lz v17, Lz v21, Iz v19])] trivial ⟨⟨by simp, AObj.cells [Lz v17, AV.slc 5 0 1 v21.length false, Iz v19], by simp [F5], (.mk (.cons (.same _) (.cons (.l (by simp) (by simp) (by simp) (by simp)) (.cons (.same _) .nil))))⟩, trivial⟩ ?_
    refine WK [(4, AV.ptr 0 0), (5, AV.ptr 1 0), (6, AV.ptr 3 0), (9, AV.ptr 4 0)] [(0, .cells [Iz v6, AV.lst false false (List.map api_Edge.av v7), Lz v8]), (1, .cells [Lz v10, Lz v11, Iz v12]), (3, .cells [Iz v14, AV.lst false false (List.map api_Edge.av v15), Lz v16]), (4, .cells [Lz v17, Lz v21, Iz v19])] 6 (by simp [F5]) (by simp [F5]) ?_
    refine SQ [] [none, none, none, none, none, none, none, none, none, none, none, none] fun _ _ g r => ?_
    try simp [F5]
    and_intros
    try any_goals first | omega | (simp [maxLen, F5] <;> omega)
    obtain ⟨v23, h16, hF⟩ := bnd1_elim hF
    refine AC (w_capacity_All k _ _ _ _ _ _ _ h16) (.cons (.same (by simp [F5])) (.cons (.same (by simp [F5])) .nil)) ?_
    try simp [F5]
    and_intros
    try any_goals first | omega | (simp [maxLen, F5] <;> omega)
    obtain ⟨v24, h17, hF⟩ := bnd1_elim hF
    refine AC (w_capacity_All k _ _ _ _ _ _ _ h17) (.cons (.same (by simp [F5])) (.cons (.same (by simp [F5])) .nil)) ?_
    try simp [F5]
    and_intros
    try any_goals first | omega | (simp [maxLen, F5] <;> omega)
    obtain ⟨v25, h18, hF⟩ := bnd1_elim hF
    refine AC (w_capacity_All k _ _ _ _ _ _ _ h18) (.cons (.same (by simp [F5])) (.cons (.same (by simp [F5])) .nil)) ?_
    try simp [F5]
    and_intros <;> first | exact g _ (by kernel_rfl) | refine r _ _ _ ?_ | omega | (simp [maxLen, F5] <;> omega)
    refine WK [(4, AV.ptr 0 0), (11, AV.slc 6 0 1 v23.length false), (12, AV.slc 7 0 1 v24.length false), (13, AV.slc 8 0 1 v25.length false)] [(0, .cells [Iz v6, AV.lst false false (List.map api_Edge.av v7), Lz v8]), (6, .cells (List.map (AV.int .i64) v23)), (7, .cells (List.map (AV.int .i64) v24)), (8, .cells (List.map (AV.int .i64) v25))] 9 (by simp [F5]) (by simp [F5]) ?_
    refine AW.frz 6 (o := .cells (List.map (AV.int .i64) v23)) (by simp [F5]) rfl [(11, Lz v23)] [] ⟨(.l (by simp) (by simp) (by simp) (by simp)), trivial⟩ trivial ?_
    refine AW.frz 7 (o := .cells (List.map (AV.int .i64) v24)) (by simp [F5]) rfl [(12, Lz v24)] [] ⟨(.l (by simp) (by simp) (by simp) (by simp)), trivial⟩ trivial ?_
    refine AW.frz 8 (o := .cells (List.map (AV.int .i64) v25)) (by simp [F5]) rfl [(13, Lz v25)] [] ⟨(.l (by simp) (by simp) (by simp) (by simp)), trivial⟩ trivial ?_
    refine WK [(4, AV.ptr 0 0), (11, Lz v23), (12, Lz v24), (13, Lz v25)] [(0, .cells [Iz v6, AV.lst false false (List.map api_Edge.av v7), Lz v8])] 9 (by simp [F5]) (by simp [F5]) ?_
    refine AW.seq fun K280 hK280 => ?_
    refine SQ [] [none, none, none, none, none, none, some (74, false), some (74, false), some (74, false), some (74, false), some (74, false), none, none, some (81, false), some (81, false), some (81, false), some (81, false), some (81, false), none] fun _ _ g r => ?_
    by_cases h19 : (v23.length : Int) ≠ v6
    ·replace hF := ite_t h19 hF
     have h19_ := eqb_f h19
     have h19__ := neb_t h19
     have F6 := And.intro F5 (And.intro h19 (And.intro h19_ h19__))
     try simp [F6]
     and_intros <;> first | exact g _ (by kernel_rfl) | refine r _ _ _ ?_ | omega | (simp [maxLen, F6] <;> omega)
     refine WK [(4, AV.ptr 0 0), (11, Lz v23), (12, Lz v24), (13, Lz v25), (87, AV.bool true)] [(0, .cells [Iz v6, AV.lst false false (List.map api_Edge.av v7), Lz v8])] 9 (by simp [F6]) (by simp [F6]) ?_
     refine CT (by simp [F6]) ?_
     refine SQ [] [none] fun _ _ g r => ?_
     try simp [F6]
     and_intros <;> first | exact g _ (by kernel_rfl) | refine r _ _ _ ?_ | omega | (simp [maxLen, F6] <;> omega)
     refine WK [(2, AV.bool false)] [] 9 (by simp [F6]) (by simp [F6]) ?_
     simp only [Option.some.injEq] at hF
     subst hF
     refine AW.ret (hQ _ _ _ ?_ (matchO_0 ?_)).1
     ·simp [Try.f5, F6]
     ·simp [F6]
    ·replace hF := ite_f h19 hF
     have h19q : (v23.length : Int) = v6 := Classical.not_not.1 h19
     have h19_ := eqb_t h19q
     have h19__ := neb_f h19q
     by_cases h20 : (v24.length : Int) ≠ v6
     ·replace hF := ite_t h20 hF
      have h20_ := eqb_f h20
      have h20__ := neb_t h20
      have F7 := And.intro F5 (And.intro h19_ (And.intro h19__ (And.intro h20 (And.intro h20_ h20__))))
      try simp [F7]
      and_intros <;> first | exact g _ (by kernel_rfl) | refine r _ _ _ ?_ | omega | (simp [maxLen, F7] <;> omega)
      refine WK [(4, AV.ptr 0 0), (11, Lz v23), (12, Lz v24), (13, Lz v25), (87, AV.bool true)] [(0, .cells [Iz v6, AV.lst false false (List.map api_Edge.av v7), Lz v8])] 9 (by simp [F7]) (by simp [F7]) ?_
      refine CT (by simp [F7]) ?_
      refine SQ [] [none] fun _ _ g r => ?_
      try simp [F7]
      and_intros <;> first | exact g _ (by kernel_rfl) | refine r _ _ _ ?_ | omega | (simp [maxLen, F7] <;> omega)
      refine WK [(2, AV.bool false)] [] 9 (by simp [F7]) (by simp [F7]) ?_
      simp only [Option.some.injEq] at hF
      subst hF
      refine AW.ret (hQ _ _ _ ?_ (matchO_0 ?_)).1
      ·simp [Try.f5, F7]
      ·simp [F7]
     ·replace hF := ite_f h20 hF
      have h20q : (v24.length : Int) = v6 := Classical.not_not.1 h20
      have h20_ := eqb_t h20q
      have h20__ := neb_f h20q
      have F8 := And.intro F5 (And.intro h19_ (And.intro h19__ (And.intro h20_ h20__)))
      try simp [F8]
      and_intros <;> first | exact g _ (by kernel_rfl) | refine r _ _ _ ?_ | omega | (simp [maxLen, F8] <;> omega)
      refine WK [(4, AV.ptr 0 0), (11, Lz v23), (12, Lz v24), (13, Lz v25), (87, AV.bool ((v25.length : Int) != v6))] [(0, .cells [Iz v6, AV.lst false false (List.map api_Edge.av v7), Lz v8])] 9 (by simp [F8]) (by simp [F8]) ?_
      by_cases h21 : (v25.length : Int) ≠ v6
      ·replace hF := ite_t h21 hF
       have h21_ := eqb_f h21
       have h21__ := neb_t h21
       have F9 := And.intro F8 (And.intro h21 (And.intro h21_ h21__))
       refine CT (by simp [F9] <;> omega) ?_
       refine SQ [] [none] fun _ _ g r => ?_
       try simp [F9]
       and_intros <;> first | exact g _ (by kernel_rfl) | refine r _ _ _ ?_ | omega | (simp [maxLen, F9] <;> omega)
       refine WK [(2, AV.bool false)] [] 9 (by simp [F9]) (by simp [F9]) ?_
       simp only [Option.some.injEq] at hF
       subst hF
       refine AW.ret (hQ _ _ _ ?_ (matchO_0 ?_)).1
       ·simp [Try.f5, F9]
       ·simp [F9]
      ·replace hF := ite_f h21 hF
       have h21q : (v25.length : Int) = v6 := Classical.not_not.1 h21
       have h21_ := eqb_t h21q
       have h21__ := neb_f h21q
       have F10 := And.intro F8 (And.intro h21_ h21__)
       refine CF (by simp [F10] <;> omega) ?_
       refine AW.skip ?_
       refine hK280 _ _ _ ?_
       refine AW.seq fun K339 hK339 => ?_
       refine SQ [] [none] fun _ _ g r => ?_
       try simp [F10]
       and_intros <;> first | exact g _ (by kernel_rfl) | refine r _ _ _ ?_ | omega | (simp [maxLen, F10] <;> omega)
       refine WK [(4, AV.ptr 0 0), (11, Lz v23), (12, Lz v24), (13, Lz v25), (14, Iz 0)] [(0, .cells [Iz v6, AV.lst false false (List.map api_Edge.av v7), Lz v8])] 9 (by simp [F10]) (by simp [F10]) ?_
       refine AW.block ?_
       refine RM h0 [(0, 0)] [(4, AV.ptr 0 0), (11, Lz v23), (12, Lz v24), (13, Lz v25), (14, Iz 0)] [(0, .cells [Iz v6, AV.lst false false (List.map api_Edge.av v7), Lz v8])] 1 (by simp [F10]) (by simp [F10]) ?_
       refine AW.loopF (α := Int) (fun n v26 => law13_CapacityMore.L3 k v6 v23 v24 v25 n v26 = some v1) (fun v26 => [(4, AV.ptr 0 0), (11, Lz v23), (12, Lz v24), (13, Lz v25), (14, Iz v26)]) (fun v26 => [(0, .cells [Iz v6, AV.lst false false (List.map api_Edge.av v7), Lz v8])]) 1 k (0) hF (by simp [F10]) (by simp [F10]) (by simp) ?_
       rintro (_|n3) v26 hF K380 hK380
       ·try dsimp only at hF
        rw [law13_CapacityMore.L3] at hF; cases hF
       try dsimp only at hF
       rw [law13_CapacityMore.L3] at hF
       refine AW.seq fun K382 hK382 => ?_
       refine SQ [] [none, none, none, none] fun _ _ g r => ?_
       try simp [F10]
       and_intros <;> first | exact g _ (by kernel_rfl) | refine r _ _ _ ?_ | omega | (simp [maxLen, F10] <;> omega)
       refine WK [(4, AV.ptr 0 0), (11, Lz v23), (12, Lz v24), (13, Lz v25), (14, Iz v26), (91, AV.bool (decide (v26 < v6)))] [(0, .cells [Iz v6, AV.lst false false (List.map api_Edge.av v7), Lz v8])] 1 (by simp [F10]) (by simp [F10]) ?_
       by_cases h22 : v26 < v6
       ·replace hF := ite_t h22 hF
        have h22_ := h22
        try simp at h22_
        have F11 := And.intro F10 (And.intro h22 h22_)
        refine CT (by simp [F11] <;> omega) ?_
        refine AW.skip ?_
        refine hK382 _ _ _ ?_
        refine AW.seq fun K388 hK388 => ?_
        refine AW.block ?_
        refine SQ [] [none, none, none, none, none, none, none, none, none, none, some (103, false), some (103, false), some (103, false), some (103, false), some (103, false), some (103, false), some (103, false), some (103, false), some (103, false), none, none, some (114, false), some (114, false), some (114, false), some (114, false), some (114, false), some (114, false), some (114, false), some (114, false), some (114, false), some (114, false), some (114, false), none] fun _ _ g r => ?_
        obtain ⟨v27, h23, h24, h25, hF⟩ := idx_elim hF
        have h25_ := get_of h25
        try simp at h25_
        have h24_ := h24
        try simp at h24_
        obtain ⟨v28, h26, h27, h28, hF⟩ := idx_elim hF
        have h28_ := get_of h28
        try simp at h28_
        have h27_ := h27
        try simp at h27_
        by_cases h29 : v27 < v28
        ·replace hF := ite_t h29 hF
         have h29_ := h29
         try simp at h29_
         have F12 := And.intro F11 (And.intro h23 (And.intro h24 (And.intro h25 (And.intro h25_ (And.intro h24_ (And.intro h26 (And.intro h27 (And.intro h28 (And.intro h28_ (And.intro h27_ (And.intro h29 h29_)))))))))))
         try simp [F12]
         and_intros <;> first | exact g _ (by kernel_rfl) | refine r _ _ _ ?_ | omega | (simp [maxLen, F12] <;> omega)
         refine WK [(4, AV.ptr 0 0), (11, Lz v23), (12, Lz v24), (13, Lz v25), (14, Iz v26), (126, AV.bool true)] [(0, .cells [Iz v6, AV.lst false false (List.map api_Edge.av v7), Lz v8])] 1 (by simp [F12]) (by simp [F12]) ?_
         refine CT (by simp [F12]) ?_
         refine SQ [] [none] fun _ _ g r => ?_
         try simp [F12]
         and_intros <;> first | exact g _ (by kernel_rfl) | refine r _ _ _ ?_ | omega | (simp [maxLen, F12] <;> omega)
         refine WK [(2, AV.bool false)] [] 1 (by simp [F12]) (by simp [F12]) ?_
         simp only [Option.some.injEq] at hF
         subst hF
         refine AW.ret (hQ _ _ _ ?_ (matchO_0 ?_)).1
         ·simp [Try.f5, F12]
         ·simp [F12]
        ·replace hF := ite_f h29 hF
         have h29_ := h29
         try simp at h29_
         obtain ⟨v29, h30, h31, h32, hF⟩ := idx_elim hF
         have h32_ := get_of h32
         try simp at h32_
         have h31_ := h31
         try simp at h31_
         by_cases h33 : v29 < v28
         ·replace hF := ite_t h33 hF
          have h33_ := h33
          try simp at h33_
          have F13 := And.intro F11 (And.intro h23 (And.intro h24 (And.intro h25 (And.intro h25_ (And.intro h24_ (And.intro h26 (And.intro h27 (And.intro h28 (And.intro h28_ (And.intro h27_ (And.intro h29 (And.intro h29_ (And.intro h30 (And.intro h31 (And.intro h32 (And.intro h32_ (And.intro h31_ (And.intro h33 h33_))))))))))))))))))
          try simp [F13]
          and_intros <;> first | exact g _ (by kernel_rfl) | refine r _ _ _ ?_ | omega | (simp [maxLen, F13] <;> omega)
          refine WK [(4, AV.ptr 0 0), (11, Lz v23), (12, Lz v24), (13, Lz v25), (14, Iz v26), (126, AV.bool true)] [(0, .cells [Iz v6, AV.lst false false (List.map api_Edge.av v7), Lz v8])] 1 (by simp [F13]) (by simp [F13]) ?_
          refine CT (by simp [F13]) ?_
          refine SQ [] [none] fun _ _ g r => ?_
          try simp [F13]
          and_intros <;> first | exact g _ (by kernel_rfl) | refine r _ _ _ ?_ | omega | (simp [maxLen, F13] <;> omega)
          refine WK [(2, AV.bool false)] [] 1 (by simp [F13]) (by simp [F13]) ?_
          simp only [Option.some.injEq] at hF
          subst hF
          refine AW.ret (hQ _ _ _ ?_ (matchO_0 ?_)).1
          ·simp [Try.f5, F13]
          ·simp [F13]
         ·replace hF := ite_f h33 hF
          have h33_ := h33
          try simp at h33_
          have F14 := And.intro F11 (And.intro h23 (And.intro h24 (And.intro h25 (And.intro h25_ (And.intro h24_ (And.intro h26 (And.intro h27 (And.intro h28 (And.intro h28_ (And.intro h27_ (And.intro h29 (And.intro h29_ (And.intro h30 (And.intro h31 (And.intro h32 (And.intro h32_ (And.intro h31_ (And.intro h33 h33_))))))))))))))))))
          try simp [F14]
          and_intros <;> first | exact g _ (by kernel_rfl) | refine r _ _ _ ?_ | omega | (simp [maxLen, F14] <;> omega)
          refine WK [(4, AV.ptr 0 0), (11, Lz v23), (12, Lz v24), (13, Lz v25), (14, Iz v26), (126, AV.bool ((v29 == 0) != (v28 == 0)))] [(0, .cells [Iz v6, AV.lst false false (List.map api_Edge.av v7), Lz v8])] 1 (by simp [F14]) (by simp [F14]) ?_
          by_cases h34 : ((v29 == 0) != (v28 == 0)) = true
          ·replace hF := ite_t h34 hF
           have h34_ := h34
           try simp at h34_
           have F15 := And.intro F14 (And.intro h34 h34_)
           refine CT (by simp [F15] <;> omega) ?_
           refine SQ [] [none] fun _ _ g r => ?_
           try simp [F15]
           and_intros <;> first | exact g _ (by kernel_rfl) | refine r _ _ _ ?_ | omega | (simp [maxLen, F15] <;> omega)
           refine WK [(2, AV.bool false)] [] 1 (by simp [F15]) (by simp [F15]) ?_
           simp only [Option.some.injEq] at hF
           subst hF
           refine AW.ret (hQ _ _ _ ?_ (matchO_0 ?_)).1
           ·simp [Try.f5, F15]
           ·simp [F15]
          ·replace hF := ite_f h34 hF
           have h34_ := h34
           try simp at h34_
           have F16 := And.intro F14 (And.intro h34 h34_)
           refine CF (by simp [F16] <;> omega) ?_
           refine AW.skip ?_
           refine hK388 _ _ _ ?_
           refine RG [] [none, none, none] fun _ _ g r => ?_
           try simp [F16]
           and_intros <;> first | exact g _ (by kernel_rfl) | refine r _ _ _ ?_ | omega | (simp [maxLen, F16] <;> omega)
           refine hK380 _ _ _ ?_
           exact NX (k' := n3) (IntKind.wrap .i64 (v26 + 1)) hF (by simp [F16]) (by simp [F16])
       ·replace hF := ite_f h22 hF
        have h22_ := h22
        try simp at h22_
        have F17 := And.intro F10 (And.intro h22 h22_)
        refine CF (by simp [F17] <;> omega) ?_
        refine AW.exit ?_
        try simp
        refine hK339 _ _ _ ?_
        refine SQ [] [none, none] fun _ _ g r => ?_
        try simp [F17]
        and_intros
        try any_goals first | omega | (simp [maxLen, F17] <;> omega)
        obtain ⟨v30, h35, hF⟩ := bnd1_elim hF
        refine AC (w_law13_awake k _ h35) .nil ?_
        try simp [F17]
        and_intros <;> first | exact g _ (by kernel_rfl) | refine r _ _ _ ?_ | omega | (simp [maxLen, F17] <;> omega)
        refine WK [(2, AV.bool v30)] [] 1 (by simp [F17]) (by simp [F17]) ?_
        simp only [Option.some.injEq] at hF
        subst hF
        refine AW.ret (hQ _ _ _ ?_ (matchO_0 ?_)).1
        ·simp [Try.f5, F17]
        ·simp [F17]
end Go.TF
