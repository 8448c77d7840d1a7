/- Walks: the Go text computes the Lean functions (printed by a program of our own). -/
import Derived.Test.YtmiimcogppdepaaBaPu
import Derived.Test.YtmiimcogppdepaaBaAbsT
import Derived.Test.YtmiimcogppdepaaBaWa0
import Derived.Test.YtmiimcogppdepaaBaWa1
import Derived.Test.YtmiimcogppdepaaBaWa2
import Derived.Test.YtmiimcogppdepaaBaWa3
set_option linter.unusedVariables false
set_option linter.unusedSimpArgs false
set_option maxRecDepth 100000
set_option maxHeartbeats 4000000
namespace Go.TF
open Go Go.Abs Go.Proofs Go.Proofs.YtmiimcogppdepaaBaT
abbrev c_made_Dice_Graph_o  : AObj := .cells [Iz 0, AV.slc 2 0 3 (([] : List api_Edge).length) false, AV.slc 3 0 1 (([] : List Int).length) false]
abbrev c_made_Dice_Graph_o1  : AObj := .cells [Iz 0, AV.lst true true (List.map api_Edge.av ([] : List api_Edge)), AV.lst true true (List.map (AV.int .i64) ([] : List Int))]
theorem w_made_Dice_Graph_o (k : Nat) (v0 : (List Int)) (v1 : Int) (v2 : Int) (v3 : (List api_Edge)) (v4 : (List Int)) (v5 : Int) (hF : made_Dice_Graph_o k v0 v1 = some (v2, v3, v4, v5)) :
  FCall Try.prog 12 [AV.ptr 0 0] [.cells [AV.lst false false (List.map (AV.int .i64) v0), AV.int .i64 v1]] (AV.agg [AV.int .i64 v2, AV.slc 1 0 3 v3.length false, AV.slc 2 0 1 v4.length false]) [some (.cells [AV.lst false false (List.map (AV.int .i64) v0), AV.int .i64 v5]), some (.grow (flatA (List.map api_Edge.av v3))), some (.grow (List.map (AV.int .i64) v4))] := by
 unfold made_Dice_Graph_o at hF
 refine EN Try.func12 ?_
 intro c0 w0 Q h0 hQ
 refine WK [(0, AV.ptr 0 0)] [(0, .cells [Lz v0, Iz v1])] 1 (by simp) (by simp) ?_
 refine SQ [] [none] fun _ _ g r => ?_
 try simp
 and_intros <;> first | exact g _ (by kernel_rfl) | refine r _ _ _ ?_ | omega | (simp [maxLen] <;> omega)
 refine WK [(0, AV.ptr 0 0), (2, AV.ptr 1 0)] [(0, .cells [Lz v0, Iz v1]), (1, c_made_Dice_Graph_o1 )] 2 (by simp) (by simp) ?_
 refine SQ [] [none, none, none, none, none, none] fun _ _ g r => ?_
 try simp
 and_intros
 try any_goals first | omega | (simp [maxLen] <;> omega)
 obtain ⟨v6, v7, h1, hF⟩ := bnd2_elim hF
 refine aCall_l (w_made_Dice_Next k _ _ _ _ _ h1) (by simp) [0] [] [0] rfl (.cons (.same (by simp)) (.cons (.same (by simp)) .nil)) (by simp) (by decide) (by simp) (by simp) (.inl rfl) (by simp) (by simp) ?_
 try simp
 and_intros <;> first | exact g _ (by kernel_rfl) | refine r _ _ _ ?_ | omega | (simp [maxLen] <;> omega)
 refine WK [(0, AV.ptr 0 0), (2, AV.ptr 1 0), (3, AV.ptr 2 0)] [(0, .cells [Lz v0, Iz v7]), (1, c_made_Dice_Graph_o1 ), (2, .cells [Iz (IntKind.wrap .i64 (2 + v6)), AV.lst true true (List.map api_Edge.av ([] : List api_Edge)), AV.lst true true (List.map (AV.int .i64) ([] : List Int))])] 3 (by simp) (by simp) ?_
 refine AW.midF (α := Int) (fun v8 => made_Dice_Graph_o.J1 k v0 v7 v8 = some (v2, v3, v4, v5)) (fun v8 => [(0, AV.ptr 0 0), (2, AV.ptr 1 0), (3, AV.ptr 2 0)]) (fun v8 => [(0, .cells [Lz v0, Iz v7]), (1, c_made_Dice_Graph_o1 ), (2, .cells [Iz v8, AV.lst true true (List.map api_Edge.av ([] : List api_Edge)), AV.lst true true (List.map (AV.int .i64) ([] : List Int))])]) 3 (fun K210 hK210 => ?_) ?_
 ·refine SQ [] [none, none, none, none, none, none] fun _ _ g r => ?_
  try simp
  and_intros <;> first | exact g _ (by kernel_rfl) | refine r _ _ _ ?_ | omega | (simp [maxLen] <;> omega)
  refine WK [(0, AV.ptr 0 0), (2, AV.ptr 1 0), (3, AV.ptr 2 0), (16, AV.bool ((v0.length : Int) == 0))] [(0, .cells [Lz v0, Iz v7]), (1, c_made_Dice_Graph_o1 ), (2, .cells [Iz (IntKind.wrap .i64 (2 + v6)), AV.lst true true (List.map api_Edge.av ([] : List api_Edge)), AV.lst true true (List.map (AV.int .i64) ([] : List Int))])] 3 (by simp) (by simp) ?_
  by_cases h12 : (v0.length : Int) = 0
  ·replace hF := ite_t h12 hF
   have h12q : (v0.length : Int) = 0 := h12
   have h12_ := eqb_t h12q
   have h12__ := neb_f h12q
   have F1 := And.intro h12_ (And.intro h12__ h12q)
   refine CT (by simp [F1] <;> omega) ?_
   refine RG [] [none, none] fun _ _ g r => ?_
   try simp [F1]
   and_intros <;> first | exact g _ (by kernel_rfl) | refine r _ _ _ ?_ | omega | (simp [maxLen, F1] <;> omega)
   refine hK210 _ _ _ ?_
   exact JN (4) hF (by simp [F1]) (by simp [F1])
  ·replace hF := ite_f h12 hF
   have h12_ := eqb_f h12
   have h12__ := neb_t h12
   have F2 := And.intro h12 (And.intro h12_ h12__)
   refine CF (by simp [F2] <;> omega) ?_
   refine AW.skip ?_
   refine hK210 _ _ _ ?_
   exact JN (IntKind.wrap .i64 (2 + v6)) hF (by simp [F2]) (by simp [F2])
 ·rintro v8 hF
  try dsimp only at hF
  unfold made_Dice_Graph_o.J1 at hF
  refine AW.midF (α := (Int × (List Int))) (fun (v9, v10) => made_Dice_Graph_o.J2 k v0 v8 v9 v10 = some (v2, v3, v4, v5)) (fun (v9, v10) => [(0, AV.ptr 0 0), (2, AV.ptr 1 0), (3, AV.ptr 2 0)]) (fun (v9, v10) => [(0, .cells [Lz v0, Iz v9]), (1, c_made_Dice_Graph_o1 ), (2, .cells [Iz v8, AV.lst true true (List.map api_Edge.av ([] : List api_Edge)), AV.slc 3 0 1 v10.length false]), (3, .grow (List.map (AV.int .i64) v10))]) 4 (fun K207 hK207 => ?_) ?_
  ·refine SQ [] [none, none] fun _ _ g r => ?_
   try simp
   and_intros
   try any_goals first | omega | (simp [maxLen] <;> omega)
   obtain ⟨v32, v33, h9, hF⟩ := bnd2_elim hF
   refine aCall_l (w_made_Dice_One k _ _ _ _ _ h9) (by simp) [0] [] [0] rfl (.cons (.same (by simp)) (.cons (.same (by simp)) .nil)) (by simp) (by decide) (by simp) (by simp) (.inl rfl) (by simp) (by simp) ?_
   try simp
   and_intros <;> first | exact g _ (by kernel_rfl) | refine r _ _ _ ?_ | omega | (simp [maxLen] <;> omega)
   refine WK [(0, AV.ptr 0 0), (2, AV.ptr 1 0), (3, AV.ptr 2 0), (19, AV.bool v32)] [(0, .cells [Lz v0, Iz v33]), (1, c_made_Dice_Graph_o1 ), (2, .cells [Iz v8, AV.lst true true (List.map api_Edge.av ([] : List api_Edge)), AV.lst true true (List.map (AV.int .i64) ([] : List Int))])] 3 (by simp) (by simp) ?_
   by_cases h10 : v32 = true
   ·replace hF := ite_t h10 hF
    have h10_ := h10
    try simp at h10_
    refine CT (by simp [h10, h10_] <;> omega) ?_
    refine RG [24] [none, none, none, none, none, none, none] fun _ _ g r => ?_
    try simp [h10, h10_]
    and_intros
    try any_goals first | omega | (simp [h10, h10_, maxLen] <;> omega)
    obtain ⟨v34, v35, h11, hF⟩ := bnd2_elim hF
    refine aCall_l (w_made_Dice_Next k _ _ _ _ _ h11) (by simp) [0] [] [0] rfl (.cons (.same (by simp [h10, h10_])) (.cons (.same (by simp [h10, h10_])) .nil)) (by simp [h10, h10_]) (by decide) (by simp) (by simp) (.inl rfl) (by simp) (by simp) ?_
    try simp [h10, h10_]
    and_intros <;> first | exact g _ (by kernel_rfl) | refine r _ _ _ ?_ | omega | (simp [h10, h10_, maxLen] <;> omega)
    refine hK207 _ _ _ ?_
    refine Can.weak [(0, AV.ptr 0 0), (2, AV.ptr 1 0), (3, AV.ptr 2 0)] [(0, .cells [Lz v0, Iz v35]), (1, c_made_Dice_Graph_o1 ), (2, .cells [Iz v8, AV.lst true true (List.map api_Edge.av ([] : List api_Edge)), AV.slc 3 0 1 (([v34] : List Int).length) true]), (3, .cells (List.map (AV.int .i64) ([v34] : List Int)))] 4 (by simp [h10, h10_]) (by simp [h10, h10_]) (by simp) ?_
    refine Can.flg [] [(2, .cells [Iz v8, AV.lst true true (List.map api_Edge.av ([] : List api_Edge)), AV.slc 3 0 1 (([v34] : List Int).length) false]), (3, .grow (List.map (AV.int .i64) ([v34] : List Int)))] trivial ⟨⟨AObj.cells [Iz v8, AV.lst true true (List.map api_Edge.av ([] : List api_Edge)), AV.slc 3 0 1 (([v34] : List Int).length) true], by simp [h10, h10_], (.mk (.cons (.same _) (.cons (.same _) (.cons .slc .nil))))⟩, ⟨AObj.cells (List.map (AV.int .i64) ([v34] : List Int)), by simp [h10, h10_], (.gr (by simp [h10, h10_]))⟩, trivial⟩ (by simp) ?_
    exact JN ((v35, ([v34] : List Int))) hF (by simp [h10, h10_]) (by simp [h10, h10_])
   ·replace hF := ite_f h10 hF
    have h10_ := h10
    try simp at h10_
    refine CF (by simp [h10, h10_] <;> omega) ?_
    refine AW.skip ?_
    refine hK207 _ _ _ ?_
    refine Can.ownC 2 2 1 true (cs := [Iz v8, AV.lst true true (List.map api_Edge.av ([] : List api_Edge)), AV.lst true true (List.map (AV.int .i64) ([] : List Int))]) (by simp [h10, h10_]) (by simp) ?_
    exact JN ((v33, ([] : List Int))) hF (by simp [h10, h10_]) (by simp [h10, h10_])
  ·rintro ⟨v9, v10⟩ hF
   try dsimp only at hF
   unfold made_Dice_Graph_o.J2 at hF
   refine AW.seq fun K159 hK159 => ?_
   refine SQ [] [none, none, none] fun _ _ g r => ?_
   try simp
   and_intros
   try any_goals first | omega | (simp [maxLen] <;> omega)
   obtain ⟨v11, v12, h2, hF⟩ := bnd2_elim hF
   refine aCall_l (w_made_Dice_Next k _ _ _ _ _ h2) (by simp) [0] [] [0] rfl (.cons (.same (by simp)) (.cons (.same (by simp)) .nil)) (by simp) (by decide) (by simp) (by simp) (.inl rfl) (by simp) (by simp) ?_
   try simp
   and_intros <;> first | exact g _ (by kernel_rfl) | refine r _ _ _ ?_ | omega | (simp [maxLen] <;> omega)
   refine WK [(0, AV.ptr 0 0), (2, AV.ptr 1 0), (3, AV.ptr 2 0), (4, Iz v11)] [(0, .cells [Lz v0, Iz v12]), (1, c_made_Dice_Graph_o1 ), (2, .cells [Iz v8, AV.lst true true (List.map api_Edge.av ([] : List api_Edge)), AV.slc 3 0 1 v10.length false]), (3, .grow (List.map (AV.int .i64) v10))] 4 (by simp) (by simp) ?_
   refine AW.block ?_
   refine AW.ownC 1 1 3 true (cs := [Iz 0, AV.lst true true (List.map api_Edge.av ([] : List api_Edge)), AV.lst true true (List.map (AV.int .i64) ([] : List Int))]) (by simp) (by simp) ?_
   refine AW.ownC 1 2 1 true (cs := [Iz 0, AV.slc 4 0 3 (([] : List api_Edge).length) false, AV.lst true true (List.map (AV.int .i64) ([] : List Int))]) (by simp) (by simp) ?_
   refine AW.ownC 2 1 3 true (cs := [Iz v8, AV.lst true true (List.map api_Edge.av ([] : List api_Edge)), AV.slc 3 0 1 v10.length false]) (by simp) (by simp) ?_
   refine AW.rnm (m := 1) h0 [(0, 0), (1, 1), (2, 4), (3, 5), (4, 2), (5, 6), (6, 3)] [(0, AV.ptr 0 0), (2, AV.ptr 1 0), (3, AV.ptr 4 0), (4, Iz v11)] [(0, .cells [Lz v0, Iz v12]), (1, c_made_Dice_Graph_o ), (2, .grow (flatA (List.map api_Edge.av ([] : List api_Edge)))), (3, .grow (List.map (AV.int .i64) ([] : List Int))), (4, .cells [Iz v8, AV.slc 5 0 3 (([] : List api_Edge).length) false, AV.slc 6 0 1 v10.length false]), (5, .grow (flatA (List.map api_Edge.av ([] : List api_Edge)))), (6, .grow (List.map (AV.int .i64) v10))] 7 (by decide) (by decide) (by decide) rfl (by simp) (by simp) ?_
   refine AW.loopF (α := (Int × Int × Int × (List api_Edge) × (List Int))) (fun n (v13, v14, v15, v16, v17) => made_Dice_Graph_o.L3 k v0 n v13 v14 v15 v16 v17 = some (v2, v3, v4, v5)) (fun (v13, v14, v15, v16, v17) => [(0, AV.ptr 0 0), (2, AV.ptr 1 0), (3, AV.ptr 4 0), (4, Iz v13)]) (fun (v13, v14, v15, v16, v17) => [(0, .cells [Lz v0, Iz v14]), (1, c_made_Dice_Graph_o ), (2, .grow (flatA (List.map api_Edge.av ([] : List api_Edge)))), (3, .grow (List.map (AV.int .i64) ([] : List Int))), (4, .cells [Iz v15, AV.slc 5 0 3 v16.length false, AV.slc 6 0 1 v17.length false]), (5, .grow (flatA (List.map api_Edge.av v16))), (6, .grow (List.map (AV.int .i64) v17))]) 7 k ((v11, v12, v8, ([] : List api_Edge), v10)) hF (by simp) (by simp) (by simp) ?_
   rintro (_|n3) ⟨v13, v14, v15, v16, v17⟩ hF K194 hK194
   ·try dsimp only at hF
    rw [made_Dice_Graph_o.L3] at hF; cases hF
   try dsimp only at hF
   rw [made_Dice_Graph_o.L3] at hF
   refine AW.seq fun K196 hK196 => ?_
   refine SQ [] [none, none] fun _ _ g r => ?_
   try simp
   and_intros <;> first | exact g _ (by kernel_rfl) | refine r _ _ _ ?_ | omega | (simp [maxLen] <;> omega)
   refine WK [(0, AV.ptr 0 0), (2, AV.ptr 1 0), (3, AV.ptr 4 0), (4, Iz v13), (29, AV.bool (decide (0 < v13)))] [(0, .cells [Lz v0, Iz v14]), (1, c_made_Dice_Graph_o ), (2, .grow (flatA (List.map api_Edge.av ([] : List api_Edge)))), (3, .grow (List.map (AV.int .i64) ([] : List Int))), (4, .cells [Iz v15, AV.slc 5 0 3 v16.length false, AV.slc 6 0 1 v17.length false]), (5, .grow (flatA (List.map api_Edge.av v16))), (6, .grow (List.map (AV.int .i64) v17))] 7 (by simp) (by simp) ?_
   by_cases h3 : 0 < v13
   ·replace hF := ite_t h3 hF
    have h3_ := h3
    try simp at h3_
    refine CT (by simp [h3, h3_] <;> omega) ?_
    refine AW.skip ?_
    refine hK196 _ _ _ ?_
    refine AW.midF (α := (Int × Int × (List api_Edge) × (List Int))) (fun (v18, v19, v20, v21) => made_Dice_Graph_o.J4 k v13 (fun v13_ v14_ v15_ v16_ v17_ => made_Dice_Graph_o.L3 k v0 n3 v13_ v14_ v15_ v16_ v17_) v18 v19 v20 v21 = some (v2, v3, v4, v5)) (fun (v18, v19, v20, v21) => [(0, AV.ptr 0 0), (2, AV.ptr 1 0), (3, AV.ptr 4 0), (4, Iz v13)]) (fun (v18, v19, v20, v21) => [(0, .cells [Lz v0, Iz v18]), (1, c_made_Dice_Graph_o ), (2, .grow (flatA (List.map api_Edge.av ([] : List api_Edge)))), (3, .grow (List.map (AV.int .i64) ([] : List Int))), (4, .cells [Iz v19, AV.slc 5 0 3 v20.length false, AV.slc 6 0 1 v21.length false]), (5, .grow (flatA (List.map api_Edge.av v20))), (6, .grow (List.map (AV.int .i64) v21))]) 7 (fun K202 hK202 => ?_) ?_
    ·refine AW.block ?_
     refine SQ [] [none, none, none, none, none, none, none, none, none, none, none, none, none, none, none, none, none, none, none, none] fun _ _ g r => ?_
     try simp [h3, h3_]
     and_intros
     try any_goals first | omega | (simp [h3, h3_, maxLen] <;> omega)
     obtain ⟨v22, v23, h4, hF⟩ := bnd2_elim hF
     refine aCall_l (w_made_Dice_Next k _ _ _ _ _ h4) (by simp) [0] [] [0] rfl (.cons (.same (by simp [h3, h3_])) (.cons (.same (by simp [h3, h3_])) .nil)) (by simp [h3, h3_]) (by decide) (by simp) (by simp) (.inl rfl) (by simp) (by simp) ?_
     try simp [h3, h3_]
     and_intros
     try any_goals first | omega | (simp [h3, h3_, maxLen] <;> omega)
     obtain ⟨v24, v25, h5, hF⟩ := bnd2_elim hF
     refine aCall_l (w_made_Dice_Next k _ _ _ _ _ h5) (by simp) [0] [] [0] rfl (.cons (.same (by simp [h3, h3_])) (.cons (.same (by simp [h3, h3_])) .nil)) (by simp [h3, h3_]) (by decide) (by simp) (by simp) (.inl rfl) (by simp) (by simp) ?_
     try simp [h3, h3_]
     and_intros
     try any_goals first | omega | (simp [h3, h3_, maxLen] <;> omega)
     obtain ⟨v26, v27, h6, hF⟩ := bnd2_elim hF
     refine aCall_l (w_made_Dice_Next k _ _ _ _ _ h6) (by simp) [0] [] [0] rfl (.cons (.same (by simp [h3, h3_])) (.cons (.same (by simp [h3, h3_])) .nil)) (by simp [h3, h3_]) (by decide) (by simp) (by simp) (.inl rfl) (by simp) (by simp) ?_
     try simp [h3, h3_]
     and_intros
     try any_goals first | omega | (simp [h3, h3_, maxLen] <;> omega)
     obtain ⟨v28, v29, v30, v31, h7, hF⟩ := bnd4_elim hF
     refine aCall_l (w_ref11_With_o k _ _ _ _ _ _ _ _ _ _ h7) (by simp) [] [5, 6] [] rfl (.cons (.agg (.cons (.same (by simp [h3, h3_])) (.cons (Coe.l (o := .grow (flatA (List.map api_Edge.av v16))) (by simp [h3, h3_]) rfl (by simp [h3, h3_]) (by simp [noIdsL]) (by simp [h3, h3_]) (by simp [h3, h3_])) (.cons (Coe.l (o := .grow (List.map (AV.int .i64) v17)) (by simp [h3, h3_]) rfl (by simp [h3, h3_]) (by simp [noIdsL]) (by simp [h3, h3_]) (by simp [h3, h3_])) .nil)))) (.cons (.same (by simp [h3, h3_])) .nil)) (by simp [h3, h3_]) (by decide) (by simp) (by simp) (.inr ⟨by simp, by simp⟩) (by simp) (by simp) ?_
     try simp [h3, h3_]
     and_intros <;> first | exact g _ (by kernel_rfl) | refine r _ _ _ ?_ | omega | (simp [h3, h3_, maxLen] <;> omega)
     refine WK [(0, AV.ptr 0 0), (2, AV.ptr 1 0), (3, AV.ptr 4 0), (4, Iz v13), (5, AV.ptr 9 0), (6, Iz v31)] [(0, .cells [Lz v0, Iz v27]), (1, c_made_Dice_Graph_o ), (2, .grow (flatA (List.map api_Edge.av ([] : List api_Edge)))), (3, .grow (List.map (AV.int .i64) ([] : List Int))), (4, .cells [Iz v15, AV.slc 5 0 3 v16.length false, AV.slc 6 0 1 v17.length false]), (5, .grow (flatA (List.map api_Edge.av v16))), (6, .grow (List.map (AV.int .i64) v17)), (7, .grow (flatA (List.map api_Edge.av v29))), (8, .grow (List.map (AV.int .i64) v30)), (9, .cells [Iz v28, AV.slc 7 0 3 v29.length false, AV.slc 8 0 1 v30.length false])] 10 (by simp [h3, h3_]) (by simp [h3, h3_]) ?_
     refine SQ [] [none, none] fun _ _ g r => ?_
     try simp [h3, h3_]
     and_intros <;> first | exact g _ (by kernel_rfl) | refine r _ _ _ ?_ | omega | (simp [h3, h3_, maxLen] <;> omega)
     refine WK [(0, AV.ptr 0 0), (2, AV.ptr 1 0), (3, AV.ptr 4 0), (4, Iz v13), (5, AV.ptr 9 0), (50, AV.bool (v31 == 0))] [(0, .cells [Lz v0, Iz v27]), (1, c_made_Dice_Graph_o ), (2, .grow (flatA (List.map api_Edge.av ([] : List api_Edge)))), (3, .grow (List.map (AV.int .i64) ([] : List Int))), (4, .cells [Iz v15, AV.slc 5 0 3 v16.length false, AV.slc 6 0 1 v17.length false]), (5, .grow (flatA (List.map api_Edge.av v16))), (6, .grow (List.map (AV.int .i64) v17)), (7, .grow (flatA (List.map api_Edge.av v29))), (8, .grow (List.map (AV.int .i64) v30)), (9, .cells [Iz v28, AV.slc 7 0 3 v29.length false, AV.slc 8 0 1 v30.length false])] 10 (by simp [h3, h3_]) (by simp [h3, h3_]) ?_
     by_cases h8 : v31 = 0
     ·replace hF := ite_t h8 hF
      have h8q : v31 = 0 := h8
      have h8_ := eqb_t h8q
      have h8__ := neb_f h8q
      have F3 := And.intro h3 (And.intro h3_ (And.intro h8_ (And.intro h8__ h8q)))
      refine CT (by simp [F3] <;> omega) ?_
      refine RG [] [none, none] fun _ _ g r => ?_
      try simp [F3]
      and_intros <;> first | exact g _ (by kernel_rfl) | refine r _ _ _ ?_ | omega | (simp [maxLen, F3] <;> omega)
      refine hK202 _ _ _ ?_
      refine Can.weak [(0, AV.ptr 0 0), (2, AV.ptr 1 0), (3, AV.ptr 4 0), (4, Iz v13)] [(0, .cells [Lz v0, Iz v27]), (1, c_made_Dice_Graph_o ), (2, .grow (flatA (List.map api_Edge.av ([] : List api_Edge)))), (3, .grow (List.map (AV.int .i64) ([] : List Int))), (4, .cells [Iz v28, AV.slc 7 0 3 v29.length false, AV.slc 8 0 1 v30.length false]), (7, .grow (flatA (List.map api_Edge.av v29))), (8, .grow (List.map (AV.int .i64) v30))] 10 (by simp [F3]) (by simp [F3]) (by simp) ?_
      refine Can.ren (m := 1) h0 [(0, 0), (1, 1), (2, 2), (3, 3), (4, 4), (5, 7), (6, 8)] [(0, AV.ptr 0 0), (2, AV.ptr 1 0), (3, AV.ptr 4 0), (4, Iz v13)] [(0, .cells [Lz v0, Iz v27]), (1, c_made_Dice_Graph_o ), (2, .grow (flatA (List.map api_Edge.av ([] : List api_Edge)))), (3, .grow (List.map (AV.int .i64) ([] : List Int))), (4, .cells [Iz v28, AV.slc 5 0 3 v29.length false, AV.slc 6 0 1 v30.length false]), (5, .grow (flatA (List.map api_Edge.av v29))), (6, .grow (List.map (AV.int .i64) v30))] 7 (by decide) (by decide) (by decide) rfl (by simp [F3]) (by simp [F3]) ?_
      exact JN ((v27, v28, v29, v30)) hF (by simp [F3]) (by simp [F3])
     ·replace hF := ite_f h8 hF
      have h8_ := eqb_f h8
      have h8__ := neb_t h8
      have F4 := And.intro h3 (And.intro h3_ (And.intro h8 (And.intro h8_ h8__)))
      refine CF (by simp [F4] <;> omega) ?_
      refine AW.skip ?_
      refine hK202 _ _ _ ?_
      refine Can.ren (m := 1) h0 [(0, 0), (1, 1), (2, 2), (3, 3), (4, 4), (5, 5), (6, 6)] [(0, AV.ptr 0 0), (2, AV.ptr 1 0), (3, AV.ptr 4 0), (4, Iz v13)] [(0, .cells [Lz v0, Iz v27]), (1, c_made_Dice_Graph_o ), (2, .grow (flatA (List.map api_Edge.av ([] : List api_Edge)))), (3, .grow (List.map (AV.int .i64) ([] : List Int))), (4, .cells [Iz v15, AV.slc 5 0 3 v16.length false, AV.slc 6 0 1 v17.length false]), (5, .grow (flatA (List.map api_Edge.av v16))), (6, .grow (List.map (AV.int .i64) v17))] 7 (by decide) (by decide) (by decide) rfl (by simp [F4]) (by simp [F4]) ?_
      exact JN ((v27, v15, v16, v17)) hF (by simp [F4]) (by simp [F4])
    ·rintro ⟨v18, v19, v20, v21⟩ hF
     try dsimp only at hF
     unfold made_Dice_Graph_o.J4 at hF
     refine RG [] [none, none, none] fun _ _ g r => ?_
     try simp [h3, h3_]
     and_intros <;> first | exact g _ (by kernel_rfl) | refine r _ _ _ ?_ | omega | (simp [h3, h3_, maxLen] <;> omega)
     refine hK194 _ _ _ ?_
     exact NX (k' := n3) ((IntKind.wrap .i64 (v13 - 1), v18, v19, v20, v21)) hF (by simp [h3, h3_]) (by simp [h3, h3_])
   ·replace hF := ite_f h3 hF
    have h3_ := h3
    try simp at h3_
    refine CF (by simp [h3, h3_] <;> omega) ?_
    refine AW.exit ?_
    try simp
    refine hK159 _ _ _ ?_
    refine SQ [] [none, none] fun _ _ g r => ?_
    try simp [h3, h3_]
    and_intros <;> first | exact g _ (by kernel_rfl) | refine r _ _ _ ?_ | omega | (simp [h3, h3_, maxLen] <;> omega)
    refine WK [(2, AV.ptr 1 0)] [(0, .cells [Lz v0, Iz v14]), (1, .cells [Iz v15, AV.slc 5 0 3 v16.length false, AV.slc 6 0 1 v17.length false]), (5, .grow (flatA (List.map api_Edge.av v16))), (6, .grow (List.map (AV.int .i64) v17))] 7 (by simp [h3, h3_]) (by simp [h3, h3_]) ?_
    refine AW.rnm (m := 1) h0 [(0, 0), (1, 5), (2, 6), (3, 1)] [(2, AV.ptr 3 0)] [(0, .cells [Lz v0, Iz v14]), (1, .grow (flatA (List.map api_Edge.av v16))), (2, .grow (List.map (AV.int .i64) v17)), (3, .cells [Iz v15, AV.slc 1 0 3 v16.length false, AV.slc 2 0 1 v17.length false])] 4 (by decide) (by decide) (by decide) rfl (by simp [h3, h3_]) (by simp [h3, h3_]) ?_
    simp only [Option.some.injEq, Prod.mk.injEq] at hF
    obtain ⟨e0, e1, e2, e3⟩ := hF
    subst e0 e1 e2 e3
    refine AW.ret (hQ _ _ _ ?_ (matchO_0 ?_)).1
    ·simp [Try.f12, h3, h3_]
    ·simp [h3, h3_]
theorem w_made_Dice_Of (k : Nat) (v0 : (List Int)) (v1 : Int) (v2 : (List Int)) (v3 : Int) (v4 : Int) (hF : made_Dice_Of k v0 v1 v2 = some (v3, v4)) :
  FCall Try.prog 19 [AV.ptr 0 0, AV.lst false false (List.map (AV.int .i64) v2)] [.cells [AV.lst false false (List.map (AV.int .i64) v0), AV.int .i64 v1]] (AV.int .i64 v3) [some (.cells [AV.lst false false (List.map (AV.int .i64) v0), AV.int .i64 v4])] := by
 unfold made_Dice_Of at hF
 refine EN Try.func19 ?_
 intro c0 w0 Q h0 hQ
 refine WK [(0, AV.ptr 0 0), (1, Lz v2)] [(0, .cells [Lz v0, Iz v1])] 1 (by simp) (by simp) ?_
 refine SQ [] [none] fun _ _ g r => ?_
 try simp
 and_intros <;> first | exact g _ (by kernel_rfl) | refine r _ _ _ ?_ | omega | (simp [maxLen] <;> omega)
 refine WK [(0, AV.ptr 0 0), (1, Lz v2)] [(0, .cells [Lz v0, Iz v1])] 1 (by simp) (by simp) ?_
 refine SQ [] [none, none, none, none, none, none, none, none] fun _ _ g r => ?_
 try simp
 and_intros
 try any_goals first | omega | (simp [maxLen] <;> omega)
 obtain ⟨v5, v6, h1, hF⟩ := bnd2_elim hF
 refine aCall_l (w_made_Dice_Next k _ _ _ _ _ h1) (by simp) [0] [] [0] rfl (.cons (.same (by simp)) (.cons (.same (by simp)) .nil)) (by simp) (by decide) (by simp) (by simp) (.inl rfl) (by simp) (by simp) ?_
 obtain ⟨v7, h2, h3, h4, hF⟩ := idx_elim hF
 have h4_ := get_of h4
 try simp at h4_
 have h3_ := h3
 try simp at h3_
 have F1 := And.intro h2 (And.intro h3 (And.intro h4 (And.intro h4_ h3_)))
 try simp [F1]
 and_intros <;> first | exact g _ (by kernel_rfl) | refine r _ _ _ ?_ | omega | (simp [maxLen, F1] <;> omega)
 refine WK [(4, Iz v7)] [(0, .cells [Lz v0, Iz v6])] 1 (by simp [F1]) (by simp [F1]) ?_
 simp only [Option.some.injEq, Prod.mk.injEq] at hF
 obtain ⟨e0, e1⟩ := hF
 subst e0 e1
 refine AW.ret (hQ _ _ _ ?_ (matchO_0 ?_)).1
 ·simp [Try.f19, F1]
 ·simp [F1]
theorem w_ref11_Put (k : Nat) (v0 : (List Int)) (v1 : Int) (v2 : (List Int)) (hF : ref11_Put k v0 v1 = some v2) :
  FCall Try.prog 40 [AV.lst false false (List.map (AV.int .i64) v0), AV.int .i64 v1] [] (AV.slc 0 0 1 v2.length false) [some (.grow (List.map (AV.int .i64) v2))] := by
 unfold ref11_Put at hF
 refine EN Try.func40 ?_
 intro c0 w0 Q h0 hQ
 refine WK [(0, Lz v0), (1, Iz v1)] [] 0 (by simp) (by simp) ?_
 refine SQ [] [none] fun _ _ g r => ?_
 try simp
 and_intros <;> first | exact g _ (by kernel_rfl) | refine r _ _ _ ?_ | omega | (simp [maxLen] <;> omega)
 refine WK [(0, Lz v0), (1, Iz v1)] [] 0 (by simp) (by simp) ?_
 refine SQ [] [none] fun _ _ g r => ?_
 try simp
 and_intros <;> first | exact g _ (by kernel_rfl) | refine r _ _ _ ?_ | omega | (simp [maxLen] <;> omega)
 refine WK [(0, Lz v0), (1, Iz v1), (5, Iz 0)] [] 0 (by simp) (by simp) ?_
 refine AW.midF (α := Int) (fun v3 => ref11_Put.J1 k v0 v1 v3 = some v2) (fun v3 => [(0, Lz v0), (1, Iz v1), (5, Iz v3)]) (fun v3 => []) 0 (fun K69 hK69 => ?_) ?_
 ·refine AW.block ?_
  refine AW.loopF (α := Int) (fun n v5 => ref11_Put.L3 k v0 v1 n v5 = some v2) (fun v5 => [(0, Lz v0), (1, Iz v1), (5, Iz v5)]) (fun v5 => []) 0 k (0) hF (by simp) (by simp) (by simp) ?_
  rintro (_|n3) v5 hF K82 hK82
  ·try dsimp only at hF
   rw [ref11_Put.L3] at hF; cases hF
  try dsimp only at hF
  rw [ref11_Put.L3] at hF
  refine AW.seq fun K84 hK84 => ?_
  refine SQ [] [none, none, none, none, none, some (10, true), some (10, true), some (10, true), some (10, true), some (10, true), some (10, true), none] fun _ _ g r => ?_
  by_cases h14 : v5 < (v0.length : Int)
  ·replace hF := ite_t h14 hF
   have h14_ := h14
   try simp at h14_
   obtain ⟨v6, h15, h16, h17, hF⟩ := idx_elim hF
   have h17_ := get_of h17
   try simp at h17_
   have h16_ := h16
   try simp at h16_
   have F1 := And.intro h14 (And.intro h14_ (And.intro h15 (And.intro h16 (And.intro h17 (And.intro h17_ h16_)))))
   try simp [F1]
   and_intros <;> first | exact g _ (by kernel_rfl) | refine r _ _ _ ?_ | omega | (simp [maxLen, F1] <;> omega)
   refine WK [(0, Lz v0), (1, Iz v1), (5, Iz v5), (17, AV.bool (decide (v6 < v1)))] [] 0 (by simp [F1]) (by simp [F1]) ?_
   by_cases h18 : v6 < v1
   ·replace hF := ite_t h18 hF
    have h18_ := h18
    try simp at h18_
    have F2 := And.intro F1 (And.intro h18 h18_)
    refine CT (by simp [F2] <;> omega) ?_
    refine AW.skip ?_
    refine hK84 _ _ _ ?_
    refine AW.block ?_
    refine RG [] [none, none, none] fun _ _ g r => ?_
    try simp [F2]
    and_intros <;> first | exact g _ (by kernel_rfl) | refine r _ _ _ ?_ | omega | (simp [maxLen, F2] <;> omega)
    refine hK82 _ _ _ ?_
    exact NX (k' := n3) (IntKind.wrap .i64 (v5 + 1)) hF (by simp [F2]) (by simp [F2])
   ·replace hF := ite_f h18 hF
    have h18_ := h18
    try simp at h18_
    have F3 := And.intro F1 (And.intro h18 h18_)
    refine CF (by simp [F3] <;> omega) ?_
    refine AW.exit ?_
    try simp
    refine hK69 _ _ _ ?_
    exact JN (v5) hF (by simp [F3]) (by simp [F3])
  ·replace hF := ite_f h14 hF
   have h14_ := h14
   try simp at h14_
   try simp [h14, h14_]
   and_intros <;> first | exact g _ (by kernel_rfl) | refine r _ _ _ ?_ | omega | (simp [h14, h14_, maxLen] <;> omega)
   refine WK [(0, Lz v0), (1, Iz v1), (5, Iz v5), (17, AV.bool false)] [] 0 (by simp [h14, h14_]) (by simp [h14, h14_]) ?_
   refine CF (by simp [h14, h14_]) ?_
   refine AW.exit ?_
   try simp
   refine hK69 _ _ _ ?_
   exact JN (v5) hF (by simp [h14, h14_]) (by simp [h14, h14_])
 ·rintro v3 hF
  try dsimp only at hF
  unfold ref11_Put.J1 at hF
  refine AW.midF (α := Unit) (fun _ => ref11_Put.J2 k v0 v1 v3 = some v2) (fun _ => [(0, Lz v0), (1, Iz v1), (5, Iz v3)]) (fun _ => []) 0 (fun K66 hK66 => ?_) ?_
  ·refine SQ [] [none, none, none, none, none, some (24, true), some (24, true), some (24, true), some (24, true), some (24, true), some (24, true), none] fun _ _ g r => ?_
   by_cases h8 : v3 < (v0.length : Int)
   ·replace hF := ite_t h8 hF
    have h8_ := h8
    try simp at h8_
    obtain ⟨v4, h9, h10, h11, hF⟩ := idx_elim hF
    have h11_ := get_of h11
    try simp at h11_
    have h10_ := h10
    try simp at h10_
    have F4 := And.intro h8 (And.intro h8_ (And.intro h9 (And.intro h10 (And.intro h11 (And.intro h11_ h10_)))))
    try simp [F4]
    and_intros <;> first | exact g _ (by kernel_rfl) | refine r _ _ _ ?_ | omega | (simp [maxLen, F4] <;> omega)
    refine WK [(0, Lz v0), (1, Iz v1), (5, Iz v3), (31, AV.bool (v4 == v1))] [] 0 (by simp [F4]) (by simp [F4]) ?_
    by_cases h12 : v4 = v1
    ·replace hF := ite_t h12 hF
     have h12q : v4 = v1 := h12
     have h12_ := eqb_t h12q
     have h12__ := neb_f h12q
     refine CT (by simp [F4, h12_, h12__] <;> omega) ?_
     refine SQ [33] [none, none, none] fun _ _ g r => ?_
     obtain ⟨h13, hF⟩ := chk_elim hF
     have h13_ := h13
     try simp at h13_
     have F5 := And.intro F4 (And.intro h12_ (And.intro h12__ h13))
     try simp [F5]
     and_intros <;> first | exact g _ (by kernel_rfl) | refine r _ _ _ ?_ | omega | (simp [maxLen, F5] <;> omega)
     refine WK [(4, AV.slc 0 0 1 v0.length false)] [(0, .grow (List.map (AV.int .i64) v0))] 1 (by simp [F5]) (by simp [F5]) ?_
     simp only [Option.some.injEq] at hF
     subst hF
     refine AW.ret (hQ _ _ _ ?_ (matchO_0 ?_)).1
     ·simp [Try.f40, F5]
     ·simp [F5]
    ·replace hF := ite_f h12 hF
     have h12_ := eqb_f h12
     have h12__ := neb_t h12
     have F6 := And.intro F4 (And.intro h12 (And.intro h12_ h12__))
     refine CF (by simp [F6] <;> omega) ?_
     refine AW.skip ?_
     refine hK66 _ _ _ ?_
     exact JN (()) hF (by simp [F6]) (by simp [F6])
   ·replace hF := ite_f h8 hF
    have h8_ := h8
    try simp at h8_
    try simp [h8, h8_]
    and_intros <;> first | exact g _ (by kernel_rfl) | refine r _ _ _ ?_ | omega | (simp [h8, h8_, maxLen] <;> omega)
    refine WK [(0, Lz v0), (1, Iz v1), (5, Iz v3), (31, AV.bool false)] [] 0 (by simp [h8, h8_]) (by simp [h8, h8_]) ?_
    refine CF (by simp [h8, h8_]) ?_
    refine AW.skip ?_
    refine hK66 _ _ _ ?_
    exact JN (()) hF (by simp [h8, h8_]) (by simp [h8, h8_])
  ·rintro ⟨⟩ hF
   try dsimp only at hF
   unfold ref11_Put.J2 at hF
   refine SQ [37] [none, none, none, none, none, none, none, none, none, none, none, none] fun _ _ g r => ?_
   obtain ⟨⟨h1, h2⟩, hF⟩ := chk_elim hF
   have h1_ := h1
   try simp at h1_
   have h2_ := h2
   try simp at h2_
   obtain ⟨h3, hF⟩ := chk_elim hF
   have h3_ := h3
   try simp at h3_
   obtain ⟨h4, hF⟩ := chk_elim hF
   have h4_ := h4
   try simp at h4_
   obtain ⟨⟨h5, h6⟩, hF⟩ := chk_elim hF
   have h5_ := h5
   try simp at h5_
   have h6_ := h6
   try simp at h6_
   obtain ⟨h7, hF⟩ := chk_elim hF
   have h7_ := h7
   try simp at h7_
   have F7 := And.intro h1 (And.intro h2 (And.intro h1_ (And.intro h2_ (And.intro h3 (And.intro h4 (And.intro h5 (And.intro h6 (And.intro h5_ (And.intro h6_ h7)))))))))
   try simp [F7]
   and_intros <;> first | exact g _ (by kernel_rfl) | refine r _ _ _ ?_ | omega | (simp [maxLen, F7] <;> omega)
   refine RM h0 [(0, 2)] [(4, AV.slc 0 0 1 ((((v0.take (v3).toNat) ++ ([v1] : List Int)) ++ (v0.drop (v3).toNat)).length) false)] [(0, .grow (List.map (AV.int .i64) (((v0.take (v3).toNat) ++ ([v1] : List Int)) ++ (v0.drop (v3).toNat))))] 1 (by simp [F7] <;> omega) (by simp [F7]) ?_
   simp only [Option.some.injEq] at hF
   subst hF
   refine AW.ret (hQ _ _ _ ?_ (matchO_0 ?_)).1
   ·simp [Try.f40, F7]
   ·simp [F7]
abbrev c_made_Dice_Policy  : AObj := .cells [AV.lst true true (List.map (AV.int .i64) ([] : List Int)), AV.lst true true (List.map (AV.int .i64) ([] : List Int)), Iz 0]
abbrev c_made_Dice_Policy1  : AObj := .cells [AV.lst true true (List.map (AV.int .i64) ([] : List Int)), AV.slc 2 0 1 (([] : List Int).length) false, Iz 0]
theorem w_made_Dice_Policy (k : Nat) (v0 : (List Int)) (v1 : Int) (v2 : Int) (v3 : (List api_Edge)) (v4 : (List Int)) (v5 : (List Int)) (v6 : (List Int)) (v7 : Int) (v8 : Int) (hF : made_Dice_Policy k v0 v1 v2 v3 v4 = some (v5, v6, v7, v8)) :
  FCall Try.prog 16 [AV.ptr 0 0, AV.agg [AV.int .i64 v2, AV.lst false false (List.map api_Edge.av v3), AV.lst false false (List.map (AV.int .i64) v4)]] [.cells [AV.lst false false (List.map (AV.int .i64) v0), AV.int .i64 v1]] (AV.agg [AV.lst false false (List.map (AV.int .i64) v5), AV.slc 1 0 1 v6.length false, AV.int .i64 v7]) [some (.cells [AV.lst false false (List.map (AV.int .i64) v0), AV.int .i64 v8]), some (.grow (List.map (AV.int .i64) v6))] := by
 unfold made_Dice_Policy at hF
 refine EN Try.func16 ?_
 intro c0 w0 Q h0 hQ
 refine WK [(0, AV.ptr 0 0), (1, AV.agg [Iz v2, AV.lst false false (List.map api_Edge.av v3), Lz v4])] [(0, .cells [Lz v0, Iz v1])] 1 (by simp) (by simp) ?_
 refine SQ [] [none, none] fun _ _ g r => ?_
 try simp
 and_intros <;> first | exact g _ (by kernel_rfl) | refine r _ _ _ ?_ | omega | (simp [maxLen] <;> omega)
 refine WK [(0, AV.ptr 0 0), (3, AV.ptr 1 0), (4, AV.ptr 2 0)] [(0, .cells [Lz v0, Iz v1]), (1, .cells [Iz v2, AV.lst false false (List.map api_Edge.av v3), Lz v4]), (2, c_made_Dice_Policy )] 3 (by simp) (by simp) ?_
 refine SQ [] [none, none, none, none, none, none, none, none, none, none, none] fun _ _ g r => ?_
 try simp
 and_intros
 try any_goals first | omega | (simp [maxLen] <;> omega)
 obtain ⟨v9, v10, h1, hF⟩ := bnd2_elim hF
 refine aCall_l (w_made_Dice_Next k _ _ _ _ _ h1) (by simp) [0] [] [0] rfl (.cons (.same (by simp)) (.cons (.same (by simp)) .nil)) (by simp) (by decide) (by simp) (by simp) (.inl rfl) (by simp) (by simp) ?_
 try simp
 and_intros
 try any_goals first | omega | (simp [maxLen] <;> omega)
 obtain ⟨v11, v12, h2, hF⟩ := bnd2_elim hF
 refine aCall_l (w_made_Dice_Of k _ _ _ _ _ h2) (by simp) [0] [] [0] rfl (.cons (.same (by simp)) (.cons (Coe.fl (by simp)) .nil)) (by simp) (by decide) (by simp) (by simp) (.inl rfl) (by simp) (by simp) ?_
 try simp
 and_intros <;> first | exact g _ (by kernel_rfl) | refine r _ _ _ ?_ | omega | (simp [maxLen] <;> omega)
 refine WK [(0, AV.ptr 0 0), (3, AV.ptr 1 0), (4, AV.ptr 2 0), (5, AV.ptr 3 0)] [(0, .cells [Lz v0, Iz v12]), (1, .cells [Iz v2, AV.lst false false (List.map api_Edge.av v3), Lz v4]), (2, c_made_Dice_Policy ), (3, .cells [AV.lst false true (List.map (AV.int .i64) ([v9] : List Int)), AV.lst true true (List.map (AV.int .i64) ([] : List Int)), Iz v11])] 4 (by simp) (by simp) ?_
 refine AW.midF (α := (Int × (List Int))) (fun (v13, v14) => made_Dice_Policy.J1 k v0 v11 v13 v14 = some (v5, v6, v7, v8)) (fun (v13, v14) => [(0, AV.ptr 0 0), (4, AV.ptr 1 0), (5, AV.ptr 2 0)]) (fun (v13, v14) => [(0, .cells [Lz v0, Iz v13]), (1, c_made_Dice_Policy ), (2, .cells [Lz v14, AV.lst true true (List.map (AV.int .i64) ([] : List Int)), Iz v11])]) 3 (fun K170 hK170 => ?_) ?_
 ·refine SQ [] [none, none] fun _ _ g r => ?_
  try simp
  and_intros
  try any_goals first | omega | (simp [maxLen] <;> omega)
  obtain ⟨v26, v27, h9, hF⟩ := bnd2_elim hF
  refine aCall_l (w_made_Dice_One k _ _ _ _ _ h9) (by simp) [0] [] [0] rfl (.cons (.same (by simp)) (.cons (.same (by simp)) .nil)) (by simp) (by decide) (by simp) (by simp) (.inl rfl) (by simp) (by simp) ?_
  try simp
  and_intros <;> first | exact g _ (by kernel_rfl) | refine r _ _ _ ?_ | omega | (simp [maxLen] <;> omega)
  refine WK [(0, AV.ptr 0 0), (3, AV.ptr 1 0), (4, AV.ptr 2 0), (5, AV.ptr 3 0), (18, AV.bool v26)] [(0, .cells [Lz v0, Iz v27]), (1, .cells [Iz v2, AV.lst false false (List.map api_Edge.av v3), Lz v4]), (2, c_made_Dice_Policy ), (3, .cells [AV.lst false true (List.map (AV.int .i64) ([v9] : List Int)), AV.lst true true (List.map (AV.int .i64) ([] : List Int)), Iz v11])] 4 (by simp) (by simp) ?_
  by_cases h10 : v26 = true
  ·replace hF := ite_t h10 hF
   have h10_ := h10
   try simp at h10_
   refine CT (by simp [h10, h10_] <;> omega) ?_
   refine RG [] [none, none, none, none, none, none, none, none, none] fun _ _ g r => ?_
   try simp [h10, h10_]
   and_intros
   try any_goals first | omega | (simp [h10, h10_, maxLen] <;> omega)
   obtain ⟨v28, v29, h11, hF⟩ := bnd2_elim hF
   refine aCall_l (w_made_Dice_Next k _ _ _ _ _ h11) (by simp) [0] [] [0] rfl (.cons (.same (by simp [h10, h10_])) (.cons (.same (by simp [h10, h10_])) .nil)) (by simp [h10, h10_]) (by decide) (by simp) (by simp) (.inl rfl) (by simp) (by simp) ?_
   try simp [h10, h10_]
   and_intros
   try any_goals first | omega | (simp [h10, h10_, maxLen] <;> omega)
   obtain ⟨v30, h12, hF⟩ := bnd1_elim hF
   refine AC (w_ref11_Put k _ _ _ h12) (.cons (Coe.fl (by simp [h10, h10_])) (.cons (.same (by simp [h10, h10_])) .nil)) ?_
   try simp [h10, h10_]
   and_intros <;> first | exact g _ (by kernel_rfl) | refine r _ _ _ ?_ | omega | (simp [h10, h10_, maxLen] <;> omega)
   refine hK170 _ _ _ ?_
   refine Can.weak [(0, AV.ptr 0 0), (4, AV.ptr 2 0), (5, AV.ptr 3 0)] [(0, .cells [Lz v0, Iz v29]), (2, c_made_Dice_Policy ), (3, .cells [AV.slc 4 0 1 v30.length false, AV.lst true true (List.map (AV.int .i64) ([] : List Int)), Iz v11]), (4, .grow (List.map (AV.int .i64) v30))] 5 (by simp [h10, h10_]) (by simp [h10, h10_]) (by simp) ?_
   refine Can.freeze 4 (o := .grow (List.map (AV.int .i64) v30)) (by simp [h10, h10_]) rfl [] [(3, .cells [Lz v30, AV.lst true true (List.map (AV.int .i64) ([] : List Int)), Iz v11])] trivial ⟨⟨by simp, AObj.cells [AV.slc 4 0 1 v30.length false, AV.lst true true (List.map (AV.int .i64) ([] : List Int)), Iz v11], by simp [h10, h10_], (.mk (.cons (.l (by simp) (by simp) (by simp) (by simp)) (.cons (.same _) (.cons (.same _) .nil))))⟩, trivial⟩ ?_
   refine Can.ren (m := 1) h0 [(0, 0), (1, 2), (2, 3)] [(0, AV.ptr 0 0), (4, AV.ptr 1 0), (5, AV.ptr 2 0)] [(0, .cells [Lz v0, Iz v29]), (1, c_made_Dice_Policy ), (2, .cells [Lz v30, AV.lst true true (List.map (AV.int .i64) ([] : List Int)), Iz v11])] 3 (by decide) (by decide) (by decide) rfl (by simp [h10, h10_]) (by simp [h10, h10_]) ?_
   exact JN ((v29, v30)) hF (by simp [h10, h10_]) (by simp [h10, h10_])
  ·replace hF := ite_f h10 hF
   have h10_ := h10
   try simp at h10_
   refine CF (by simp [h10, h10_] <;> omega) ?_
   refine AW.skip ?_
   refine hK170 _ _ _ ?_
   refine Can.ren (m := 1) h0 [(0, 0), (1, 2), (2, 3)] [(0, AV.ptr 0 0), (4, AV.ptr 1 0), (5, AV.ptr 2 0)] [(0, .cells [Lz v0, Iz v27]), (1, c_made_Dice_Policy ), (2, .cells [AV.lst false true (List.map (AV.int .i64) ([v9] : List Int)), AV.lst true true (List.map (AV.int .i64) ([] : List Int)), Iz v11])] 3 (by decide) (by decide) (by decide) rfl (by simp [h10, h10_]) (by simp [h10, h10_]) ?_
   refine Can.flg [] [(2, .cells [Lz ([v9] : List Int), AV.lst true true (List.map (AV.int .i64) ([] : List Int)), Iz v11])] trivial ⟨⟨AObj.cells [AV.lst false true (List.map (AV.int .i64) ([v9] : List Int)), AV.lst true true (List.map (AV.int .i64) ([] : List Int)), Iz v11], by simp [h10, h10_], (.mk (.cons (.lst (by simp)) (.cons (.same _) (.cons (.same _) .nil))))⟩, trivial⟩ (by simp) ?_
   exact JN ((v27, ([v9] : List Int))) hF (by simp [h10, h10_]) (by simp [h10, h10_])
 ·rintro ⟨v13, v14⟩ hF
  try dsimp only at hF
  unfold made_Dice_Policy.J1 at hF
  refine SQ [] [none, none, none, none, none] fun _ _ g r => ?_
  try simp
  and_intros
  try any_goals first | omega | (simp [maxLen] <;> omega)
  obtain ⟨v15, v16, h3, hF⟩ := bnd2_elim hF
  refine aCall_l (w_made_Dice_Of k _ _ _ _ _ h3) (by simp) [0] [] [0] rfl (.cons (.same (by simp)) (.cons (Coe.fl (by simp)) .nil)) (by simp) (by decide) (by simp) (by simp) (.inl rfl) (by simp) (by simp) ?_
  try simp
  and_intros <;> first | exact g _ (by kernel_rfl) | refine r _ _ _ ?_ | omega | (simp [maxLen] <;> omega)
  refine WK [(0, AV.ptr 0 0), (4, AV.ptr 1 0), (5, AV.ptr 2 0), (6, Iz (IntKind.wrap .i64 (1 + v15)))] [(0, .cells [Lz v0, Iz v16]), (1, c_made_Dice_Policy ), (2, .cells [Lz v14, AV.lst true true (List.map (AV.int .i64) ([] : List Int)), Iz v11])] 3 (by simp) (by simp) ?_
  refine AW.seq fun K130 hK130 => ?_
  refine SQ [] [none, none, none, none] fun _ _ g r => ?_
  try simp
  and_intros
  try any_goals first | omega | (simp [maxLen] <;> omega)
  obtain ⟨v17, v18, h4, hF⟩ := bnd2_elim hF
  refine aCall_l (w_made_Dice_Next k _ _ _ _ _ h4) (by simp) [0] [] [0] rfl (.cons (.same (by simp)) (.cons (.same (by simp)) .nil)) (by simp) (by decide) (by simp) (by simp) (.inl rfl) (by simp) (by simp) ?_
  try simp
  and_intros <;> first | exact g _ (by kernel_rfl) | refine r _ _ _ ?_ | omega | (simp [maxLen] <;> omega)
  refine WK [(0, AV.ptr 0 0), (4, AV.ptr 1 0), (5, AV.ptr 2 0), (6, Iz (IntKind.wrap .i64 (1 + v15))), (7, Iz (IntKind.wrap .i64 (1 + v17)))] [(0, .cells [Lz v0, Iz v18]), (1, c_made_Dice_Policy ), (2, .cells [Lz v14, AV.lst true true (List.map (AV.int .i64) ([] : List Int)), Iz v11])] 3 (by simp) (by simp) ?_
  refine AW.block ?_
  refine AW.ownC 1 1 1 true (cs := [AV.lst true true (List.map (AV.int .i64) ([] : List Int)), AV.lst true true (List.map (AV.int .i64) ([] : List Int)), Iz 0]) (by simp) (by simp) ?_
  refine AW.ownC 2 1 1 true (cs := [Lz v14, AV.lst true true (List.map (AV.int .i64) ([] : List Int)), Iz v11]) (by simp) (by simp) ?_
  refine AW.rnm (m := 1) h0 [(0, 0), (1, 1), (2, 3), (3, 2), (4, 4)] [(0, AV.ptr 0 0), (4, AV.ptr 1 0), (5, AV.ptr 3 0), (6, Iz (IntKind.wrap .i64 (1 + v15))), (7, Iz (IntKind.wrap .i64 (1 + v17)))] [(0, .cells [Lz v0, Iz v18]), (1, c_made_Dice_Policy1 ), (2, .grow (List.map (AV.int .i64) ([] : List Int))), (3, .cells [Lz v14, AV.slc 4 0 1 (([] : List Int).length) false, Iz v11]), (4, .grow (List.map (AV.int .i64) ([] : List Int)))] 5 (by decide) (by decide) (by decide) rfl (by simp) (by simp) ?_
  refine AW.loopF (α := (Int × Int × Int × (List Int))) (fun n (v19, v20, v21, v22) => made_Dice_Policy.L2 k v0 v11 v14 n v19 v20 v21 v22 = some (v5, v6, v7, v8)) (fun (v19, v20, v21, v22) => [(0, AV.ptr 0 0), (4, AV.ptr 1 0), (5, AV.ptr 3 0), (6, Iz v19), (7, Iz v20)]) (fun (v19, v20, v21, v22) => [(0, .cells [Lz v0, Iz v21]), (1, c_made_Dice_Policy1 ), (2, .grow (List.map (AV.int .i64) ([] : List Int))), (3, .cells [Lz v14, AV.slc 4 0 1 v22.length false, Iz v11]), (4, .grow (List.map (AV.int .i64) v22))]) 5 k ((IntKind.wrap .i64 (1 + v15), IntKind.wrap .i64 (1 + v17), v18, ([] : List Int))) hF (by simp) (by simp) (by simp) ?_
  rintro (_|n2) ⟨v19, v20, v21, v22⟩ hF K159 hK159
  ·try dsimp only at hF
   rw [made_Dice_Policy.L2] at hF; cases hF
  try dsimp only at hF
  rw [made_Dice_Policy.L2] at hF
  refine AW.seq fun K161 hK161 => ?_
  refine SQ [] [none, none] fun _ _ g r => ?_
  try simp
  and_intros <;> first | exact g _ (by kernel_rfl) | refine r _ _ _ ?_ | omega | (simp [maxLen] <;> omega)
  refine WK [(0, AV.ptr 0 0), (4, AV.ptr 1 0), (5, AV.ptr 3 0), (6, Iz v19), (7, Iz v20), (35, AV.bool (decide (0 < v20)))] [(0, .cells [Lz v0, Iz v21]), (1, c_made_Dice_Policy1 ), (2, .grow (List.map (AV.int .i64) ([] : List Int))), (3, .cells [Lz v14, AV.slc 4 0 1 v22.length false, Iz v11]), (4, .grow (List.map (AV.int .i64) v22))] 5 (by simp) (by simp) ?_
  by_cases h5 : 0 < v20
  ·replace hF := ite_t h5 hF
   have h5_ := h5
   try simp at h5_
   refine CT (by simp [h5, h5_] <;> omega) ?_
   refine AW.skip ?_
   refine hK161 _ _ _ ?_
   refine AW.seq fun K165 hK165 => ?_
   refine AW.block ?_
   refine SQ [] [none, none, none, none, none, none, none] fun _ _ g r => ?_
   obtain ⟨h6, hF⟩ := chk_elim hF
   have h6_ := h6
   try simp at h6_
   have F1 := And.intro h5 (And.intro h5_ h6)
   try simp [F1]
   and_intros <;> first | exact g _ (by kernel_rfl) | refine r _ _ _ ?_ | omega | (simp [maxLen, F1] <;> omega)
   refine WK [(0, AV.ptr 0 0), (4, AV.ptr 1 0), (5, AV.ptr 3 0), (6, Iz v19), (7, Iz v20)] [(0, .cells [Lz v0, Iz v21]), (1, c_made_Dice_Policy1 ), (2, .grow (List.map (AV.int .i64) ([] : List Int))), (3, .cells [Lz v14, AV.slc 5 0 1 ((v22 ++ ([v19] : List Int)).length) false, Iz v11]), (5, .grow (List.map (AV.int .i64) (v22 ++ ([v19] : List Int))))] 6 (by simp [F1]) (by simp [F1] <;> omega) ?_
   refine RG [] [none, none, none, none, none, none] fun _ _ g r => ?_
   try simp [F1]
   and_intros
   try any_goals first | omega | (simp [maxLen, F1] <;> omega)
   obtain ⟨v23, v24, h7, hF⟩ := bnd2_elim hF
   refine aCall_l (w_made_Dice_Next k _ _ _ _ _ h7) (by simp) [0] [] [0] rfl (.cons (.same (by simp [F1])) (.cons (.same (by simp [F1])) .nil)) (by simp [F1]) (by decide) (by simp) (by simp) (.inl rfl) (by simp) (by simp) ?_
   obtain ⟨v25, h8, hF⟩ := let1_elim hF
   have h8_ := h8
   try simp at h8_
   have F2 := And.intro F1 (And.intro h8 h8_)
   try simp [F2]
   and_intros <;> first | exact g _ (by kernel_rfl) | refine r _ _ _ ?_ | omega | (simp [maxLen, F2] <;> omega)
   refine hK165 _ _ _ ?_
   refine WK [(0, AV.ptr 0 0), (4, AV.ptr 1 0), (5, AV.ptr 3 0), (6, Iz v25), (7, Iz v20)] [(0, .cells [Lz v0, Iz v24]), (1, c_made_Dice_Policy1 ), (2, .grow (List.map (AV.int .i64) ([] : List Int))), (3, .cells [Lz v14, AV.slc 5 0 1 ((v22 ++ ([v19] : List Int)).length) false, Iz v11]), (5, .grow (List.map (AV.int .i64) (v22 ++ ([v19] : List Int))))] 6 (by simp [F2]) (by simp [F2] <;> omega) ?_
   refine RG [] [none, none, none] fun _ _ g r => ?_
   try simp [F2]
   and_intros <;> first | exact g _ (by kernel_rfl) | refine r _ _ _ ?_ | omega | (simp [maxLen, F2] <;> omega)
   refine hK159 _ _ _ ?_
   refine Can.weak [(0, AV.ptr 0 0), (4, AV.ptr 1 0), (5, AV.ptr 3 0), (6, Iz v25), (7, Iz (IntKind.wrap .i64 (v20 - 1)))] [(0, .cells [Lz v0, Iz v24]), (1, c_made_Dice_Policy1 ), (2, .grow (List.map (AV.int .i64) ([] : List Int))), (3, .cells [Lz v14, AV.slc 5 0 1 ((v22 ++ ([v19] : List Int)).length) false, Iz v11]), (5, .grow (List.map (AV.int .i64) (v22 ++ ([v19] : List Int))))] 6 (by simp [F2]) (by simp [F2] <;> omega) (by simp) ?_
   refine Can.ren (m := 1) h0 [(0, 0), (1, 1), (2, 2), (3, 3), (4, 5)] [(0, AV.ptr 0 0), (4, AV.ptr 1 0), (5, AV.ptr 3 0), (6, Iz v25), (7, Iz (IntKind.wrap .i64 (v20 - 1)))] [(0, .cells [Lz v0, Iz v24]), (1, c_made_Dice_Policy1 ), (2, .grow (List.map (AV.int .i64) ([] : List Int))), (3, .cells [Lz v14, AV.slc 4 0 1 ((v22 ++ ([v19] : List Int)).length) false, Iz v11]), (4, .grow (List.map (AV.int .i64) (v22 ++ ([v19] : List Int))))] 5 (by decide) (by decide) (by decide) rfl (by simp [F2]) (by simp [F2]) ?_
   exact NX (k' := n2) ((v25, IntKind.wrap .i64 (v20 - 1), v24, v22 ++ ([v19] : List Int))) hF (by simp [F2]) (by simp [F2])
  ·replace hF := ite_f h5 hF
   have h5_ := h5
   try simp at h5_
   refine CF (by simp [h5, h5_] <;> omega) ?_
   refine AW.exit ?_
   try simp
   refine hK130 _ _ _ ?_
   refine SQ [] [none, none] fun _ _ g r => ?_
   try simp [h5, h5_]
   and_intros <;> first | exact g _ (by kernel_rfl) | refine r _ _ _ ?_ | omega | (simp [h5, h5_, maxLen] <;> omega)
   refine WK [(4, AV.ptr 1 0)] [(0, .cells [Lz v0, Iz v21]), (1, .cells [Lz v14, AV.slc 4 0 1 v22.length false, Iz v11]), (4, .grow (List.map (AV.int .i64) v22))] 5 (by simp [h5, h5_]) (by simp [h5, h5_]) ?_
   refine AW.rnm (m := 1) h0 [(0, 0), (1, 4), (2, 1)] [(4, AV.ptr 2 0)] [(0, .cells [Lz v0, Iz v21]), (1, .grow (List.map (AV.int .i64) v22)), (2, .cells [Lz v14, AV.slc 1 0 1 v22.length false, Iz v11])] 3 (by decide) (by decide) (by decide) rfl (by simp [h5, h5_]) (by simp [h5, h5_]) ?_
   simp only [Option.some.injEq, Prod.mk.injEq] at hF
   obtain ⟨e0, e1, e2, e3⟩ := hF
   subst e0 e1 e2 e3
   refine AW.ret (hQ _ _ _ ?_ (matchO_0 ?_)).1
   ·simp [Try.f16, h5, h5_]
   ·simp [h5, h5_]
theorem w_made_Dice_Some (k : Nat) (v0 : (List Int)) (v1 : Int) (v2 : Int) (v3 : (List Int)) (v4 : Int) (hF : made_Dice_Some k v0 v1 v2 = some (v3, v4)) :
  FCall Try.prog 17 [AV.ptr 0 0, AV.int .i64 v2] [.cells [AV.lst false false (List.map (AV.int .i64) v0), AV.int .i64 v1]] (AV.slc 1 0 1 v3.length false) [some (.cells [AV.lst false false (List.map (AV.int .i64) v0), AV.int .i64 v4]), some (.grow (List.map (AV.int .i64) v3))] := by
 unfold made_Dice_Some at hF
 refine EN Try.func17 ?_
 intro c0 w0 Q h0 hQ
 refine WK [(0, AV.ptr 0 0), (1, Iz v2)] [(0, .cells [Lz v0, Iz v1])] 1 (by simp) (by simp) ?_
 refine SQ [] [none] fun _ _ g r => ?_
 try simp
 and_intros <;> first | exact g _ (by kernel_rfl) | refine r _ _ _ ?_ | omega | (simp [maxLen] <;> omega)
 refine WK [(0, AV.ptr 0 0), (1, Iz v2)] [(0, .cells [Lz v0, Iz v1])] 1 (by simp) (by simp) ?_
 refine SQ [] [none] fun _ _ g r => ?_
 try simp
 and_intros <;> first | exact g _ (by kernel_rfl) | refine r _ _ _ ?_ | omega | (simp [maxLen] <;> omega)
 refine WK [(0, AV.ptr 0 0), (1, Iz v2), (5, AV.lst true true (List.map (AV.int .i64) ([] : List Int)))] [(0, .cells [Lz v0, Iz v1])] 1 (by simp) (by simp) ?_
 refine AW.seq fun K121 hK121 => ?_
 refine SQ [] [none] fun _ _ g r => ?_
 try simp
 and_intros <;> first | exact g _ (by kernel_rfl) | refine r _ _ _ ?_ | omega | (simp [maxLen] <;> omega)
 refine WK [(0, AV.ptr 0 0), (1, Iz v2), (5, AV.lst true true (List.map (AV.int .i64) ([] : List Int))), (6, Iz 0)] [(0, .cells [Lz v0, Iz v1])] 1 (by simp) (by simp) ?_
 refine AW.block ?_
 refine AW.own' 5 1 true (by simp) (by decide) ?_
 refine AW.loopF (α := (Int × Int × (List Int))) (fun n (v5, v6, v7) => made_Dice_Some.L1 k v0 v2 n v5 v6 v7 = some (v3, v4)) (fun (v5, v6, v7) => [(0, AV.ptr 0 0), (1, Iz v2), (5, AV.slc 1 0 1 v7.length false), (6, Iz v5)]) (fun (v5, v6, v7) => [(0, .cells [Lz v0, Iz v6]), (1, .grow (List.map (AV.int .i64) v7))]) 2 k ((0, v1, ([] : List Int))) hF (by simp) (by simp) (by simp) ?_
 rintro (_|n1) ⟨v5, v6, v7⟩ hF K150 hK150
 ·try dsimp only at hF
  rw [made_Dice_Some.L1] at hF; cases hF
 try dsimp only at hF
 rw [made_Dice_Some.L1] at hF
 refine AW.seq fun K152 hK152 => ?_
 refine SQ [] [none, none, none] fun _ _ g r => ?_
 try simp
 and_intros <;> first | exact g _ (by kernel_rfl) | refine r _ _ _ ?_ | omega | (simp [maxLen] <;> omega)
 refine WK [(0, AV.ptr 0 0), (1, Iz v2), (5, AV.slc 1 0 1 v7.length false), (6, Iz v5), (9, AV.bool (decide (v5 < v2)))] [(0, .cells [Lz v0, Iz v6]), (1, .grow (List.map (AV.int .i64) v7))] 2 (by simp) (by simp) ?_
 by_cases h1 : v5 < v2
 ·replace hF := ite_t h1 hF
  have h1_ := h1
  try simp at h1_
  refine CT (by simp [h1, h1_] <;> omega) ?_
  refine AW.skip ?_
  refine hK152 _ _ _ ?_
  refine AW.midF (α := (Int × (List Int))) (fun (v8, v9) => made_Dice_Some.J2 k v5 (fun v5_ v6_ v7_ => made_Dice_Some.L1 k v0 v2 n1 v5_ v6_ v7_) v8 v9 = some (v3, v4)) (fun (v8, v9) => [(0, AV.ptr 0 0), (1, Iz v2), (5, AV.slc 1 0 1 v9.length false), (6, Iz v5)]) (fun (v8, v9) => [(0, .cells [Lz v0, Iz v8]), (1, .grow (List.map (AV.int .i64) v9))]) 2 (fun K157 hK157 => ?_) ?_
  ·refine AW.block ?_
   refine SQ [] [none, none, none] fun _ _ g r => ?_
   try simp [h1, h1_]
   and_intros
   try any_goals first | omega | (simp [h1, h1_, maxLen] <;> omega)
   obtain ⟨v10, v11, h2, hF⟩ := bnd2_elim hF
   refine aCall_l (w_made_Dice_Next k _ _ _ _ _ h2) (by simp) [0] [] [0] rfl (.cons (.same (by simp [h1, h1_])) (.cons (.same (by simp [h1, h1_])) .nil)) (by simp [h1, h1_]) (by decide) (by simp) (by simp) (.inl rfl) (by simp) (by simp) ?_
   try simp [h1, h1_]
   and_intros <;> first | exact g _ (by kernel_rfl) | refine r _ _ _ ?_ | omega | (simp [h1, h1_, maxLen] <;> omega)
   refine WK [(0, AV.ptr 0 0), (1, Iz v2), (5, AV.slc 1 0 1 v7.length false), (6, Iz v5), (14, AV.bool (v10 == 0))] [(0, .cells [Lz v0, Iz v11]), (1, .grow (List.map (AV.int .i64) v7))] 2 (by simp [h1, h1_]) (by simp [h1, h1_]) ?_
   by_cases h3 : v10 = 0
   ·replace hF := ite_t h3 hF
    have h3q : v10 = 0 := h3
    have h3_ := eqb_t h3q
    have h3__ := neb_f h3q
    refine CT (by simp [h1, h1_, h3_, h3__, h3q] <;> omega) ?_
    refine RG [] [none, none, none, none, none] fun _ _ g r => ?_
    obtain ⟨h4, hF⟩ := chk_elim hF
    have h4_ := h4
    try simp at h4_
    have F1 := And.intro h1 (And.intro h1_ (And.intro h3_ (And.intro h3__ (And.intro h3q h4))))
    try simp [F1]
    and_intros <;> first | exact g _ (by kernel_rfl) | refine r _ _ _ ?_ | omega | (simp [maxLen, F1] <;> omega)
    refine hK157 _ _ _ ?_
    refine Can.weak [(0, AV.ptr 0 0), (1, Iz v2), (5, AV.slc 2 0 1 ((v7 ++ ([v5] : List Int)).length) false), (6, Iz v5)] [(0, .cells [Lz v0, Iz v11]), (2, .grow (List.map (AV.int .i64) (v7 ++ ([v5] : List Int))))] 3 (by simp [F1] <;> omega) (by simp [F1]) (by simp) ?_
    refine Can.ren (m := 1) h0 [(0, 0), (1, 2)] [(0, AV.ptr 0 0), (1, Iz v2), (5, AV.slc 1 0 1 ((v7 ++ ([v5] : List Int)).length) false), (6, Iz v5)] [(0, .cells [Lz v0, Iz v11]), (1, .grow (List.map (AV.int .i64) (v7 ++ ([v5] : List Int))))] 2 (by decide) (by decide) (by decide) rfl (by simp [F1]) (by simp [F1]) ?_
    exact JN ((v11, v7 ++ ([v5] : List Int))) hF (by simp [F1]) (by simp [F1])
   ·replace hF := ite_f h3 hF
    have h3_ := eqb_f h3
    have h3__ := neb_t h3
    have F2 := And.intro h1 (And.intro h1_ (And.intro h3 (And.intro h3_ h3__)))
    refine CF (by simp [F2] <;> omega) ?_
    refine AW.skip ?_
    refine hK157 _ _ _ ?_
    exact JN ((v11, v7)) hF (by simp [F2]) (by simp [F2])
  ·rintro ⟨v8, v9⟩ hF
   try dsimp only at hF
   unfold made_Dice_Some.J2 at hF
   refine RG [] [none, none, none] fun _ _ g r => ?_
   try simp [h1, h1_]
   and_intros <;> first | exact g _ (by kernel_rfl) | refine r _ _ _ ?_ | omega | (simp [h1, h1_, maxLen] <;> omega)
   refine hK150 _ _ _ ?_
   exact NX (k' := n1) ((IntKind.wrap .i64 (v5 + 1), v8, v9)) hF (by simp [h1, h1_]) (by simp [h1, h1_])
 ·replace hF := ite_f h1 hF
  have h1_ := h1
  try simp at h1_
  refine CF (by simp [h1, h1_] <;> omega) ?_
  refine AW.exit ?_
  try simp
  refine hK121 _ _ _ ?_
  refine SQ [] [none, none] fun _ _ g r => ?_
  try simp [h1, h1_]
  and_intros <;> first | exact g _ (by kernel_rfl) | refine r _ _ _ ?_ | omega | (simp [h1, h1_, maxLen] <;> omega)
  refine WK [(4, AV.slc 1 0 1 v7.length false)] [(0, .cells [Lz v0, Iz v6]), (1, .grow (List.map (AV.int .i64) v7))] 2 (by simp [h1, h1_]) (by simp [h1, h1_]) ?_
  simp only [Option.some.injEq, Prod.mk.injEq] at hF
  obtain ⟨e0, e1⟩ := hF
  subst e0 e1
  refine AW.ret (hQ _ _ _ ?_ (matchO_0 ?_)).1
  ·simp [Try.f17, h1, h1_]
  ·simp [h1, h1_]
theorem w_law13_CapacityBounds (k : Nat) (v0 : (List Int)) (v1 : Bool) (hF : law13_CapacityBounds k v0 = some v1) :
  FCall Try.prog 6 [AV.lst false false (List.map (AV.int .i64) v0)] [] (AV.bool v1) [] := by
 unfold law13_CapacityBounds at hF
 refine EN Try.func6 ?_
 intro c0 w0 Q h0 hQ
 refine WK [(0, Lz v0)] [] 0 (by simp) (by simp) ?_
 refine SQ [] [none] fun _ _ g r => ?_
 try simp
 and_intros <;> first | exact g _ (by kernel_rfl) | refine r _ _ _ ?_ | omega | (simp [maxLen] <;> omega)
 refine WK [(0, Lz v0)] [] 0 (by simp) (by simp) ?_
 refine AW.seq fun K314 hK314 => ?_
 refine SQ [] [none, none, none] fun _ _ g r => ?_
 try simp
 and_intros
 try any_goals first | omega | (simp [maxLen] <;> omega)
 obtain ⟨v2, h1, hF⟩ := bnd1_elim hF
 refine AC (w_made_Light k _ _ h1) (.cons (.same (by simp)) .nil) ?_
 try simp
 and_intros <;> first | exact g _ (by kernel_rfl) | refine r _ _ _ ?_ | omega | (simp [maxLen] <;> omega)
 refine WK [(0, Lz v0), (23, AV.bool (!v2))] [] 0 (by simp) (by simp) ?_
 by_cases h2 : (!v2) = true
 ·replace hF := ite_t h2 hF
  have h2_ := h2
  try simp at h2_
  refine CT (by simp [h2, h2_] <;> omega) ?_
  refine SQ [] [none, none] fun _ _ g r => ?_
  try simp [h2, h2_]
  and_intros
  try any_goals first | omega | (simp [h2, h2_, maxLen] <;> omega)
  obtain ⟨v3, h3, hF⟩ := bnd1_elim hF
  refine AC (w_law13_awake k _ h3) .nil ?_
  try simp [h2, h2_]
  and_intros <;> first | exact g _ (by kernel_rfl) | refine r _ _ _ ?_ | omega | (simp [h2, h2_, maxLen] <;> omega)
  refine WK [(2, AV.bool v3)] [] 0 (by simp [h2, h2_]) (by simp [h2, h2_]) ?_
  simp only [Option.some.injEq] at hF
  subst hF
  refine AW.ret (hQ _ _ _ ?_ (matchO_0 ?_)).1
  ·simp [Try.f6, h2, h2_]
  ·simp [h2, h2_]
 ·replace hF := ite_f h2 hF
  have h2_ := h2
  try simp at h2_
  refine CF (by simp [h2, h2_] <;> omega) ?_
  refine AW.skip ?_
  refine hK314 _ _ _ ?_
  refine SQ [] [none, none, none] fun _ _ g r => ?_
  try simp [h2, h2_]
  and_intros
  try any_goals first | omega | (simp [h2, h2_, maxLen] <;> omega)
  obtain ⟨v4, v5, h4, hF⟩ := bnd2_elim hF
  refine AC (w_made_Roll k _ _ _ h4) (.cons (.same (by simp [h2, h2_])) .nil) ?_
  try simp [h2, h2_]
  and_intros <;> first | exact g _ (by kernel_rfl) | refine r _ _ _ ?_ | omega | (simp [h2, h2_, maxLen] <;> omega)
  refine WK [(3, AV.ptr 0 0)] [(0, .cells [Lz v4, Iz v5])] 1 (by simp [h2, h2_]) (by simp [h2, h2_]) ?_
  refine SQ [] [none, none, none, none] fun _ _ g r => ?_
  try simp [h2, h2_]
  and_intros
  try any_goals first | omega | (simp [h2, h2_, maxLen] <;> omega)
  obtain ⟨v6, v7, v8, v9, h5, hF⟩ := bnd4_elim hF
  refine aCall_l (w_made_Dice_Graph_o k _ _ _ _ _ _ h5) (by simp) [0] [] [0] rfl (.cons (.same (by simp [h2, h2_])) .nil) (by simp [h2, h2_]) (by decide) (by simp) (by simp) (.inl rfl) (by simp) (by simp) ?_
  try simp [h2, h2_]
  and_intros <;> first | exact g _ (by kernel_rfl) | refine r _ _ _ ?_ | omega | (simp [h2, h2_, maxLen] <;> omega)
  refine WK [(3, AV.ptr 0 0), (4, AV.ptr 3 0)] [(0, .cells [Lz v4, Iz v9]), (1, .grow (flatA (List.map api_Edge.av v7))), (2, .grow (List.map (AV.int .i64) v8)), (3, .cells [Iz v6, AV.slc 1 0 3 v7.length false, AV.slc 2 0 1 v8.length false])] 4 (by simp [h2, h2_]) (by simp [h2, h2_]) ?_
  refine AW.frz 1 (o := .grow (flatA (List.map api_Edge.av v7))) (by simp [h2, h2_]) rfl [] [(3, .cells [Iz v6, AV.lst false false (List.map api_Edge.av v7), AV.slc 2 0 1 v8.length false])] trivial ⟨⟨by simp, AObj.cells [Iz v6, AV.slc 1 0 3 v7.length false, AV.slc 2 0 1 v8.length false], by simp [h2, h2_], (.mk (.cons (.same _) (.cons (.l (by simp) (by simp) (by simp) (by simp)) (.cons (.same _) .nil))))⟩, trivial⟩ ?_
  refine AW.frz 2 (o := .grow (List.map (AV.int .i64) v8)) (by simp [h2, h2_]) rfl [] [(3, .cells [Iz v6, AV.lst false false (List.map api_Edge.av v7), Lz v8])] trivial ⟨⟨by simp, AObj.cells [Iz v6, AV.lst false false (List.map api_Edge.av v7), AV.slc 2 0 1 v8.length false], by simp [h2, h2_], (.mk (.cons (.same _) (.cons (.same _) (.cons (.l (by simp) (by simp) (by simp) (by simp)) .nil))))⟩, trivial⟩ ?_
  refine WK [(3, AV.ptr 0 0), (4, AV.ptr 3 0)] [(0, .cells [Lz v4, Iz v9]), (3, .cells [Iz v6, AV.lst false false (List.map api_Edge.av v7), Lz v8])] 4 (by simp [h2, h2_]) (by simp [h2, h2_]) ?_
  refine SQ [] [none, none, none, none, none] fun _ _ g r => ?_
  try simp [h2, h2_]
  and_intros
  try any_goals first | omega | (simp [h2, h2_, maxLen] <;> omega)
  obtain ⟨v10, v11, v12, v13, h6, hF⟩ := bnd4_elim hF
  refine aCall_l (w_made_Dice_Policy k _ _ _ _ _ _ _ _ _ h6) (by simp) [0] [] [0] rfl (.cons (.same (by simp [h2, h2_])) (.cons (.same (by simp [h2, h2_])) .nil)) (by simp [h2, h2_]) (by decide) (by simp) (by simp) (.inl rfl) (by simp) (by simp) ?_
  try simp [h2, h2_]
  and_intros <;> first | exact g _ (by kernel_rfl) | refine r _ _ _ ?_ | omega | (simp [h2, h2_, maxLen] <;> omega)
  refine WK [(3, AV.ptr 0 0), (4, AV.ptr 3 0), (5, AV.ptr 5 0)] [(0, .cells [Lz v4, Iz v13]), (3, .cells [Iz v6, AV.lst false false (List.map api_Edge.av v7), Lz v8]), (4, .grow (List.map (AV.int .i64) v11)), (5, .cells [Lz v10, AV.slc 4 0 1 v11.length false, Iz v12])] 6 (by simp [h2, h2_]) (by simp [h2, h2_]) ?_
  refine AW.frz 4 (o := .grow (List.map (AV.int .i64) v11)) (by simp [h2, h2_]) rfl [] [(5, .cells [Lz v10, Lz v11, Iz v12])] trivial ⟨⟨by simp, AObj.cells [Lz v10, AV.slc 4 0 1 v11.length false, Iz v12], by simp [h2, h2_], (.mk (.cons (.same _) (.cons (.l (by simp) (by simp) (by simp) (by simp)) (.cons (.same _) .nil))))⟩, trivial⟩ ?_
  refine WK [(3, AV.ptr 0 0), (4, AV.ptr 3 0), (5, AV.ptr 5 0)] [(0, .cells [Lz v4, Iz v13]), (3, .cells [Iz v6, AV.lst false false (List.map api_Edge.av v7), Lz v8]), (5, .cells [Lz v10, Lz v11, Iz v12])] 6 (by simp [h2, h2_]) (by simp [h2, h2_]) ?_
  refine SQ [] [none, none, none, none, none] fun _ _ g r => ?_
  try simp [h2, h2_]
  and_intros
  try any_goals first | omega | (simp [h2, h2_, maxLen] <;> omega)
  obtain ⟨v14, v15, h7, hF⟩ := bnd2_elim hF
  refine aCall_l (w_made_Dice_Some k _ _ _ _ _ h7) (by simp) [0] [] [0] rfl (.cons (.same (by simp [h2, h2_])) (.cons (.same (by simp [h2, h2_])) .nil)) (by simp [h2, h2_]) (by decide) (by simp) (by simp) (.inl rfl) (by simp) (by simp) ?_
  try simp [h2, h2_]
  and_intros <;> first | exact g _ (by kernel_rfl) | refine r _ _ _ ?_ | omega | (simp [h2, h2_, maxLen] <;> omega)
  refine WK [(3, AV.ptr 0 0), (4, AV.ptr 3 0), (5, AV.ptr 5 0), (6, AV.slc 6 0 1 v14.length false)] [(0, .cells [Lz v4, Iz v15]), (3, .cells [Iz v6, AV.lst false false (List.map api_Edge.av v7), Lz v8]), (5, .cells [Lz v10, Lz v11, Iz v12]), (6, .grow (List.map (AV.int .i64) v14))] 7 (by simp [h2, h2_]) (by simp [h2, h2_]) ?_
  refine AW.frz 6 (o := .grow (List.map (AV.int .i64) v14)) (by simp [h2, h2_]) rfl [(6, Lz v14)] [] ⟨(.l (by simp) (by simp) (by simp) (by simp)), trivial⟩ trivial ?_
  refine WK [(3, AV.ptr 0 0), (4, AV.ptr 3 0), (5, AV.ptr 5 0), (6, Lz v14)] [(0, .cells [Lz v4, Iz v15]), (3, .cells [Iz v6, AV.lst false false (List.map api_Edge.av v7), Lz v8]), (5, .cells [Lz v10, Lz v11, Iz v12])] 7 (by simp [h2, h2_]) (by simp [h2, h2_]) ?_
  refine SQ [] [none, none, none, none] fun _ _ g r => ?_
  try simp [h2, h2_]
  and_intros
  try any_goals first | omega | (simp [h2, h2_, maxLen] <;> omega)
  obtain ⟨v16, v17, v18, h8, hF⟩ := bnd3_elim hF
  refine AC (w_ref11_Copy_o k _ _ _ _ _ _ h8) (.cons (.same (by simp [h2, h2_])) .nil) ?_
  try simp [h2, h2_]
  and_intros <;> first | exact g _ (by kernel_rfl) | refine r _ _ _ ?_ | omega | (simp [h2, h2_, maxLen] <;> omega)
  refine WK [(3, AV.ptr 0 0), (4, AV.ptr 3 0), (5, AV.ptr 5 0), (6, Lz v14), (7, AV.ptr 9 0)] [(0, .cells [Lz v4, Iz v15]), (3, .cells [Iz v6, AV.lst false false (List.map api_Edge.av v7), Lz v8]), (5, .cells [Lz v10, Lz v11, Iz v12]), (7, .grow (flatA (List.map api_Edge.av v17))), (8, .grow (List.map (AV.int .i64) v18)), (9, .cells [Iz v16, AV.slc 7 0 3 v17.length false, AV.slc 8 0 1 v18.length false])] 10 (by simp [h2, h2_]) (by simp [h2, h2_]) ?_
  refine AW.frz 7 (o := .grow (flatA (List.map api_Edge.av v17))) (by simp [h2, h2_]) rfl [] [(9, .cells [Iz v16, AV.lst false false (List.map api_Edge.av v17), AV.slc 8 0 1 v18.length false])] trivial ⟨⟨by simp, AObj.cells [Iz v16, AV.slc 7 0 3 v17.length false, AV.slc 8 0 1 v18.length false], by simp [h2, h2_], (.mk (.cons (.same _) (.cons (.l (by simp) (by simp) (by simp) (by simp)) (.cons (.same _) .nil))))⟩, trivial⟩ ?_
  refine AW.frz 8 (o := .grow (List.map (AV.int .i64) v18)) (by simp [h2, h2_]) rfl [] [(9, .cells [Iz v16, AV.lst false false (List.map api_Edge.av v17), Lz v18])] trivial ⟨⟨by simp, AObj.cells [Iz v16, AV.lst false false (List.map api_Edge.av v17), AV.slc 8 0 1 v18.length false], by simp [h2, h2_], (.mk (.cons (.same _) (.cons (.same _) (.cons (.l (by simp) (by simp) (by simp) (by simp)) .nil))))⟩, trivial⟩ ?_
  refine WK [(3, AV.ptr 0 0), (4, AV.ptr 3 0), (5, AV.ptr 5 0), (6, Lz v14), (7, AV.ptr 9 0)] [(0, .cells [Lz v4, Iz v15]), (3, .cells [Iz v6, AV.lst false false (List.map api_Edge.av v7), Lz v8]), (5, .cells [Lz v10, Lz v11, Iz v12]), (9, .cells [Iz v16, AV.lst false false (List.map api_Edge.av v17), Lz v18])] 10 (by simp [h2, h2_]) (by simp [h2, h2_]) ?_
  refine AW.midF (α := (Int × (List api_Edge) × (List Int))) (fun (v19, v20, v21) => law13_CapacityBounds.J1 k v6 v7 v8 v10 v11 v12 v14 v19 v20 v21 = some v1) (fun (v19, v20, v21) => [(4, AV.ptr 0 0), (5, AV.ptr 1 0), (6, Lz v14), (7, AV.ptr 2 0)]) (fun (v19, v20, v21) => [(0, .cells [Iz v6, AV.lst false false (List.map api_Edge.av v7), Lz v8]), (1, .cells [Lz v10, Lz v11, Iz v12]), (2, .cells [Iz v19, AV.lst false false (List.map api_Edge.av v20), Lz v21])]) 3 (fun K574 hK574 => ?_) ?_
  ·refine SQ [] [none, none, none] fun _ _ g r => ?_
   try simp [h2, h2_]
   and_intros
   try any_goals first | omega | (simp [h2, h2_, maxLen] <;> omega)
   obtain ⟨v47, v48, h49, hF⟩ := bnd2_elim hF
   refine aCall_l (w_made_Dice_Next k _ _ _ _ _ h49) (by simp) [0] [] [0] rfl (.cons (.same (by simp [h2, h2_])) (.cons (.same (by simp [h2, h2_])) .nil)) (by simp [h2, h2_]) (by decide) (by simp) (by simp) (.inl rfl) (by simp) (by simp) ?_
   try simp [h2, h2_]
   and_intros <;> first | exact g _ (by kernel_rfl) | refine r _ _ _ ?_ | omega | (simp [h2, h2_, maxLen] <;> omega)
   refine WK [(3, AV.ptr 0 0), (4, AV.ptr 3 0), (5, AV.ptr 5 0), (6, Lz v14), (7, AV.ptr 9 0), (8, Iz v47)] [(0, .cells [Lz v4, Iz v48]), (3, .cells [Iz v6, AV.lst false false (List.map api_Edge.av v7), Lz v8]), (5, .cells [Lz v10, Lz v11, Iz v12]), (9, .cells [Iz v16, AV.lst false false (List.map api_Edge.av v17), Lz v18])] 10 (by simp [h2, h2_]) (by simp [h2, h2_]) ?_
   refine AW.block ?_
   refine RM h0 [(0, 0), (1, 3), (2, 5), (3, 9)] [(3, AV.ptr 0 0), (4, AV.ptr 1 0), (5, AV.ptr 2 0), (6, Lz v14), (7, AV.ptr 3 0), (8, Iz v47)] [(0, .cells [Lz v4, Iz v48]), (1, .cells [Iz v6, AV.lst false false (List.map api_Edge.av v7), Lz v8]), (2, .cells [Lz v10, Lz v11, Iz v12]), (3, .cells [Iz v16, AV.lst false false (List.map api_Edge.av v17), Lz v18])] 4 (by simp [h2, h2_]) (by simp [h2, h2_]) ?_
   refine AW.loopF (α := (Int × Int × Int × (List api_Edge) × (List Int))) (fun n (v49, v50, v51, v52, v53) => law13_CapacityBounds.L8 k v4 v6 v7 v8 v10 v11 v12 v14 n v49 v50 v51 v52 v53 = some v1) (fun (v49, v50, v51, v52, v53) => [(3, AV.ptr 0 0), (4, AV.ptr 1 0), (5, AV.ptr 2 0), (6, Lz v14), (7, AV.ptr 3 0), (8, Iz v49)]) (fun (v49, v50, v51, v52, v53) => [(0, .cells [Lz v4, Iz v50]), (1, .cells [Iz v6, AV.lst false false (List.map api_Edge.av v7), Lz v8]), (2, .cells [Lz v10, Lz v11, Iz v12]), (3, .cells [Iz v51, AV.lst false false (List.map api_Edge.av v52), Lz v53])]) 4 k ((v47, v48, v16, v17, v18)) hF (by simp [h2, h2_]) (by simp [h2, h2_]) (by simp) ?_
   rintro (_|n8) ⟨v49, v50, v51, v52, v53⟩ hF K609 hK609
   ·try dsimp only at hF
    rw [law13_CapacityBounds.L8] at hF; cases hF
   try dsimp only at hF
   rw [law13_CapacityBounds.L8] at hF
   refine AW.seq fun K611 hK611 => ?_
   refine SQ [] [none, none, none, some (42, true), some (42, true), some (42, true), none] fun _ _ g r => ?_
   by_cases h50 : 0 < v49
   ·replace hF := ite_t h50 hF
    have h50_ := h50
    try simp at h50_
    have F1 := And.intro h2 (And.intro h2_ (And.intro h50 h50_))
    try simp [F1]
    and_intros <;> first | exact g _ (by kernel_rfl) | refine r _ _ _ ?_ | omega | (simp [maxLen, F1] <;> omega)
    refine WK [(3, AV.ptr 0 0), (4, AV.ptr 1 0), (5, AV.ptr 2 0), (6, Lz v14), (7, AV.ptr 3 0), (8, Iz v49), (46, AV.bool (decide (0 < (v14.length : Int))))] [(0, .cells [Lz v4, Iz v50]), (1, .cells [Iz v6, AV.lst false false (List.map api_Edge.av v7), Lz v8]), (2, .cells [Lz v10, Lz v11, Iz v12]), (3, .cells [Iz v51, AV.lst false false (List.map api_Edge.av v52), Lz v53])] 4 (by simp [F1]) (by simp [F1]) ?_
    by_cases h51 : 0 < (v14.length : Int)
    ·replace hF := ite_t h51 hF
     have h51_ := h51
     try simp at h51_
     have F2 := And.intro F1 (And.intro h51 h51_)
     refine CT (by simp [F2] <;> omega) ?_
     refine AW.skip ?_
     refine hK611 _ _ _ ?_
     refine AW.midF (α := (Int × Int × (List api_Edge) × (List Int))) (fun (v54, v55, v56, v57) => law13_CapacityBounds.J9 k v49 (fun v49_ v50_ v51_ v52_ v53_ => law13_CapacityBounds.L8 k v4 v6 v7 v8 v10 v11 v12 v14 n8 v49_ v50_ v51_ v52_ v53_) v54 v55 v56 v57 = some v1) (fun (v54, v55, v56, v57) => [(3, AV.ptr 0 0), (4, AV.ptr 1 0), (5, AV.ptr 2 0), (6, Lz v14), (7, AV.ptr 3 0), (8, Iz v49)]) (fun (v54, v55, v56, v57) => [(0, .cells [Lz v4, Iz v54]), (1, .cells [Iz v6, AV.lst false false (List.map api_Edge.av v7), Lz v8]), (2, .cells [Lz v10, Lz v11, Iz v12]), (3, .cells [Iz v55, AV.lst false false (List.map api_Edge.av v56), Lz v57])]) 4 (fun K617 hK617 => ?_) ?_
     ·refine AW.block ?_
      refine SQ [] [none, none, none, none, none, none, none, none, none, none, none, none, none, none, none, none, none, none, none, none, none, none, none, none, none, none] fun _ _ g r => ?_
      try simp [F2]
      and_intros
      try any_goals first | omega | (simp [maxLen, F2] <;> omega)
      obtain ⟨v58, v59, h52, hF⟩ := bnd2_elim hF
      refine aCall_l (w_made_Dice_Next k _ _ _ _ _ h52) (by simp) [0] [] [0] rfl (.cons (.same (by simp [F2])) (.cons (.same (by simp [F2])) .nil)) (by simp [F2]) (by decide) (by simp) (by simp) (.inl rfl) (by simp) (by simp) ?_
      obtain ⟨v60, h53, h54, h55, hF⟩ := idx_elim hF
      have h55_ := get_of h55
      try simp at h55_
      have h54_ := h54
      try simp at h54_
      have F3 := And.intro F2 (And.intro h53 (And.intro h54 (And.intro h55 (And.intro h55_ h54_))))
      try simp [F3]
      and_intros
      try any_goals first | omega | (simp [maxLen, F3] <;> omega)
      obtain ⟨v61, v62, h56, hF⟩ := bnd2_elim hF
      refine aCall_l (w_made_Dice_Next k _ _ _ _ _ h56) (by simp) [0] [] [0] rfl (.cons (.same (by simp [F3])) (.cons (.same (by simp [F3])) .nil)) (by simp [F3]) (by decide) (by simp) (by simp) (.inl rfl) (by simp) (by simp) ?_
      obtain ⟨v63, h57, h58, h59, hF⟩ := idx_elim hF
      have h59_ := get_of h59
      try simp at h59_
      have h58_ := h58
      try simp at h58_
      have F4 := And.intro F3 (And.intro h57 (And.intro h58 (And.intro h59 (And.intro h59_ h58_))))
      try simp [F4]
      and_intros
      try any_goals first | omega | (simp [maxLen, F4] <;> omega)
      obtain ⟨v64, v65, h60, hF⟩ := bnd2_elim hF
      refine aCall_l (w_made_Dice_Next k _ _ _ _ _ h60) (by simp) [0] [] [0] rfl (.cons (.same (by simp [F4])) (.cons (.same (by simp [F4])) .nil)) (by simp [F4]) (by decide) (by simp) (by simp) (.inl rfl) (by simp) (by simp) ?_
      try simp [F4]
      and_intros
      try any_goals first | omega | (simp [maxLen, F4] <;> omega)
      obtain ⟨v66, v67, v68, v69, h61, hF⟩ := bnd4_elim hF
      refine AC (w_ref11_With_o k _ _ _ _ _ _ _ _ _ _ h61) (.cons (.same (by simp [F4])) (.cons (.same (by simp [F4])) .nil)) ?_
      try simp [F4]
      and_intros <;> first | exact g _ (by kernel_rfl) | refine r _ _ _ ?_ | omega | (simp [maxLen, F4] <;> omega)
      refine WK [(3, AV.ptr 0 0), (4, AV.ptr 1 0), (5, AV.ptr 2 0), (6, Lz v14), (7, AV.ptr 3 0), (8, Iz v49), (9, AV.ptr 6 0), (10, Iz v69)] [(0, .cells [Lz v4, Iz v65]), (1, .cells [Iz v6, AV.lst false false (List.map api_Edge.av v7), Lz v8]), (2, .cells [Lz v10, Lz v11, Iz v12]), (3, .cells [Iz v51, AV.lst false false (List.map api_Edge.av v52), Lz v53]), (4, .grow (flatA (List.map api_Edge.av v67))), (5, .grow (List.map (AV.int .i64) v68)), (6, .cells [Iz v66, AV.slc 4 0 3 v67.length false, AV.slc 5 0 1 v68.length false])] 7 (by simp [F4]) (by simp [F4]) ?_
      refine AW.frz 4 (o := .grow (flatA (List.map api_Edge.av v67))) (by simp [F4]) rfl [] [(6, .cells [Iz v66, AV.lst false false (List.map api_Edge.av v67), AV.slc 5 0 1 v68.length false])] trivial ⟨⟨by simp, AObj.cells [Iz v66, AV.slc 4 0 3 v67.length false, AV.slc 5 0 1 v68.length false], by simp [F4], (.mk (.cons (.same _) (.cons (.l (by simp) (by simp) (by simp) (by simp)) (.cons (.same _) .nil))))⟩, trivial⟩ ?_
      refine AW.frz 5 (o := .grow (List.map (AV.int .i64) v68)) (by simp [F4]) rfl [] [(6, .cells [Iz v66, AV.lst false false (List.map api_Edge.av v67), Lz v68])] trivial ⟨⟨by simp, AObj.cells [Iz v66, AV.lst false false (List.map api_Edge.av v67), AV.slc 5 0 1 v68.length false], by simp [F4], (.mk (.cons (.same _) (.cons (.same _) (.cons (.l (by simp) (by simp) (by simp) (by simp)) .nil))))⟩, trivial⟩ ?_
      refine WK [(3, AV.ptr 0 0), (4, AV.ptr 1 0), (5, AV.ptr 2 0), (6, Lz v14), (7, AV.ptr 3 0), (8, Iz v49), (9, AV.ptr 6 0), (10, Iz v69)] [(0, .cells [Lz v4, Iz v65]), (1, .cells [Iz v6, AV.lst false false (List.map api_Edge.av v7), Lz v8]), (2, .cells [Lz v10, Lz v11, Iz v12]), (3, .cells [Iz v51, AV.lst false false (List.map api_Edge.av v52), Lz v53]), (6, .cells [Iz v66, AV.lst false false (List.map api_Edge.av v67), Lz v68])] 7 (by simp [F4]) (by simp [F4]) ?_
      refine SQ [] [none, none] fun _ _ g r => ?_
      try simp [F4]
      and_intros <;> first | exact g _ (by kernel_rfl) | refine r _ _ _ ?_ | omega | (simp [maxLen, F4] <;> omega)
      refine WK [(3, AV.ptr 0 0), (4, AV.ptr 1 0), (5, AV.ptr 2 0), (6, Lz v14), (7, AV.ptr 3 0), (8, Iz v49), (9, AV.ptr 6 0), (73, AV.bool (v69 == 0))] [(0, .cells [Lz v4, Iz v65]), (1, .cells [Iz v6, AV.lst false false (List.map api_Edge.av v7), Lz v8]), (2, .cells [Lz v10, Lz v11, Iz v12]), (3, .cells [Iz v51, AV.lst false false (List.map api_Edge.av v52), Lz v53]), (6, .cells [Iz v66, AV.lst false false (List.map api_Edge.av v67), Lz v68])] 7 (by simp [F4]) (by simp [F4]) ?_
      by_cases h62 : v69 = 0
      ·replace hF := ite_t h62 hF
       have h62q : v69 = 0 := h62
       have h62_ := eqb_t h62q
       have h62__ := neb_f h62q
       have F5 := And.intro F4 (And.intro h62_ (And.intro h62__ h62q))
       refine CT (by simp [F5] <;> omega) ?_
       refine RG [] [none, none] fun _ _ g r => ?_
       try simp [F5]
       and_intros <;> first | exact g _ (by kernel_rfl) | refine r _ _ _ ?_ | omega | (simp [maxLen, F5] <;> omega)
       refine hK617 _ _ _ ?_
       refine RN h0 [(0, 0), (1, 1), (2, 2), (3, 3)] [(3, AV.ptr 0 0), (4, AV.ptr 1 0), (5, AV.ptr 2 0), (6, Lz v14), (7, AV.ptr 3 0), (8, Iz v49)] [(0, .cells [Lz v4, Iz v65]), (1, .cells [Iz v6, AV.lst false false (List.map api_Edge.av v7), Lz v8]), (2, .cells [Lz v10, Lz v11, Iz v12]), (3, .cells [Iz v66, AV.lst false false (List.map api_Edge.av v67), Lz v68])] 4 (by simp [F5]) (by simp [F5]) ?_
       exact JN ((v65, v66, v67, v68)) hF (by simp [F5]) (by simp [F5])
      ·replace hF := ite_f h62 hF
       have h62_ := eqb_f h62
       have h62__ := neb_t h62
       have F6 := And.intro F4 (And.intro h62 (And.intro h62_ h62__))
       refine CF (by simp [F6] <;> omega) ?_
       refine AW.skip ?_
       refine hK617 _ _ _ ?_
       refine RN h0 [(0, 0), (1, 1), (2, 2), (3, 3)] [(3, AV.ptr 0 0), (4, AV.ptr 1 0), (5, AV.ptr 2 0), (6, Lz v14), (7, AV.ptr 3 0), (8, Iz v49)] [(0, .cells [Lz v4, Iz v65]), (1, .cells [Iz v6, AV.lst false false (List.map api_Edge.av v7), Lz v8]), (2, .cells [Lz v10, Lz v11, Iz v12]), (3, .cells [Iz v51, AV.lst false false (List.map api_Edge.av v52), Lz v53])] 4 (by simp [F6]) (by simp [F6]) ?_
       exact JN ((v65, v51, v52, v53)) hF (by simp [F6]) (by simp [F6])
     ·rintro ⟨v54, v55, v56, v57⟩ hF
      try dsimp only at hF
      unfold law13_CapacityBounds.J9 at hF
      refine RG [] [none, none, none] fun _ _ g r => ?_
      try simp [F2]
      and_intros <;> first | exact g _ (by kernel_rfl) | refine r _ _ _ ?_ | omega | (simp [maxLen, F2] <;> omega)
      refine hK609 _ _ _ ?_
      exact NX (k' := n8) ((IntKind.wrap .i64 (v49 - 1), v54, v55, v56, v57)) hF (by simp [F2]) (by simp [F2])
    ·replace hF := ite_f h51 hF
     have h51_ := h51
     try simp at h51_
     have F7 := And.intro F1 (And.intro h51 h51_)
     refine CF (by simp [F7] <;> omega) ?_
     refine AW.exit ?_
     try simp
     refine hK574 _ _ _ ?_
     refine RN h0 [(0, 1), (1, 2), (2, 3)] [(4, AV.ptr 0 0), (5, AV.ptr 1 0), (6, Lz v14), (7, AV.ptr 2 0)] [(0, .cells [Iz v6, AV.lst false false (List.map api_Edge.av v7), Lz v8]), (1, .cells [Lz v10, Lz v11, Iz v12]), (2, .cells [Iz v51, AV.lst false false (List.map api_Edge.av v52), Lz v53])] 3 (by simp [F7]) (by simp [F7]) ?_
     exact JN ((v51, v52, v53)) hF (by simp [F7]) (by simp [F7])
   ·replace hF := ite_f h50 hF
    have h50_ := h50
    try simp at h50_
    have F8 := And.intro h2 (And.intro h2_ (And.intro h50 h50_))
    try simp [F8]
    and_intros <;> first | exact g _ (by kernel_rfl) | refine r _ _ _ ?_ | omega | (simp [maxLen, F8] <;> omega)
    refine WK [(3, AV.ptr 0 0), (4, AV.ptr 1 0), (5, AV.ptr 2 0), (6, Lz v14), (7, AV.ptr 3 0), (8, Iz v49), (46, AV.bool false)] [(0, .cells [Lz v4, Iz v50]), (1, .cells [Iz v6, AV.lst false false (List.map api_Edge.av v7), Lz v8]), (2, .cells [Lz v10, Lz v11, Iz v12]), (3, .cells [Iz v51, AV.lst false false (List.map api_Edge.av v52), Lz v53])] 4 (by simp [F8]) (by simp [F8]) ?_
    refine CF (by simp [F8]) ?_
    refine AW.exit ?_
    try simp
    refine hK574 _ _ _ ?_
    refine RN h0 [(0, 1), (1, 2), (2, 3)] [(4, AV.ptr 0 0), (5, AV.ptr 1 0), (6, Lz v14), (7, AV.ptr 2 0)] [(0, .cells [Iz v6, AV.lst false false (List.map api_Edge.av v7), Lz v8]), (1, .cells [Lz v10, Lz v11, Iz v12]), (2, .cells [Iz v51, AV.lst false false (List.map api_Edge.av v52), Lz v53])] 3 (by simp [F8]) (by simp [F8]) ?_
    exact JN ((v51, v52, v53)) hF (by simp [F8]) (by simp [F8])
  ·rintro ⟨v19, v20, v21⟩ hF
   try dsimp only at hF
   unfold law13_CapacityBounds.J1 at hF
   refine SQ [] [none] fun _ _ g r => ?_
   try simp [h2, h2_]
   and_intros <;> first | exact g _ (by kernel_rfl) | refine r _ _ _ ?_ | omega | (simp [h2, h2_, maxLen] <;> omega)
   refine WK [(4, AV.ptr 0 0), (5, AV.ptr 1 0), (6, Lz v14), (7, AV.ptr 2 0), (11, AV.lst true true (List.map (AV.int .i64) ([] : List Int)))] [(0, .cells [Iz v6, AV.lst false false (List.map api_Edge.av v7), Lz v8]), (1, .cells [Lz v10, Lz v11, Iz v12]), (2, .cells [Iz v19, AV.lst false false (List.map api_Edge.av v20), Lz v21])] 3 (by simp [h2, h2_]) (by simp [h2, h2_]) ?_
   refine AW.seq fun K399 hK399 => ?_
   refine SQ [] [none, none, none, none] fun _ _ g r => ?_
   try simp [h2, h2_]
   and_intros <;> first | exact g _ (by kernel_rfl) | refine r _ _ _ ?_ | omega | (simp [h2, h2_, maxLen] <;> omega)
   refine WK [(4, AV.ptr 0 0), (5, AV.ptr 1 0), (6, Lz v14), (7, AV.ptr 2 0), (11, AV.lst true true (List.map (AV.int .i64) ([] : List Int))), (12, Iz (IntKind.wrap .i64 ((v14.length : Int) - 1)))] [(0, .cells [Iz v6, AV.lst false false (List.map api_Edge.av v7), Lz v8]), (1, .cells [Lz v10, Lz v11, Iz v12]), (2, .cells [Iz v19, AV.lst false false (List.map api_Edge.av v20), Lz v21])] 3 (by simp [h2, h2_]) (by simp [h2, h2_]) ?_
   refine AW.block ?_
   refine AW.own' 11 1 true (by simp [h2, h2_]) (by decide) ?_
   refine AW.loopF (α := (Int × (List Int))) (fun n (v22, v23) => law13_CapacityBounds.L2 k v6 v7 v8 v10 v11 v12 v14 v19 v20 v21 n v22 v23 = some v1) (fun (v22, v23) => [(4, AV.ptr 0 0), (5, AV.ptr 1 0), (6, Lz v14), (7, AV.ptr 2 0), (11, AV.slc 3 0 1 v23.length false), (12, Iz v22)]) (fun (v22, v23) => [(0, .cells [Iz v6, AV.lst false false (List.map api_Edge.av v7), Lz v8]), (1, .cells [Lz v10, Lz v11, Iz v12]), (2, .cells [Iz v19, AV.lst false false (List.map api_Edge.av v20), Lz v21]), (3, .grow (List.map (AV.int .i64) v23))]) 4 k ((IntKind.wrap .i64 ((v14.length : Int) - 1), ([] : List Int))) hF (by simp [h2, h2_]) (by simp [h2, h2_]) (by simp) ?_
   rintro (_|n2) ⟨v22, v23⟩ hF K422 hK422
   ·try dsimp only at hF
    rw [law13_CapacityBounds.L2] at hF; cases hF
   try dsimp only at hF
   rw [law13_CapacityBounds.L2] at hF
   refine AW.seq fun K424 hK424 => ?_
   refine SQ [] [none, none] fun _ _ g r => ?_
   try simp [h2, h2_]
   and_intros <;> first | exact g _ (by kernel_rfl) | refine r _ _ _ ?_ | omega | (simp [h2, h2_, maxLen] <;> omega)
   refine WK [(4, AV.ptr 0 0), (5, AV.ptr 1 0), (6, Lz v14), (7, AV.ptr 2 0), (11, AV.slc 3 0 1 v23.length false), (12, Iz v22), (79, AV.bool (decide (0 ≤ v22)))] [(0, .cells [Iz v6, AV.lst false false (List.map api_Edge.av v7), Lz v8]), (1, .cells [Lz v10, Lz v11, Iz v12]), (2, .cells [Iz v19, AV.lst false false (List.map api_Edge.av v20), Lz v21]), (3, .grow (List.map (AV.int .i64) v23))] 4 (by simp [h2, h2_]) (by simp [h2, h2_]) ?_
   by_cases h9 : 0 ≤ v22
   ·replace hF := ite_t h9 hF
    have h9_ := h9
    try simp at h9_
    have F9 := And.intro h2 (And.intro h2_ (And.intro h9 h9_))
    refine CT (by simp [F9] <;> omega) ?_
    refine AW.skip ?_
    refine hK424 _ _ _ ?_
    refine AW.seq fun K427 hK427 => ?_
    refine AW.block ?_
    refine RG [] [none, none, none, none, none, none, none, none, none, none, none, none] fun _ _ g r => ?_
    obtain ⟨v24, h10, h11, h12, hF⟩ := idx_elim hF
    have h12_ := get_of h12
    try simp at h12_
    have h11_ := h11
    try simp at h11_
    obtain ⟨h13, hF⟩ := chk_elim hF
    have h13_ := h13
    try simp at h13_
    have F10 := And.intro F9 (And.intro h10 (And.intro h11 (And.intro h12 (And.intro h12_ (And.intro h11_ h13)))))
    try simp [F10]
    and_intros <;> first | exact g _ (by kernel_rfl) | refine r _ _ _ ?_ | omega | (simp [maxLen, F10] <;> omega)
    refine hK427 _ _ _ ?_
    refine WK [(4, AV.ptr 0 0), (5, AV.ptr 1 0), (6, Lz v14), (7, AV.ptr 2 0), (11, AV.slc 4 0 1 ((v23 ++ ([v24, v24] : List Int)).length) false), (12, Iz v22)] [(0, .cells [Iz v6, AV.lst false false (List.map api_Edge.av v7), Lz v8]), (1, .cells [Lz v10, Lz v11, Iz v12]), (2, .cells [Iz v19, AV.lst false false (List.map api_Edge.av v20), Lz v21]), (4, .grow (List.map (AV.int .i64) (v23 ++ ([v24, v24] : List Int))))] 5 (by simp [F10] <;> omega) (by simp [F10]) ?_
    refine RG [] [none, none, none] fun _ _ g r => ?_
    try simp [F10]
    and_intros <;> first | exact g _ (by kernel_rfl) | refine r _ _ _ ?_ | omega | (simp [maxLen, F10] <;> omega)
    refine hK422 _ _ _ ?_
    refine RN h0 [(0, 0), (1, 1), (2, 2), (3, 4)] [(4, AV.ptr 0 0), (5, AV.ptr 1 0), (6, Lz v14), (7, AV.ptr 2 0), (11, AV.slc 3 0 1 ((v23 ++ ([v24, v24] : List Int)).length) false), (12, Iz (IntKind.wrap .i64 (v22 - 1)))] [(0, .cells [Iz v6, AV.lst false false (List.map api_Edge.av v7), Lz v8]), (1, .cells [Lz v10, Lz v11, Iz v12]), (2, .cells [Iz v19, AV.lst false false (List.map api_Edge.av v20), Lz v21]), (3, .grow (List.map (AV.int .i64) (v23 ++ ([v24, v24] : List Int))))] 4 (by simp [F10] <;> omega) (by simp [F10]) ?_
    exact NX (k' := n2) ((IntKind.wrap .i64 (v22 - 1), v23 ++ ([v24, v24] : List Int))) hF (by simp [F10]) (by simp [F10])
   ·replace hF := ite_f h9 hF
    have h9_ := h9
    try simp at h9_
    have F11 := And.intro h2 (And.intro h2_ (And.intro h9 h9_))
    refine CF (by simp [F11] <;> omega) ?_
    refine AW.exit ?_
    try simp
    refine hK399 _ _ _ ?_
    refine WK [(4, AV.ptr 0 0), (5, AV.ptr 1 0), (6, Lz v14), (7, AV.ptr 2 0), (11, AV.slc 3 0 1 v23.length false)] [(0, .cells [Iz v6, AV.lst false false (List.map api_Edge.av v7), Lz v8]), (1, .cells [Lz v10, Lz v11, Iz v12]), (2, .cells [Iz v19, AV.lst false false (List.map api_Edge.av v20), Lz v21]), (3, .grow (List.map (AV.int .i64) v23))] 4 (by simp [F11]) (by simp [F11]) ?_
    refine AW.frz 3 (o := .grow (List.map (AV.int .i64) v23)) (by simp [F11]) rfl [(11, Lz v23)] [] ⟨(.l (by simp) (by simp) (by simp) (by simp)), trivial⟩ trivial ?_
    refine WK [(4, AV.ptr 0 0), (5, AV.ptr 1 0), (6, Lz v14), (7, AV.ptr 2 0), (11, Lz v23)] [(0, .cells [Iz v6, AV.lst false false (List.map api_Edge.av v7), Lz v8]), (1, .cells [Lz v10, Lz v11, Iz v12]), (2, .cells [Iz v19, AV.lst false false (List.map api_Edge.av v20), Lz v21])] 4 (by simp [F11]) (by simp [F11]) ?_
    refine SQ [] [none, none, none, none, none, none, none, none] fun _ _ g r => ?_
    try simp [F11]
    and_intros
    try any_goals first | omega | (simp [maxLen, F11] <;> omega)
    obtain ⟨v25, h14, hF⟩ := bnd1_elim hF
    refine AC (w_capacity_All k _ _ _ _ _ _ _ h14) (.cons (.same (by simp [F11])) (.cons (.same (by simp [F11])) .nil)) ?_
    try simp [F11]
    and_intros
    try any_goals first | omega | (simp [maxLen, F11] <;> omega)
    obtain ⟨v26, h15, hF⟩ := bnd1_elim hF
    refine AC (w_capacity_All k _ _ _ _ _ _ _ h15) (.cons (.same (by simp [F11])) (.cons (.same (by simp [F11])) .nil)) ?_
    try simp [F11]
    and_intros <;> first | exact g _ (by kernel_rfl) | refine r _ _ _ ?_ | omega | (simp [maxLen, F11] <;> omega)
    refine WK [(4, AV.ptr 0 0), (5, AV.ptr 1 0), (6, Lz v14), (7, AV.ptr 2 0), (11, Lz v23), (13, AV.slc 4 0 1 v25.length false), (14, AV.slc 5 0 1 v26.length false)] [(0, .cells [Iz v6, AV.lst false false (List.map api_Edge.av v7), Lz v8]), (1, .cells [Lz v10, Lz v11, Iz v12]), (2, .cells [Iz v19, AV.lst false false (List.map api_Edge.av v20), Lz v21]), (4, .cells (List.map (AV.int .i64) v25)), (5, .cells (List.map (AV.int .i64) v26))] 6 (by simp [F11]) (by simp [F11]) ?_
    refine AW.frz 4 (o := .cells (List.map (AV.int .i64) v25)) (by simp [F11]) rfl [(13, Lz v25)] [] ⟨(.l (by simp) (by simp) (by simp) (by simp)), trivial⟩ trivial ?_
    refine AW.frz 5 (o := .cells (List.map (AV.int .i64) v26)) (by simp [F11]) rfl [(14, Lz v26)] [] ⟨(.l (by simp) (by simp) (by simp) (by simp)), trivial⟩ trivial ?_
    refine WK [(4, AV.ptr 0 0), (5, AV.ptr 1 0), (6, Lz v14), (7, AV.ptr 2 0), (11, Lz v23), (13, Lz v25), (14, Lz v26)] [(0, .cells [Iz v6, AV.lst false false (List.map api_Edge.av v7), Lz v8]), (1, .cells [Lz v10, Lz v11, Iz v12]), (2, .cells [Iz v19, AV.lst false false (List.map api_Edge.av v20), Lz v21])] 6 (by simp [F11]) (by simp [F11]) ?_
    refine SQ [] [none, none, none, none, none, none] fun _ _ g r => ?_
    try simp [F11]
    and_intros <;> first | exact g _ (by kernel_rfl) | refine r _ _ _ ?_ | omega | (simp [maxLen, F11] <;> omega)
    refine WK [(4, AV.ptr 0 0), (5, AV.ptr 1 0), (6, Lz v14), (7, AV.ptr 2 0), (11, Lz v23), (13, Lz v25), (14, Lz v26), (15, AV.bool ((v25.length : Int) == (v26.length : Int)))] [(0, .cells [Iz v6, AV.lst false false (List.map api_Edge.av v7), Lz v8]), (1, .cells [Lz v10, Lz v11, Iz v12]), (2, .cells [Iz v19, AV.lst false false (List.map api_Edge.av v20), Lz v21])] 6 (by simp [F11]) (by simp [F11]) ?_
    refine AW.midF (α := Bool) (fun v27 => law13_CapacityBounds.J3 k v6 v7 v8 v10 v11 v12 v14 v19 v20 v21 v23 v27 = some v1) (fun v27 => [(4, AV.ptr 0 0), (5, AV.ptr 1 0), (6, Lz v14), (7, AV.ptr 2 0), (11, Lz v23), (15, AV.bool v27)]) (fun v27 => [(0, .cells [Iz v6, AV.lst false false (List.map api_Edge.av v7), Lz v8]), (1, .cells [Lz v10, Lz v11, Iz v12]), (2, .cells [Iz v19, AV.lst false false (List.map api_Edge.av v20), Lz v21])]) 3 (fun K543 hK543 => ?_) ?_
    ·refine SQ [] [none] fun _ _ g r => ?_
     try simp [F11]
     and_intros <;> first | exact g _ (by kernel_rfl) | refine r _ _ _ ?_ | omega | (simp [maxLen, F11] <;> omega)
     refine WK [(4, AV.ptr 0 0), (5, AV.ptr 1 0), (6, Lz v14), (7, AV.ptr 2 0), (11, Lz v23), (13, Lz v25), (14, Lz v26), (15, AV.bool ((v25.length : Int) == (v26.length : Int))), (16, Iz 0)] [(0, .cells [Iz v6, AV.lst false false (List.map api_Edge.av v7), Lz v8]), (1, .cells [Lz v10, Lz v11, Iz v12]), (2, .cells [Iz v19, AV.lst false false (List.map api_Edge.av v20), Lz v21])] 6 (by simp [F11]) (by simp [F11]) ?_
     refine AW.block ?_
     refine RM h0 [(0, 0), (1, 1), (2, 2)] [(4, AV.ptr 0 0), (5, AV.ptr 1 0), (6, Lz v14), (7, AV.ptr 2 0), (11, Lz v23), (13, Lz v25), (14, Lz v26), (15, AV.bool ((v25.length : Int) == (v26.length : Int))), (16, Iz 0)] [(0, .cells [Iz v6, AV.lst false false (List.map api_Edge.av v7), Lz v8]), (1, .cells [Lz v10, Lz v11, Iz v12]), (2, .cells [Iz v19, AV.lst false false (List.map api_Edge.av v20), Lz v21])] 3 (by simp [F11]) (by simp [F11]) ?_
     refine AW.loopF (α := (Bool × Int)) (fun n (v40, v41) => law13_CapacityBounds.L6 k v6 v7 v8 v10 v11 v12 v14 v19 v20 v21 v23 v25 v26 n v40 v41 = some v1) (fun (v40, v41) => [(4, AV.ptr 0 0), (5, AV.ptr 1 0), (6, Lz v14), (7, AV.ptr 2 0), (11, Lz v23), (13, Lz v25), (14, Lz v26), (15, AV.bool v40), (16, Iz v41)]) (fun (v40, v41) => [(0, .cells [Iz v6, AV.lst false false (List.map api_Edge.av v7), Lz v8]), (1, .cells [Lz v10, Lz v11, Iz v12]), (2, .cells [Iz v19, AV.lst false false (List.map api_Edge.av v20), Lz v21])]) 3 k ((((v25.length : Int) == (v26.length : Int)), 0)) hF (by simp [F11]) (by simp [F11]) (by simp) ?_
     rintro (_|n6) ⟨v40, v41⟩ hF K566 hK566
     ·try dsimp only at hF
      rw [law13_CapacityBounds.L6] at hF; cases hF
     try dsimp only at hF
     rw [law13_CapacityBounds.L6] at hF
     refine AW.seq fun K568 hK568 => ?_
     refine SQ [] [none, none, none, none, none, some (108, true), none] fun _ _ g r => ?_
     by_cases h37 : v41 < (v25.length : Int)
     ·replace hF := ite_t h37 hF
      have h37_ := h37
      try simp at h37_
      have F12 := And.intro F11 (And.intro h37 h37_)
      try simp [F12]
      and_intros <;> first | exact g _ (by kernel_rfl) | refine r _ _ _ ?_ | omega | (simp [maxLen, F12] <;> omega)
      refine WK [(4, AV.ptr 0 0), (5, AV.ptr 1 0), (6, Lz v14), (7, AV.ptr 2 0), (11, Lz v23), (13, Lz v25), (14, Lz v26), (15, AV.bool v40), (16, Iz v41), (110, AV.bool v40)] [(0, .cells [Iz v6, AV.lst false false (List.map api_Edge.av v7), Lz v8]), (1, .cells [Lz v10, Lz v11, Iz v12]), (2, .cells [Iz v19, AV.lst false false (List.map api_Edge.av v20), Lz v21])] 3 (by simp [F12]) (by simp [F12]) ?_
      by_cases h38 : v40 = true
      ·replace hF := ite_t h38 hF
       have h38_ := h38
       try simp at h38_
       have F13 := And.intro F12 (And.intro h38 h38_)
       refine CT (by simp [F13] <;> omega) ?_
       refine AW.skip ?_
       refine hK568 _ _ _ ?_
       refine AW.midF (α := Bool) (fun v42 => law13_CapacityBounds.J7 k v41 (fun v40_ v41_ => law13_CapacityBounds.L6 k v6 v7 v8 v10 v11 v12 v14 v19 v20 v21 v23 v25 v26 n6 v40_ v41_) v42 = some v1) (fun v42 => [(4, AV.ptr 0 0), (5, AV.ptr 1 0), (6, Lz v14), (7, AV.ptr 2 0), (11, Lz v23), (13, Lz v25), (14, Lz v26), (15, AV.bool v42), (16, Iz v41)]) (fun v42 => [(0, .cells [Iz v6, AV.lst false false (List.map api_Edge.av v7), Lz v8]), (1, .cells [Lz v10, Lz v11, Iz v12]), (2, .cells [Iz v19, AV.lst false false (List.map api_Edge.av v20), Lz v21])]) 3 (fun K572 hK572 => ?_) ?_
       ·refine AW.block ?_
        refine RG [] [none, none, none, none, none, none, none, none, none, none, some (122, false), some (122, false), some (122, false), some (122, false), some (126, true), some (126, true), some (126, true), some (126, true), some (126, true), some (122, false), none, none] fun _ _ g r => ?_
        obtain ⟨v43, h39, h40, h41, hF⟩ := idx_elim hF
        have h41_ := get_of h41
        try simp at h41_
        have h40_ := h40
        try simp at h40_
        obtain ⟨v44, h42, h43, h44, hF⟩ := idx_elim hF
        have h44_ := get_of h44
        try simp at h44_
        have h43_ := h43
        try simp at h43_
        by_cases h45 : v43 = v44
        ·replace hF := ite_t h45 hF
         have h45q : v43 = v44 := h45
         have h45_ := eqb_t h45q
         have h45__ := neb_f h45q
         have F14 := And.intro F13 (And.intro h39 (And.intro h40 (And.intro h41 (And.intro h41_ (And.intro h40_ (And.intro h42 (And.intro h43 (And.intro h44 (And.intro h44_ (And.intro h43_ (And.intro h45_ h45__)))))))))))
         try simp [F14]
         and_intros <;> first | exact g _ (by kernel_rfl) | refine r _ _ _ ?_ | omega | (simp [maxLen, F14] <;> omega)
         refine hK572 _ _ _ ?_
         exact JN (true) hF (by simp [F14]) (by simp [F14])
        ·replace hF := ite_f h45 hF
         have h45_ := eqb_f h45
         have h45__ := neb_t h45
         have F15 := And.intro F13 (And.intro h39 (And.intro h40 (And.intro h41 (And.intro h41_ (And.intro h40_ (And.intro h42 (And.intro h43 (And.intro h44 (And.intro h44_ (And.intro h43_ (And.intro h45 (And.intro h45_ h45__))))))))))))
         try simp [F15]
         and_intros
         try any_goals first | omega | (simp [maxLen, F15] <;> omega)
         obtain ⟨v45, h46, hF⟩ := bnd1_elim hF
         refine AC (w_ref11_Has k _ _ _ h46) (.cons (.same (by simp [F15])) (.cons (.same (by simp [F15])) .nil)) ?_
         by_cases h47 : v45 = true
         ·replace hF := ite_t h47 hF
          have h47_ := h47
          try simp at h47_
          have F16 := And.intro F15 (And.intro h47 h47_)
          try simp [F16]
          and_intros
          try any_goals first | omega | (simp [maxLen, F16] <;> omega)
          obtain ⟨v46, h48, hF⟩ := bnd1_elim hF
          refine AC (w_ref11_Has k _ _ _ h48) (.cons (.same (by simp [F16])) (.cons (.same (by simp [F16])) .nil)) ?_
          try simp [F16]
          and_intros <;> first | exact g _ (by kernel_rfl) | refine r _ _ _ ?_ | omega | (simp [maxLen, F16] <;> omega)
          refine hK572 _ _ _ ?_
          exact JN ((!v46)) hF (by simp [F16]) (by simp [F16])
         ·replace hF := ite_f h47 hF
          have h47_ := h47
          try simp at h47_
          have F17 := And.intro F15 (And.intro h47 h47_)
          try simp [F17]
          and_intros <;> first | exact g _ (by kernel_rfl) | refine r _ _ _ ?_ | omega | (simp [maxLen, F17] <;> omega)
          refine hK572 _ _ _ ?_
          exact JN (false) hF (by simp [F17]) (by simp [F17])
       ·rintro v42 hF
        try dsimp only at hF
        unfold law13_CapacityBounds.J7 at hF
        refine RG [] [none, none, none] fun _ _ g r => ?_
        try simp [F13]
        and_intros <;> first | exact g _ (by kernel_rfl) | refine r _ _ _ ?_ | omega | (simp [maxLen, F13] <;> omega)
        refine hK566 _ _ _ ?_
        exact NX (k' := n6) ((v42, IntKind.wrap .i64 (v41 + 1))) hF (by simp [F13]) (by simp [F13])
      ·replace hF := ite_f h38 hF
       have h38_ := h38
       try simp at h38_
       have F18 := And.intro F12 (And.intro h38 h38_)
       refine CF (by simp [F18] <;> omega) ?_
       refine AW.exit ?_
       try simp
       refine hK543 _ _ _ ?_
       exact JN (v40) hF (by simp [F18]) (by simp [F18])
     ·replace hF := ite_f h37 hF
      have h37_ := h37
      try simp at h37_
      have F19 := And.intro F11 (And.intro h37 h37_)
      try simp [F19]
      and_intros <;> first | exact g _ (by kernel_rfl) | refine r _ _ _ ?_ | omega | (simp [maxLen, F19] <;> omega)
      refine WK [(4, AV.ptr 0 0), (5, AV.ptr 1 0), (6, Lz v14), (7, AV.ptr 2 0), (11, Lz v23), (13, Lz v25), (14, Lz v26), (15, AV.bool v40), (16, Iz v41), (110, AV.bool false)] [(0, .cells [Iz v6, AV.lst false false (List.map api_Edge.av v7), Lz v8]), (1, .cells [Lz v10, Lz v11, Iz v12]), (2, .cells [Iz v19, AV.lst false false (List.map api_Edge.av v20), Lz v21])] 3 (by simp [F19]) (by simp [F19]) ?_
      refine CF (by simp [F19]) ?_
      refine AW.exit ?_
      try simp
      refine hK543 _ _ _ ?_
      exact JN (v40) hF (by simp [F19]) (by simp [F19])
    ·rintro v27 hF
     try dsimp only at hF
     unfold law13_CapacityBounds.J3 at hF
     refine SQ [] [none, none, none, none, none] fun _ _ g r => ?_
     try simp [F11]
     and_intros
     try any_goals first | omega | (simp [maxLen, F11] <;> omega)
     obtain ⟨v28, h16, hF⟩ := bnd1_elim hF
     refine AC (w_capacity_Bound k _ _ _ _ _ _ _ _ h16) (.cons (.same (by simp [F11])) (.cons (.same (by simp [F11])) (.cons (.same (by simp [F11])) .nil))) ?_
     try simp [F11]
     and_intros <;> first | exact g _ (by kernel_rfl) | refine r _ _ _ ?_ | omega | (simp [maxLen, F11] <;> omega)
     refine WK [(4, AV.ptr 0 0), (5, AV.ptr 1 0), (6, Lz v14), (7, AV.ptr 2 0), (11, Lz v23), (15, AV.bool v27), (17, Iz v28)] [(0, .cells [Iz v6, AV.lst false false (List.map api_Edge.av v7), Lz v8]), (1, .cells [Lz v10, Lz v11, Iz v12]), (2, .cells [Iz v19, AV.lst false false (List.map api_Edge.av v20), Lz v21])] 3 (by simp [F11]) (by simp [F11]) ?_
     refine SQ [] [none, none, none, none, none] fun _ _ g r => ?_
     try simp [F11]
     and_intros <;> first | exact g _ (by kernel_rfl) | refine r _ _ _ ?_ | omega | (simp [maxLen, F11] <;> omega)
     refine WK [(4, AV.ptr 0 0), (5, AV.ptr 1 0), (6, Lz v14), (7, AV.ptr 2 0), (11, Lz v23), (15, AV.bool v27), (17, Iz v28), (18, AV.ptr 3 0)] [(0, .cells [Iz v6, AV.lst false false (List.map api_Edge.av v7), Lz v8]), (1, .cells [Lz v10, Lz v11, Iz v12]), (2, .cells [Iz v19, AV.lst false false (List.map api_Edge.av v20), Lz v21]), (3, .cells [Iz v6, AV.lst true true (List.map api_Edge.av ([] : List api_Edge)), AV.lst true true (List.map (AV.int .i64) ([] : List Int))])] 4 (by simp [F11]) (by simp [F11]) ?_
     refine SQ [] [none] fun _ _ g r => ?_
     try simp [F11]
     and_intros <;> first | exact g _ (by kernel_rfl) | refine r _ _ _ ?_ | omega | (simp [maxLen, F11] <;> omega)
     refine WK [(4, AV.ptr 0 0), (5, AV.ptr 1 0), (6, Lz v14), (7, AV.ptr 2 0), (11, Lz v23), (15, AV.bool v27), (17, Iz v28), (18, AV.ptr 3 0), (19, Iz 0)] [(0, .cells [Iz v6, AV.lst false false (List.map api_Edge.av v7), Lz v8]), (1, .cells [Lz v10, Lz v11, Iz v12]), (2, .cells [Iz v19, AV.lst false false (List.map api_Edge.av v20), Lz v21]), (3, .cells [Iz v6, AV.lst true true (List.map api_Edge.av ([] : List api_Edge)), AV.lst true true (List.map (AV.int .i64) ([] : List Int))])] 4 (by simp [F11]) (by simp [F11]) ?_
     refine AW.seq fun K503 hK503 => ?_
     refine SQ [] [none] fun _ _ g r => ?_
     try simp [F11]
     and_intros <;> first | exact g _ (by kernel_rfl) | refine r _ _ _ ?_ | omega | (simp [maxLen, F11] <;> omega)
     refine WK [(4, AV.ptr 0 0), (5, AV.ptr 1 0), (6, Lz v14), (7, AV.ptr 2 0), (11, Lz v23), (15, AV.bool v27), (17, Iz v28), (18, AV.ptr 3 0), (19, Iz 0), (20, Iz 0)] [(0, .cells [Iz v6, AV.lst false false (List.map api_Edge.av v7), Lz v8]), (1, .cells [Lz v10, Lz v11, Iz v12]), (2, .cells [Iz v19, AV.lst false false (List.map api_Edge.av v20), Lz v21]), (3, .cells [Iz v6, AV.lst true true (List.map api_Edge.av ([] : List api_Edge)), AV.lst true true (List.map (AV.int .i64) ([] : List Int))])] 4 (by simp [F11]) (by simp [F11]) ?_
     refine AW.block ?_
     refine AW.flg [] [(3, .cells [Iz v6, AV.lst false false (List.map api_Edge.av ([] : List api_Edge)), AV.lst true true (List.map (AV.int .i64) ([] : List Int))])] trivial ⟨⟨AObj.cells [Iz v6, AV.lst true true (List.map api_Edge.av ([] : List api_Edge)), AV.lst true true (List.map (AV.int .i64) ([] : List Int))], by simp [F11], (.mk (.cons (.same _) (.cons (.lst (by simp)) (.cons (.same _) .nil))))⟩, trivial⟩ (by simp) ?_
     refine AW.loopF (α := (Int × Int)) (fun n (v29, v30) => law13_CapacityBounds.L4 k v6 v7 v8 v10 v11 v12 v14 v19 v20 v21 v23 v27 v28 n v29 v30 = some v1) (fun (v29, v30) => [(4, AV.ptr 0 0), (5, AV.ptr 1 0), (6, Lz v14), (7, AV.ptr 2 0), (11, Lz v23), (15, AV.bool v27), (17, Iz v28), (18, AV.ptr 3 0), (19, Iz v29), (20, Iz v30)]) (fun (v29, v30) => [(0, .cells [Iz v6, AV.lst false false (List.map api_Edge.av v7), Lz v8]), (1, .cells [Lz v10, Lz v11, Iz v12]), (2, .cells [Iz v19, AV.lst false false (List.map api_Edge.av v20), Lz v21]), (3, .cells [Iz v6, AV.lst false false (List.map api_Edge.av ([] : List api_Edge)), AV.lst true true (List.map (AV.int .i64) ([] : List Int))])]) 4 k ((0, 0)) hF (by simp [F11]) (by simp [F11]) (by simp) ?_
     rintro (_|n4) ⟨v29, v30⟩ hF K532 hK532
     ·try dsimp only at hF
      rw [law13_CapacityBounds.L4] at hF; cases hF
     try dsimp only at hF
     rw [law13_CapacityBounds.L4] at hF
     refine AW.seq fun K534 hK534 => ?_
     refine SQ [] [none, none, none, none, none] fun _ _ g r => ?_
     try simp [F11]
     and_intros <;> first | exact g _ (by kernel_rfl) | refine r _ _ _ ?_ | omega | (simp [maxLen, F11] <;> omega)
     refine WK [(4, AV.ptr 0 0), (5, AV.ptr 1 0), (6, Lz v14), (7, AV.ptr 2 0), (11, Lz v23), (15, AV.bool v27), (17, Iz v28), (18, AV.ptr 3 0), (19, Iz v29), (20, Iz v30), (145, AV.bool (decide (v30 < (v10.length : Int))))] [(0, .cells [Iz v6, AV.lst false false (List.map api_Edge.av v7), Lz v8]), (1, .cells [Lz v10, Lz v11, Iz v12]), (2, .cells [Iz v19, AV.lst false false (List.map api_Edge.av v20), Lz v21]), (3, .cells [Iz v6, AV.lst false false (List.map api_Edge.av ([] : List api_Edge)), AV.lst true true (List.map (AV.int .i64) ([] : List Int))])] 4 (by simp [F11]) (by simp [F11]) ?_
     by_cases h17 : v30 < (v10.length : Int)
     ·replace hF := ite_t h17 hF
      have h17_ := h17
      try simp at h17_
      have F20 := And.intro F11 (And.intro h17 h17_)
      refine CT (by simp [F20] <;> omega) ?_
      refine AW.skip ?_
      refine hK534 _ _ _ ?_
      refine AW.midF (α := Int) (fun v31 => law13_CapacityBounds.J5 k v30 (fun v29_ v30_ => law13_CapacityBounds.L4 k v6 v7 v8 v10 v11 v12 v14 v19 v20 v21 v23 v27 v28 n4 v29_ v30_) v31 = some v1) (fun v31 => [(4, AV.ptr 0 0), (5, AV.ptr 1 0), (6, Lz v14), (7, AV.ptr 2 0), (11, Lz v23), (15, AV.bool v27), (17, Iz v28), (18, AV.ptr 3 0), (19, Iz v31), (20, Iz v30)]) (fun v31 => [(0, .cells [Iz v6, AV.lst false false (List.map api_Edge.av v7), Lz v8]), (1, .cells [Lz v10, Lz v11, Iz v12]), (2, .cells [Iz v19, AV.lst false false (List.map api_Edge.av v20), Lz v21]), (3, .cells [Iz v6, AV.lst false false (List.map api_Edge.av ([] : List api_Edge)), AV.lst true true (List.map (AV.int .i64) ([] : List Int))])]) 4 (fun K539 hK539 => ?_) ?_
      ·refine AW.block ?_
       refine SQ [] [none, none, none, none, none, none, none] fun _ _ g r => ?_
       obtain ⟨v32, h18, h19, h20, hF⟩ := idx_elim hF
       have h20_ := get_of h20
       try simp at h20_
       have h19_ := h19
       try simp at h19_
       have F21 := And.intro F20 (And.intro h18 (And.intro h19 (And.intro h20 (And.intro h20_ h19_))))
       try simp [F21]
       and_intros
       try any_goals first | omega | (simp [maxLen, F21] <;> omega)
       obtain ⟨v33, h21, hF⟩ := bnd1_elim hF
       refine AC (w_ref11_Has k _ _ _ h21) (.cons (.same (by simp [F21])) (.cons (.same (by simp [F21])) .nil)) ?_
       try simp [F21]
       and_intros <;> first | exact g _ (by kernel_rfl) | refine r _ _ _ ?_ | omega | (simp [maxLen, F21] <;> omega)
       refine WK [(4, AV.ptr 0 0), (5, AV.ptr 1 0), (6, Lz v14), (7, AV.ptr 2 0), (11, Lz v23), (15, AV.bool v27), (17, Iz v28), (18, AV.ptr 3 0), (19, Iz v29), (20, Iz v30), (154, AV.bool v33)] [(0, .cells [Iz v6, AV.lst false false (List.map api_Edge.av v7), Lz v8]), (1, .cells [Lz v10, Lz v11, Iz v12]), (2, .cells [Iz v19, AV.lst false false (List.map api_Edge.av v20), Lz v21]), (3, .cells [Iz v6, AV.lst false false (List.map api_Edge.av ([] : List api_Edge)), AV.lst true true (List.map (AV.int .i64) ([] : List Int))])] 4 (by simp [F21]) (by simp [F21]) ?_
       by_cases h22 : v33 = true
       ·replace hF := ite_t h22 hF
        have h22_ := h22
        try simp at h22_
        have F22 := And.intro F21 (And.intro h22 h22_)
        refine CT (by simp [F22] <;> omega) ?_
        refine RG [] [none, none, none, none, none, none, none] fun _ _ g r => ?_
        obtain ⟨v34, h23, h24, h25, hF⟩ := idx_elim hF
        have h25_ := get_of h25
        try simp at h25_
        have h24_ := h24
        try simp at h24_
        have h25z := head_of h25
        have F23 := And.intro F22 (And.intro h23 (And.intro h24 (And.intro h25 (And.intro h25_ (And.intro h24_ h25z)))))
        try simp [F23]
        and_intros <;> first | exact g _ (by kernel_rfl) | refine r _ _ _ ?_ | omega | (simp [maxLen, F23] <;> omega)
        refine hK539 _ _ _ ?_
        exact JN (IntKind.wrap .i64 (v29 + v34)) hF (by simp [F23]) (by simp [F23])
       ·replace hF := ite_f h22 hF
        have h22_ := h22
        try simp at h22_
        have F24 := And.intro F21 (And.intro h22 h22_)
        refine CF (by simp [F24] <;> omega) ?_
        refine AW.skip ?_
        refine hK539 _ _ _ ?_
        exact JN (v29) hF (by simp [F24]) (by simp [F24])
      ·rintro v31 hF
       try dsimp only at hF
       unfold law13_CapacityBounds.J5 at hF
       refine RG [] [none, none, none] fun _ _ g r => ?_
       try simp [F20]
       and_intros <;> first | exact g _ (by kernel_rfl) | refine r _ _ _ ?_ | omega | (simp [maxLen, F20] <;> omega)
       refine hK532 _ _ _ ?_
       exact NX (k' := n4) ((v31, IntKind.wrap .i64 (v30 + 1))) hF (by simp [F20]) (by simp [F20])
     ·replace hF := ite_f h17 hF
      have h17_ := h17
      try simp at h17_
      have F25 := And.intro F11 (And.intro h17 h17_)
      refine CF (by simp [F25] <;> omega) ?_
      refine AW.exit ?_
      try simp
      refine hK503 _ _ _ ?_
      refine SQ [] [none, none, some (162, true), some (162, true), some (162, true), some (162, true), some (162, true), some (162, true), none, none, some (170, true), some (170, true), some (170, true), some (173, false), some (173, false), some (173, false), some (173, false), some (173, false), some (173, false), some (170, true), none, none, some (182, true), some (182, true), some (182, true), some (182, true), some (182, true), some (182, true), none, none, some (190, true), some (190, true), none, none] fun _ _ g r => ?_
      try simp [F25]
      and_intros
      try any_goals first | omega | (simp [maxLen, F25] <;> omega)
      obtain ⟨v35, h26, hF⟩ := bnd1_elim hF
      refine AC (w_law13_awake k _ h26) .nil ?_
      by_cases h27 : v35 = true
      ·replace hF := ite_t h27 hF
       have h27_ := h27
       try simp at h27_
       have F26 := And.intro F25 (And.intro h27 h27_)
       try simp [F26]
       and_intros
       try any_goals first | omega | (simp [maxLen, F26] <;> omega)
       obtain ⟨v36, h28, hF⟩ := bnd1_elim hF
       refine AC (w_capacity_Bound k _ _ _ _ _ _ _ _ h28) (.cons (.same (by simp [F26])) (.cons (.same (by simp [F26])) (.cons (.same (by simp [F26])) .nil))) ?_
       by_cases h29 : v36 = v28
       ·replace hF := ite_t h29 hF
        have h29q : v36 = v28 := h29
        have h29_ := eqb_t h29q
        have h29__ := neb_f h29q
        by_cases h30 : (!v27) = true
        ·replace hF := ite_t h30 hF
         have h30_ := h30
         try simp at h30_
         have F27 := And.intro F26 (And.intro h29_ (And.intro h29__ (And.intro h30 h30_)))
         try simp [F27]
         and_intros
         try any_goals first | omega | (simp [maxLen, F27] <;> omega)
         obtain ⟨v37, h31, hF⟩ := bnd1_elim hF
         refine AC (w_capacity_Bound k _ _ _ _ _ _ _ _ h31) (.cons (.agg (.cons (.same (by simp [F27])) (.cons (.same (by simp [F27])) (.cons (Coe.fl (by simp [F27])) .nil)))) (.cons (.same (by simp [F27])) (.cons (.same (by simp [F27])) .nil))) ?_
         by_cases h32 : v37 = v29
         ·replace hF := ite_t h32 hF
          have h32q : v37 = v29 := h32
          have h32_ := eqb_t h32q
          have h32__ := neb_f h32q
          have F28 := And.intro F27 (And.intro h32_ h32__)
          try simp [F28]
          and_intros <;> first | exact g _ (by kernel_rfl) | refine r _ _ _ ?_ | omega | (simp [maxLen, F28] <;> omega)
          refine WK [(2, AV.bool (decide (0 ≤ v28)))] [] 4 (by simp [F28]) (by simp [F28]) ?_
          simp only [Option.some.injEq] at hF
          subst hF
          refine AW.ret (hQ _ _ _ ?_ (matchO_0 ?_)).1
          ·simp [Try.f6, F28]
          ·simp [F28]
         ·replace hF := ite_f h32 hF
          have h32_ := eqb_f h32
          have h32__ := neb_t h32
          have F29 := And.intro F27 (And.intro h32 (And.intro h32_ h32__))
          try simp [F29]
          and_intros <;> first | exact g _ (by kernel_rfl) | refine r _ _ _ ?_ | omega | (simp [maxLen, F29] <;> omega)
          refine WK [(2, AV.bool false)] [] 4 (by simp [F29]) (by simp [F29]) ?_
          simp only [Option.some.injEq] at hF
          subst hF
          refine AW.ret (hQ _ _ _ ?_ (matchO_0 ?_)).1
          ·simp [Try.f6, F29]
          ·simp [F29]
        ·replace hF := ite_f h30 hF
         have h30_ := h30
         try simp at h30_
         have F30 := And.intro F26 (And.intro h29_ (And.intro h29__ (And.intro h30 h30_)))
         try simp [F30]
         and_intros
         try any_goals first | omega | (simp [maxLen, F30] <;> omega)
         obtain ⟨v38, h33, hF⟩ := bnd1_elim hF
         refine AC (w_capacity_Bound k _ _ _ _ _ _ _ _ h33) (.cons (.same (by simp [F30])) (.cons (.same (by simp [F30])) (.cons (.same (by simp [F30])) .nil))) ?_
         by_cases h34 : v38 = v28
         ·replace hF := ite_t h34 hF
          have h34q : v38 = v28 := h34
          have h34_ := eqb_t h34q
          have h34__ := neb_f h34q
          have F31 := And.intro F30 (And.intro h34_ h34__)
          try simp [F31]
          and_intros
          try any_goals first | omega | (simp [maxLen, F31] <;> omega)
          obtain ⟨v39, h35, hF⟩ := bnd1_elim hF
          refine AC (w_capacity_Bound k _ _ _ _ _ _ _ _ h35) (.cons (.agg (.cons (.same (by simp [F31])) (.cons (.same (by simp [F31])) (.cons (Coe.fl (by simp [F31])) .nil)))) (.cons (.same (by simp [F31])) (.cons (.same (by simp [F31])) .nil))) ?_
          by_cases h36 : v39 = v29
          ·replace hF := ite_t h36 hF
           have h36q : v39 = v29 := h36
           have h36_ := eqb_t h36q
           have h36__ := neb_f h36q
           have F32 := And.intro F31 (And.intro h36_ h36__)
           try simp [F32]
           and_intros <;> first | exact g _ (by kernel_rfl) | refine r _ _ _ ?_ | omega | (simp [maxLen, F32] <;> omega)
           refine WK [(2, AV.bool (decide (0 ≤ v28)))] [] 4 (by simp [F32]) (by simp [F32]) ?_
           simp only [Option.some.injEq] at hF
           subst hF
           refine AW.ret (hQ _ _ _ ?_ (matchO_0 ?_)).1
           ·simp [Try.f6, F32]
           ·simp [F32]
          ·replace hF := ite_f h36 hF
           have h36_ := eqb_f h36
           have h36__ := neb_t h36
           have F33 := And.intro F31 (And.intro h36 (And.intro h36_ h36__))
           try simp [F33]
           and_intros <;> first | exact g _ (by kernel_rfl) | refine r _ _ _ ?_ | omega | (simp [maxLen, F33] <;> omega)
           refine WK [(2, AV.bool false)] [] 4 (by simp [F33]) (by simp [F33]) ?_
           simp only [Option.some.injEq] at hF
           subst hF
           refine AW.ret (hQ _ _ _ ?_ (matchO_0 ?_)).1
           ·simp [Try.f6, F33]
           ·simp [F33]
         ·replace hF := ite_f h34 hF
          have h34_ := eqb_f h34
          have h34__ := neb_t h34
          have F34 := And.intro F30 (And.intro h34 (And.intro h34_ h34__))
          try simp [F34]
          and_intros <;> first | exact g _ (by kernel_rfl) | refine r _ _ _ ?_ | omega | (simp [maxLen, F34] <;> omega)
          refine WK [(2, AV.bool false)] [] 4 (by simp [F34]) (by simp [F34]) ?_
          simp only [Option.some.injEq] at hF
          subst hF
          refine AW.ret (hQ _ _ _ ?_ (matchO_0 ?_)).1
          ·simp [Try.f6, F34]
          ·simp [F34]
       ·replace hF := ite_f h29 hF
        have h29_ := eqb_f h29
        have h29__ := neb_t h29
        have F35 := And.intro F26 (And.intro h29 (And.intro h29_ h29__))
        try simp [F35]
        and_intros <;> first | exact g _ (by kernel_rfl) | refine r _ _ _ ?_ | omega | (simp [maxLen, F35] <;> omega)
        refine WK [(2, AV.bool false)] [] 4 (by simp [F35]) (by simp [F35]) ?_
        simp only [Option.some.injEq] at hF
        subst hF
        refine AW.ret (hQ _ _ _ ?_ (matchO_0 ?_)).1
        ·simp [Try.f6, F35]
        ·simp [F35]
      ·replace hF := ite_f h27 hF
       have h27_ := h27
       try simp at h27_
       have F36 := And.intro F25 (And.intro h27 h27_)
       try simp [F36]
       and_intros <;> first | exact g _ (by kernel_rfl) | refine r _ _ _ ?_ | omega | (simp [maxLen, F36] <;> omega)
       refine WK [(2, AV.bool false)] [] 4 (by simp [F36]) (by simp [F36]) ?_
       simp only [Option.some.injEq] at hF
       subst hF
       refine AW.ret (hQ _ _ _ ?_ (matchO_0 ?_)).1
       ·simp [Try.f6, F36]
       ·simp [F36]
end Go.TF
