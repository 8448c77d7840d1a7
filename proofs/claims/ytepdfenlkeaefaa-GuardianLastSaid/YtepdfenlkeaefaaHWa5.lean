/- Walks: the Go text computes the Lean functions (printed by a program of our own). -/
import Derived.Test.YtepdfenlkeaefaaHPu
import Derived.Test.YtepdfenlkeaefaaHAbsT
import Derived.Test.YtepdfenlkeaefaaHWa0
import Derived.Test.YtepdfenlkeaefaaHWa1
import Derived.Test.YtepdfenlkeaefaaHWa2
import Derived.Test.YtepdfenlkeaefaaHWa3
import Derived.Test.YtepdfenlkeaefaaHWa4
set_option linter.unusedVariables false
set_option linter.unusedSimpArgs false
set_option maxRecDepth 100000
namespace Go.TF
open Go Go.Abs Go.Proofs Go.Proofs.YtepdfenlkeaefaaHT
set_option maxHeartbeats 4000000 in
theorem w_statement_Digest (k : Nat) (v0 : Int) (v1 : Int) (v2 : ByteArray) (v3 : Int) (v4 : Int) (v5 : Int) (v6 : Int) (v7 : Int) (v8 : (List Int)) (v9 : (List api_Pin)) (v10 : ByteArray) (v11 : Int) (v12 : ByteArray) (v13 : ByteArray) (hF : statement_Digest k v0 v1 v2 v3 v4 v5 v6 v7 v8 v9 v10 v11 v12 = some v13) :
  FCall Try.prog 108 [AV.agg [AV.int .i64 v0, AV.int .i64 v1, AV.str v2, AV.int .i64 v3, AV.int .i64 v4, AV.int .i64 v5, AV.int .i64 v6, AV.int .i64 v7, AV.lst false false (List.map (AV.int .i64) v8), AV.lst false false (List.map api_Pin.av v9), AV.str v10, AV.int .i64 v11, AV.str v12]] [] (AV.str v13) [] := by
 unfold statement_Digest at hF
 refine FCall.enter Try.func108 rfl (by simp) (by decide) (by simp) (by simp) (by simp) (by simp) (by simp) ?_
 intro c0 w0 Q h0 hQ
 refine AW.wk [(0, AV.agg [Iz v0, Iz v1, AV.str v2, Iz v3, Iz v4, Iz v5, Iz v6, Iz v7, Lz v8, AV.lst false false (List.map api_Pin.av v9), AV.str v10, Iz v11, AV.str v12])] [] 0 (by simp) (by simp) (by simp) ?_
 refine AW.seqR mixed [] [none, none] (by kernel_rfl) fun _ _ g r => ?_
 try simp
 and_intros
 any_goals first | exact g _ (by kernel_rfl) | refine r _ _ _ ?_ | omega | (simp [maxLen] <;> omega)
 refine AW.wk [(1, AV.ptr 0 0)] [(0, .cells [Iz v0, Iz v1, AV.str v2, Iz v3, Iz v4, Iz v5, Iz v6, Iz v7, Lz v8, AV.lst false false (List.map api_Pin.av v9), AV.str v10, Iz v11, AV.str v12])] 1 (by simp) (by simp) (by simp) ?_
 refine AW.seqR mixed [] [none, none, none, none] (by kernel_rfl) fun _ _ g r => ?_
 try simp
 and_intros
 try any_goals first | omega | (simp [maxLen] <;> omega)
 obtain ⟨v14, h1, hF⟩ := bnd1_elim hF
 refine aCall_l (w_statement_Bytes k _ _ _ _ _ _ _ _ _ _ _ _ _ _ h1) (by simp) [] [] [] rfl (.cons (.same (by simp)) .nil) (by simp) (by decide) (by simp) (by simp) (.inl rfl) (by simp) (by simp) ?_
 try simp
 and_intros
 try any_goals first | omega | (simp [maxLen] <;> omega)
 obtain ⟨v15, h2, hF⟩ := bnd1_elim hF
 refine aCall_l (w_digest_Sum k _ _ h2) (by simp) [] [1] [] rfl (.cons (Coe.l (o := .grow (List.map (AV.int .u8) v14)) (by simp) rfl (by simp) (by simp [noIdsL]) (by simp) (by simp)) .nil) (by simp) (by decide) (by simp) (by simp) (.inr ⟨by simp, by simp⟩) (by simp) (by simp) ?_
 try simp
 and_intros
 any_goals first | exact g _ (by kernel_rfl) | refine r _ _ _ ?_ | omega | (simp [maxLen] <;> omega)
 refine AW.wk [(2, AV.str v15)] [] 2 (by simp) (by simp) (by simp) ?_
 simp only [Option.some.injEq] at hF
 subst hF
 refine AW.ret (hQ _ _ _ ?_ (matchO_0 ?_)).1
 ·simp [Try.f108]
 ·simp
set_option maxHeartbeats 4000000 in
theorem w_statement_Sealed (k : Nat) (v0 : Int) (v1 : Int) (v2 : ByteArray) (v3 : Int) (v4 : Int) (v5 : Int) (v6 : Int) (v7 : Int) (v8 : (List Int)) (v9 : (List api_Pin)) (v10 : ByteArray) (v11 : Int) (v12 : ByteArray) (v13 : Bool) (hF : statement_Sealed k v0 v1 v2 v3 v4 v5 v6 v7 v8 v9 v10 v11 v12 = some v13) :
  FCall Try.prog 73 [AV.agg [AV.int .i64 v0, AV.int .i64 v1, AV.str v2, AV.int .i64 v3, AV.int .i64 v4, AV.int .i64 v5, AV.int .i64 v6, AV.int .i64 v7, AV.lst false false (List.map (AV.int .i64) v8), AV.lst false false (List.map api_Pin.av v9), AV.str v10, AV.int .i64 v11, AV.str v12]] [] (AV.bool v13) [] := by
 unfold statement_Sealed at hF
 refine FCall.enter Try.func73 rfl (by simp) (by decide) (by simp) (by simp) (by simp) (by simp) (by simp) ?_
 intro c0 w0 Q h0 hQ
 refine AW.wk [(0, AV.agg [Iz v0, Iz v1, AV.str v2, Iz v3, Iz v4, Iz v5, Iz v6, Iz v7, Lz v8, AV.lst false false (List.map api_Pin.av v9), AV.str v10, Iz v11, AV.str v12])] [] 0 (by simp) (by simp) (by simp) ?_
 refine AW.seqR mixed [] [none, none] (by kernel_rfl) fun _ _ g r => ?_
 try simp
 and_intros
 any_goals first | exact g _ (by kernel_rfl) | refine r _ _ _ ?_ | omega | (simp [maxLen] <;> omega)
 refine AW.wk [(1, AV.ptr 0 0)] [(0, .cells [Iz v0, Iz v1, AV.str v2, Iz v3, Iz v4, Iz v5, Iz v6, Iz v7, Lz v8, AV.lst false false (List.map api_Pin.av v9), AV.str v10, Iz v11, AV.str v12])] 1 (by simp) (by simp) (by simp) ?_
 refine AW.seqR mixed [] [none, none, none, none, none, none, none, none, none] (by kernel_rfl) fun _ _ g r => ?_
 try simp
 and_intros
 try any_goals first | omega | (simp [maxLen] <;> omega)
 obtain ⟨v14, h1, hF⟩ := bnd1_elim hF
 refine aCall_l (w_statement_Digest k _ _ _ _ _ _ _ _ _ _ _ _ _ _ h1) (by simp) [] [] [] rfl (.cons (.same (by simp)) .nil) (by simp) (by decide) (by simp) (by simp) (.inl rfl) (by simp) (by simp) ?_
 obtain ⟨v15, h2, hF⟩ := let1_elim hF
 have h2_ := h2
 try simp at h2_
 try simp [h2, h2_]
 and_intros
 any_goals first | exact g _ (by kernel_rfl) | refine r _ _ _ ?_ | omega | (simp [h2, h2_, maxLen] <;> omega)
 refine AW.wk [(2, AV.bool v15)] [] 1 (by simp [h2, h2_]) (by simp [h2, h2_]) (by simp) ?_
 simp only [Option.some.injEq] at hF
 subst hF
 refine AW.ret (hQ _ _ _ ?_ (matchO_0 ?_)).1
 ·simp [Try.f73, h2, h2_]
 ·simp [h2, h2_]
abbrev c_guardian_Of (v0 : Int) (v1 : Int) (v2 : ByteArray) (v3 : Int) (v4 : Int) (v5 : Int) (v6 : Int) (v7 : Int) (v8 : (List Int)) (v9 : (List api_Pin)) (v10 : ByteArray) (v11 : Int) (v12 : ByteArray) : AObj := .cells [Iz v0, Iz v1, AV.str v2, Iz v3, Iz v4, Iz v5, Iz v6, Iz v7, Lz v8, AV.lst false false (List.map api_Pin.av v9), AV.str v10, Iz v11, AV.str v12]
set_option maxHeartbeats 4000000 in
theorem w_guardian_Of (k : Nat) (v0 : Int) (v1 : Int) (v2 : ByteArray) (v3 : Int) (v4 : Int) (v5 : Int) (v6 : Int) (v7 : Int) (v8 : (List Int)) (v9 : (List api_Pin)) (v10 : ByteArray) (v11 : Int) (v12 : ByteArray) (v13 : Int) (v14 : Int) (v15 : (List Int)) (v16 : Int) (hF : guardian_Of k v0 v1 v2 v3 v4 v5 v6 v7 v8 v9 v10 v11 v12 = some (v13, v14, v15, v16)) :
  FCall Try.prog 26 [AV.agg [AV.int .i64 v0, AV.int .i64 v1, AV.str v2, AV.int .i64 v3, AV.int .i64 v4, AV.int .i64 v5, AV.int .i64 v6, AV.int .i64 v7, AV.lst false false (List.map (AV.int .i64) v8), AV.lst false false (List.map api_Pin.av v9), AV.str v10, AV.int .i64 v11, AV.str v12]] [] (AV.tup [AV.agg [AV.int .i64 v13, AV.int .i64 v14, AV.lst false false (List.map (AV.int .i64) v15)], AV.int .i64 v16]) [] := by
 unfold guardian_Of at hF
 refine FCall.enter Try.func26 rfl (by simp) (by decide) (by simp) (by simp) (by simp) (by simp) (by simp) ?_
 intro c0 w0 Q h0 hQ
 refine AW.wk [(0, AV.agg [Iz v0, Iz v1, AV.str v2, Iz v3, Iz v4, Iz v5, Iz v6, Iz v7, Lz v8, AV.lst false false (List.map api_Pin.av v9), AV.str v10, Iz v11, AV.str v12])] [] 0 (by simp) (by simp) (by simp) ?_
 refine AW.seqR mixed [] [none, none, none] (by kernel_rfl) fun _ _ g r => ?_
 try simp
 and_intros
 any_goals first | exact g _ (by kernel_rfl) | refine r _ _ _ ?_ | omega | (simp [maxLen] <;> omega)
 refine AW.wk [(1, AV.ptr 0 0), (2, AV.ptr 1 0)] [(0, c_guardian_Of v0 v1 v2 v3 v4 v5 v6 v7 v8 v9 v10 v11 v12), (1, .cells [Iz 0, Iz 0, AV.lst true true (List.map (AV.int .i64) ([] : List Int))])] 2 (by simp) (by simp) (by simp) ?_
 refine AW.seq fun K32 hK32 => ?_
 refine AW.seqR mixed [] [none, none, none] (by kernel_rfl) fun _ _ g r => ?_
 try simp
 and_intros
 try any_goals first | omega | (simp [maxLen] <;> omega)
 obtain ⟨v17, h1, hF⟩ := bnd1_elim hF
 refine aCall_l (w_statement_Check k _ _ _ _ _ _ _ _ _ _ _ _ _ _ h1) (by simp) [] [] [] rfl (.cons (.same (by simp)) .nil) (by simp) (by decide) (by simp) (by simp) (.inl rfl) (by simp) (by simp) ?_
 try simp
 and_intros
 any_goals first | exact g _ (by kernel_rfl) | refine r _ _ _ ?_ | omega | (simp [maxLen] <;> omega)
 refine AW.wk [(1, AV.ptr 0 0), (2, AV.ptr 1 0), (4, Iz v17)] [(0, c_guardian_Of v0 v1 v2 v3 v4 v5 v6 v7 v8 v9 v10 v11 v12), (1, .cells [Iz 0, Iz 0, AV.lst true true (List.map (AV.int .i64) ([] : List Int))])] 2 (by simp) (by simp) (by simp) ?_
 refine AW.seqR mixed [] [none, none] (by kernel_rfl) fun _ _ g r => ?_
 try simp
 and_intros
 any_goals first | exact g _ (by kernel_rfl) | refine r _ _ _ ?_ | omega | (simp [maxLen] <;> omega)
 refine AW.wk [(1, AV.ptr 0 0), (2, AV.ptr 1 0), (4, Iz v17), (9, AV.bool (v17 != 0))] [(0, c_guardian_Of v0 v1 v2 v3 v4 v5 v6 v7 v8 v9 v10 v11 v12), (1, .cells [Iz 0, Iz 0, AV.lst true true (List.map (AV.int .i64) ([] : List Int))])] 2 (by simp) (by simp) (by simp) ?_
 by_cases h2 : v17 ≠ 0
 ·replace hF := ite_t h2 hF
  have h2_ := eqb_f h2
  have h2__ := neb_t h2
  have F1 := And.intro h2 (And.intro h2_ h2__)
  refine AW.condT (by decide) (by first | (simp [F1] <;> omega)) ?_
  refine AW.seqR mixed [] [none, none, none, none] (by kernel_rfl) fun _ _ g r => ?_
  try simp [F1]
  and_intros
  any_goals first | exact g _ (by kernel_rfl) | refine r _ _ _ ?_ | omega | (simp [maxLen, F1] <;> omega)
  refine AW.wk [(2, AV.ptr 1 0), (3, Iz v17)] [(1, .cells [Iz 0, Iz 0, AV.lst true true (List.map (AV.int .i64) ([] : List Int))])] 2 (by simp [F1]) (by simp [F1]) (by simp) ?_
  refine AW.rnm (m := 0) h0 [(0, 1)] [(2, AV.ptr 0 0), (3, Iz v17)] [(0, .cells [Iz 0, Iz 0, AV.lst true true (List.map (AV.int .i64) ([] : List Int))])] 1 (by decide) (by decide) (by decide) rfl (by simp [F1]) (by simp [F1]) ?_
  refine AW.flg [] [(0, .cells [Iz 0, Iz 0, AV.lst false false (List.map (AV.int .i64) ([] : List Int))])] trivial ⟨⟨AObj.cells [Iz 0, Iz 0, AV.lst true true (List.map (AV.int .i64) ([] : List Int))], by simp [F1], (.mk (.cons (.same _) (.cons (.same _) (.cons (.lst (by simp)) .nil))))⟩, trivial⟩ (by simp) ?_
  simp only [Option.some.injEq, Prod.mk.injEq] at hF
  obtain ⟨e0, e1, e2, e3⟩ := hF
  subst e0 e1 e2 e3
  refine AW.ret (hQ _ _ _ ?_ (matchO_0 ?_)).1
  ·simp [Try.f26, F1]
  ·simp [F1]
 ·replace hF := ite_f h2 hF
  have h2q : v17 = 0 := Classical.not_not.1 h2
  have h2_ := eqb_t h2q
  have h2__ := neb_f h2q
  have F2 := And.intro h2_ (And.intro h2__ h2q)
  refine AW.condF (by decide) (by first | (simp [F2] <;> omega)) ?_
  refine AW.skip ?_
  refine hK32 _ _ _ ?_
  refine AW.seqR mixed [] [none, none, none, none, none, none, none, none, none, none] (by kernel_rfl) fun _ _ g r => ?_
  try simp [F2]
  and_intros
  try any_goals first | omega | (simp [maxLen, F2] <;> omega)
  obtain ⟨v18, h3, hF⟩ := bnd1_elim hF
  refine aCall_l (w_slices_Clone_int_int k _ _ h3) (by simp) [] [] [] rfl (.cons (.same (by simp [F2])) .nil) (by simp [F2]) (by decide) (by simp) (by simp) (.inl rfl) (by simp) (by simp) ?_
  try simp [F2]
  and_intros
  any_goals first | exact g _ (by kernel_rfl) | refine r _ _ _ ?_ | omega | (simp [maxLen, F2] <;> omega)
  refine AW.wk [(1, AV.ptr 0 0), (2, AV.ptr 1 0), (5, AV.ptr 3 0)] [(0, c_guardian_Of v0 v1 v2 v3 v4 v5 v6 v7 v8 v9 v10 v11 v12), (1, .cells [Iz 0, Iz 0, AV.lst true true (List.map (AV.int .i64) ([] : List Int))]), (2, .grow (List.map (AV.int .i64) v18)), (3, .cells [Iz v0, Iz v5, AV.slc 2 0 1 v18.length false])] 4 (by simp [F2]) (by simp [F2]) (by simp) ?_
  refine AW.frz 2 (o := .grow (List.map (AV.int .i64) v18)) (by simp [F2]) rfl [] [(3, .cells [Iz v0, Iz v5, Lz v18])] trivial ⟨⟨by simp, AObj.cells [Iz v0, Iz v5, AV.slc 2 0 1 v18.length false], by simp [F2], (.mk (.cons (.same _) (.cons (.same _) (.cons (.l (by simp) (by simp) (by simp) (by simp)) .nil))))⟩, trivial⟩ ?_
  refine AW.wk [(1, AV.ptr 0 0), (2, AV.ptr 1 0), (5, AV.ptr 3 0)] [(0, c_guardian_Of v0 v1 v2 v3 v4 v5 v6 v7 v8 v9 v10 v11 v12), (1, .cells [Iz 0, Iz 0, AV.lst true true (List.map (AV.int .i64) ([] : List Int))]), (3, .cells [Iz v0, Iz v5, Lz v18])] 4 (by simp [F2]) (by simp [F2]) (by simp) ?_
  refine AW.seq fun K45 hK45 => ?_
  refine AW.seqR mixed [] [none, none, none, none, some (23, false), some (23, false), some (23, false), none, none, some (28, false), some (28, false), some (28, false), none, none, some (33, false), some (33, false), some (33, false), none, none, some (38, false), some (38, false), some (38, false), some (38, false), none, none, some (44, false), some (44, false), some (44, false), none, none, some (49, false), some (49, false), some (49, false), none] (by kernel_rfl) fun _ _ g r => ?_
  try simp [F2]
  and_intros
  try any_goals first | omega | (simp [maxLen, F2] <;> omega)
  obtain ⟨v19, h4, hF⟩ := bnd1_elim hF
  refine aCall_l (w_statement_Sealed k _ _ _ _ _ _ _ _ _ _ _ _ _ _ h4) (by simp) [] [] [] rfl (.cons (.same (by simp [F2])) .nil) (by simp [F2]) (by decide) (by simp) (by simp) (.inl rfl) (by simp) (by simp) ?_
  by_cases h5 : (!v19) = true
  ·replace hF := ite_t h5 hF
   have h5_ := h5
   try simp at h5_
   have F3 := And.intro F2 (And.intro h5 h5_)
   try simp [F3]
   and_intros
   any_goals first | exact g _ (by kernel_rfl) | refine r _ _ _ ?_ | omega | (simp [maxLen, F3] <;> omega)
   refine AW.wk [(2, AV.ptr 1 0), (5, AV.ptr 3 0), (53, AV.bool true)] [(1, .cells [Iz 0, Iz 0, AV.lst true true (List.map (AV.int .i64) ([] : List Int))]), (3, .cells [Iz v0, Iz v5, Lz v18])] 4 (by simp [F3]) (by simp [F3]) (by simp) ?_
   refine AW.condT (by decide) (by simp [F3]) ?_
   refine AW.seqR mixed [] [none, none, none] (by kernel_rfl) fun _ _ g r => ?_
   try simp [F3]
   and_intros
   any_goals first | exact g _ (by kernel_rfl) | refine r _ _ _ ?_ | omega | (simp [maxLen, F3] <;> omega)
   refine AW.wk [(2, AV.ptr 1 0), (3, Iz 47)] [(1, .cells [Iz 0, Iz 0, AV.lst true true (List.map (AV.int .i64) ([] : List Int))])] 4 (by simp [F3]) (by simp [F3]) (by simp) ?_
   refine AW.rnm (m := 0) h0 [(0, 1)] [(2, AV.ptr 0 0), (3, Iz 47)] [(0, .cells [Iz 0, Iz 0, AV.lst true true (List.map (AV.int .i64) ([] : List Int))])] 1 (by decide) (by decide) (by decide) rfl (by simp [F3]) (by simp [F3]) ?_
   refine AW.flg [] [(0, .cells [Iz 0, Iz 0, AV.lst false false (List.map (AV.int .i64) ([] : List Int))])] trivial ⟨⟨AObj.cells [Iz 0, Iz 0, AV.lst true true (List.map (AV.int .i64) ([] : List Int))], by simp [F3], (.mk (.cons (.same _) (.cons (.same _) (.cons (.lst (by simp)) .nil))))⟩, trivial⟩ (by simp) ?_
   simp only [Option.some.injEq, Prod.mk.injEq] at hF
   obtain ⟨e0, e1, e2, e3⟩ := hF
   subst e0 e1 e2 e3
   refine AW.ret (hQ _ _ _ ?_ (matchO_0 ?_)).1
   ·simp [Try.f26, F3]
   ·simp [F3]
  ·replace hF := ite_f h5 hF
   have h5_ := h5
   try simp at h5_
   by_cases h6 : v4 ≠ 12
   ·replace hF := ite_t h6 hF
    have h6_ := eqb_f h6
    have h6__ := neb_t h6
    have F4 := And.intro F2 (And.intro h5 (And.intro h5_ (And.intro h6 (And.intro h6_ h6__))))
    try simp [F4]
    and_intros
    any_goals first | exact g _ (by kernel_rfl) | refine r _ _ _ ?_ | omega | (simp [maxLen, F4] <;> omega)
    refine AW.wk [(2, AV.ptr 1 0), (5, AV.ptr 3 0), (53, AV.bool true)] [(1, .cells [Iz 0, Iz 0, AV.lst true true (List.map (AV.int .i64) ([] : List Int))]), (3, .cells [Iz v0, Iz v5, Lz v18])] 4 (by simp [F4]) (by simp [F4]) (by simp) ?_
    refine AW.condT (by decide) (by simp [F4]) ?_
    refine AW.seqR mixed [] [none, none, none] (by kernel_rfl) fun _ _ g r => ?_
    try simp [F4]
    and_intros
    any_goals first | exact g _ (by kernel_rfl) | refine r _ _ _ ?_ | omega | (simp [maxLen, F4] <;> omega)
    refine AW.wk [(2, AV.ptr 1 0), (3, Iz 47)] [(1, .cells [Iz 0, Iz 0, AV.lst true true (List.map (AV.int .i64) ([] : List Int))])] 4 (by simp [F4]) (by simp [F4]) (by simp) ?_
    refine AW.rnm (m := 0) h0 [(0, 1)] [(2, AV.ptr 0 0), (3, Iz 47)] [(0, .cells [Iz 0, Iz 0, AV.lst true true (List.map (AV.int .i64) ([] : List Int))])] 1 (by decide) (by decide) (by decide) rfl (by simp [F4]) (by simp [F4]) ?_
    refine AW.flg [] [(0, .cells [Iz 0, Iz 0, AV.lst false false (List.map (AV.int .i64) ([] : List Int))])] trivial ⟨⟨AObj.cells [Iz 0, Iz 0, AV.lst true true (List.map (AV.int .i64) ([] : List Int))], by simp [F4], (.mk (.cons (.same _) (.cons (.same _) (.cons (.lst (by simp)) .nil))))⟩, trivial⟩ (by simp) ?_
    simp only [Option.some.injEq, Prod.mk.injEq] at hF
    obtain ⟨e0, e1, e2, e3⟩ := hF
    subst e0 e1 e2 e3
    refine AW.ret (hQ _ _ _ ?_ (matchO_0 ?_)).1
    ·simp [Try.f26, F4]
    ·simp [F4]
   ·replace hF := ite_f h6 hF
    have h6q : v4 = 12 := Classical.not_not.1 h6
    have h6_ := eqb_t h6q
    have h6__ := neb_f h6q
    by_cases h7 : v6 ≠ 0
    ·replace hF := ite_t h7 hF
     have h7_ := eqb_f h7
     have h7__ := neb_t h7
     have F5 := And.intro F2 (And.intro h5 (And.intro h5_ (And.intro h6_ (And.intro h6__ (And.intro h6q (And.intro h7 (And.intro h7_ h7__)))))))
     try simp [F5]
     and_intros
     any_goals first | exact g _ (by kernel_rfl) | refine r _ _ _ ?_ | omega | (simp [maxLen, F5] <;> omega)
     refine AW.wk [(2, AV.ptr 1 0), (5, AV.ptr 3 0), (53, AV.bool true)] [(1, .cells [Iz 0, Iz 0, AV.lst true true (List.map (AV.int .i64) ([] : List Int))]), (3, .cells [Iz v0, Iz v5, Lz v18])] 4 (by simp [F5]) (by simp [F5]) (by simp) ?_
     refine AW.condT (by decide) (by simp [F5]) ?_
     refine AW.seqR mixed [] [none, none, none] (by kernel_rfl) fun _ _ g r => ?_
     try simp [F5]
     and_intros
     any_goals first | exact g _ (by kernel_rfl) | refine r _ _ _ ?_ | omega | (simp [maxLen, F5] <;> omega)
     refine AW.wk [(2, AV.ptr 1 0), (3, Iz 47)] [(1, .cells [Iz 0, Iz 0, AV.lst true true (List.map (AV.int .i64) ([] : List Int))])] 4 (by simp [F5]) (by simp [F5]) (by simp) ?_
     refine AW.rnm (m := 0) h0 [(0, 1)] [(2, AV.ptr 0 0), (3, Iz 47)] [(0, .cells [Iz 0, Iz 0, AV.lst true true (List.map (AV.int .i64) ([] : List Int))])] 1 (by decide) (by decide) (by decide) rfl (by simp [F5]) (by simp [F5]) ?_
     refine AW.flg [] [(0, .cells [Iz 0, Iz 0, AV.lst false false (List.map (AV.int .i64) ([] : List Int))])] trivial ⟨⟨AObj.cells [Iz 0, Iz 0, AV.lst true true (List.map (AV.int .i64) ([] : List Int))], by simp [F5], (.mk (.cons (.same _) (.cons (.same _) (.cons (.lst (by simp)) .nil))))⟩, trivial⟩ (by simp) ?_
     simp only [Option.some.injEq, Prod.mk.injEq] at hF
     obtain ⟨e0, e1, e2, e3⟩ := hF
     subst e0 e1 e2 e3
     refine AW.ret (hQ _ _ _ ?_ (matchO_0 ?_)).1
     ·simp [Try.f26, F5]
     ·simp [F5]
    ·replace hF := ite_f h7 hF
     have h7q : v6 = 0 := Classical.not_not.1 h7
     have h7_ := eqb_t h7q
     have h7__ := neb_f h7q
     by_cases h8 : v7 ≠ 0
     ·replace hF := ite_t h8 hF
      have h8_ := eqb_f h8
      have h8__ := neb_t h8
      have F6 := And.intro F2 (And.intro h5 (And.intro h5_ (And.intro h6_ (And.intro h6__ (And.intro h6q (And.intro h7_ (And.intro h7__ (And.intro h7q (And.intro h8 (And.intro h8_ h8__))))))))))
      try simp [F6]
      and_intros
      any_goals first | exact g _ (by kernel_rfl) | refine r _ _ _ ?_ | omega | (simp [maxLen, F6] <;> omega)
      refine AW.wk [(2, AV.ptr 1 0), (5, AV.ptr 3 0), (53, AV.bool true)] [(1, .cells [Iz 0, Iz 0, AV.lst true true (List.map (AV.int .i64) ([] : List Int))]), (3, .cells [Iz v0, Iz v5, Lz v18])] 4 (by simp [F6]) (by simp [F6]) (by simp) ?_
      refine AW.condT (by decide) (by simp [F6]) ?_
      refine AW.seqR mixed [] [none, none, none] (by kernel_rfl) fun _ _ g r => ?_
      try simp [F6]
      and_intros
      any_goals first | exact g _ (by kernel_rfl) | refine r _ _ _ ?_ | omega | (simp [maxLen, F6] <;> omega)
      refine AW.wk [(2, AV.ptr 1 0), (3, Iz 47)] [(1, .cells [Iz 0, Iz 0, AV.lst true true (List.map (AV.int .i64) ([] : List Int))])] 4 (by simp [F6]) (by simp [F6]) (by simp) ?_
      refine AW.rnm (m := 0) h0 [(0, 1)] [(2, AV.ptr 0 0), (3, Iz 47)] [(0, .cells [Iz 0, Iz 0, AV.lst true true (List.map (AV.int .i64) ([] : List Int))])] 1 (by decide) (by decide) (by decide) rfl (by simp [F6]) (by simp [F6]) ?_
      refine AW.flg [] [(0, .cells [Iz 0, Iz 0, AV.lst false false (List.map (AV.int .i64) ([] : List Int))])] trivial ⟨⟨AObj.cells [Iz 0, Iz 0, AV.lst true true (List.map (AV.int .i64) ([] : List Int))], by simp [F6], (.mk (.cons (.same _) (.cons (.same _) (.cons (.lst (by simp)) .nil))))⟩, trivial⟩ (by simp) ?_
      simp only [Option.some.injEq, Prod.mk.injEq] at hF
      obtain ⟨e0, e1, e2, e3⟩ := hF
      subst e0 e1 e2 e3
      refine AW.ret (hQ _ _ _ ?_ (matchO_0 ?_)).1
      ·simp [Try.f26, F6]
      ·simp [F6]
     ·replace hF := ite_f h8 hF
      have h8q : v7 = 0 := Classical.not_not.1 h8
      have h8_ := eqb_t h8q
      have h8__ := neb_f h8q
      by_cases h9 : 0 < (v9.length : Int)
      ·replace hF := ite_t h9 hF
       have h9_ := h9
       try simp at h9_
       have F7 := And.intro F2 (And.intro h5 (And.intro h5_ (And.intro h6_ (And.intro h6__ (And.intro h6q (And.intro h7_ (And.intro h7__ (And.intro h7q (And.intro h8_ (And.intro h8__ (And.intro h8q (And.intro h9 h9_))))))))))))
       try simp [F7]
       and_intros
       any_goals first | exact g _ (by kernel_rfl) | refine r _ _ _ ?_ | omega | (simp [maxLen, F7] <;> omega)
       refine AW.wk [(2, AV.ptr 1 0), (5, AV.ptr 3 0), (53, AV.bool true)] [(1, .cells [Iz 0, Iz 0, AV.lst true true (List.map (AV.int .i64) ([] : List Int))]), (3, .cells [Iz v0, Iz v5, Lz v18])] 4 (by simp [F7]) (by simp [F7]) (by simp) ?_
       refine AW.condT (by decide) (by simp [F7]) ?_
       refine AW.seqR mixed [] [none, none, none] (by kernel_rfl) fun _ _ g r => ?_
       try simp [F7]
       and_intros
       any_goals first | exact g _ (by kernel_rfl) | refine r _ _ _ ?_ | omega | (simp [maxLen, F7] <;> omega)
       refine AW.wk [(2, AV.ptr 1 0), (3, Iz 47)] [(1, .cells [Iz 0, Iz 0, AV.lst true true (List.map (AV.int .i64) ([] : List Int))])] 4 (by simp [F7]) (by simp [F7]) (by simp) ?_
       refine AW.rnm (m := 0) h0 [(0, 1)] [(2, AV.ptr 0 0), (3, Iz 47)] [(0, .cells [Iz 0, Iz 0, AV.lst true true (List.map (AV.int .i64) ([] : List Int))])] 1 (by decide) (by decide) (by decide) rfl (by simp [F7]) (by simp [F7]) ?_
       refine AW.flg [] [(0, .cells [Iz 0, Iz 0, AV.lst false false (List.map (AV.int .i64) ([] : List Int))])] trivial ⟨⟨AObj.cells [Iz 0, Iz 0, AV.lst true true (List.map (AV.int .i64) ([] : List Int))], by simp [F7], (.mk (.cons (.same _) (.cons (.same _) (.cons (.lst (by simp)) .nil))))⟩, trivial⟩ (by simp) ?_
       simp only [Option.some.injEq, Prod.mk.injEq] at hF
       obtain ⟨e0, e1, e2, e3⟩ := hF
       subst e0 e1 e2 e3
       refine AW.ret (hQ _ _ _ ?_ (matchO_0 ?_)).1
       ·simp [Try.f26, F7]
       ·simp [F7]
      ·replace hF := ite_f h9 hF
       have h9_ := h9
       try simp at h9_
       by_cases h10 : (!strEq v10 (ByteArray.mk #[])) = true
       ·replace hF := ite_t h10 hF
        have h10_ := h10
        try simp at h10_
        have F8 := And.intro F2 (And.intro h5 (And.intro h5_ (And.intro h6_ (And.intro h6__ (And.intro h6q (And.intro h7_ (And.intro h7__ (And.intro h7q (And.intro h8_ (And.intro h8__ (And.intro h8q (And.intro h9 (And.intro h9_ (And.intro h10 h10_))))))))))))))
        try simp [F8]
        and_intros
        any_goals first | exact g _ (by kernel_rfl) | refine r _ _ _ ?_ | omega | (simp [maxLen, F8] <;> omega)
        refine AW.wk [(2, AV.ptr 1 0), (5, AV.ptr 3 0), (53, AV.bool true)] [(1, .cells [Iz 0, Iz 0, AV.lst true true (List.map (AV.int .i64) ([] : List Int))]), (3, .cells [Iz v0, Iz v5, Lz v18])] 4 (by simp [F8]) (by simp [F8]) (by simp) ?_
        refine AW.condT (by decide) (by simp [F8]) ?_
        refine AW.seqR mixed [] [none, none, none] (by kernel_rfl) fun _ _ g r => ?_
        try simp [F8]
        and_intros
        any_goals first | exact g _ (by kernel_rfl) | refine r _ _ _ ?_ | omega | (simp [maxLen, F8] <;> omega)
        refine AW.wk [(2, AV.ptr 1 0), (3, Iz 47)] [(1, .cells [Iz 0, Iz 0, AV.lst true true (List.map (AV.int .i64) ([] : List Int))])] 4 (by simp [F8]) (by simp [F8]) (by simp) ?_
        refine AW.rnm (m := 0) h0 [(0, 1)] [(2, AV.ptr 0 0), (3, Iz 47)] [(0, .cells [Iz 0, Iz 0, AV.lst true true (List.map (AV.int .i64) ([] : List Int))])] 1 (by decide) (by decide) (by decide) rfl (by simp [F8]) (by simp [F8]) ?_
        refine AW.flg [] [(0, .cells [Iz 0, Iz 0, AV.lst false false (List.map (AV.int .i64) ([] : List Int))])] trivial ⟨⟨AObj.cells [Iz 0, Iz 0, AV.lst true true (List.map (AV.int .i64) ([] : List Int))], by simp [F8], (.mk (.cons (.same _) (.cons (.same _) (.cons (.lst (by simp)) .nil))))⟩, trivial⟩ (by simp) ?_
        simp only [Option.some.injEq, Prod.mk.injEq] at hF
        obtain ⟨e0, e1, e2, e3⟩ := hF
        subst e0 e1 e2 e3
        refine AW.ret (hQ _ _ _ ?_ (matchO_0 ?_)).1
        ·simp [Try.f26, F8]
        ·simp [F8]
       ·replace hF := ite_f h10 hF
        have h10_ := h10
        try simp at h10_
        have F9 := And.intro F2 (And.intro h5 (And.intro h5_ (And.intro h6_ (And.intro h6__ (And.intro h6q (And.intro h7_ (And.intro h7__ (And.intro h7q (And.intro h8_ (And.intro h8__ (And.intro h8q (And.intro h9 (And.intro h9_ (And.intro h10 h10_))))))))))))))
        try simp [F9]
        and_intros
        try any_goals first | omega | (simp [maxLen, F9] <;> omega)
        obtain ⟨v20, h11, hF⟩ := bnd1_elim hF
        refine aCall_l (w_guardian_Valid k _ _ _ _ h11) (by simp) [] [] [] rfl (.cons (.same (by simp [F9])) .nil) (by simp [F9]) (by decide) (by simp) (by simp) (.inl rfl) (by simp) (by simp) ?_
        try simp [F9]
        and_intros
        any_goals first | exact g _ (by kernel_rfl) | refine r _ _ _ ?_ | omega | (simp [maxLen, F9] <;> omega)
        refine AW.wk [(2, AV.ptr 1 0), (5, AV.ptr 3 0), (53, AV.bool (!v20))] [(1, .cells [Iz 0, Iz 0, AV.lst true true (List.map (AV.int .i64) ([] : List Int))]), (3, .cells [Iz v0, Iz v5, Lz v18])] 4 (by simp [F9]) (by simp [F9]) (by simp) ?_
        by_cases h12 : (!v20) = true
        ·replace hF := ite_t h12 hF
         have h12_ := h12
         try simp at h12_
         have F10 := And.intro F9 (And.intro h12 h12_)
         refine AW.condT (by decide) (by first | (simp [F10] <;> omega)) ?_
         refine AW.seqR mixed [] [none, none, none] (by kernel_rfl) fun _ _ g r => ?_
         try simp [F10]
         and_intros
         any_goals first | exact g _ (by kernel_rfl) | refine r _ _ _ ?_ | omega | (simp [maxLen, F10] <;> omega)
         refine AW.wk [(2, AV.ptr 1 0), (3, Iz 47)] [(1, .cells [Iz 0, Iz 0, AV.lst true true (List.map (AV.int .i64) ([] : List Int))])] 4 (by simp [F10]) (by simp [F10]) (by simp) ?_
         refine AW.rnm (m := 0) h0 [(0, 1)] [(2, AV.ptr 0 0), (3, Iz 47)] [(0, .cells [Iz 0, Iz 0, AV.lst true true (List.map (AV.int .i64) ([] : List Int))])] 1 (by decide) (by decide) (by decide) rfl (by simp [F10]) (by simp [F10]) ?_
         refine AW.flg [] [(0, .cells [Iz 0, Iz 0, AV.lst false false (List.map (AV.int .i64) ([] : List Int))])] trivial ⟨⟨AObj.cells [Iz 0, Iz 0, AV.lst true true (List.map (AV.int .i64) ([] : List Int))], by simp [F10], (.mk (.cons (.same _) (.cons (.same _) (.cons (.lst (by simp)) .nil))))⟩, trivial⟩ (by simp) ?_
         simp only [Option.some.injEq, Prod.mk.injEq] at hF
         obtain ⟨e0, e1, e2, e3⟩ := hF
         subst e0 e1 e2 e3
         refine AW.ret (hQ _ _ _ ?_ (matchO_0 ?_)).1
         ·simp [Try.f26, F10]
         ·simp [F10]
        ·replace hF := ite_f h12 hF
         have h12_ := h12
         try simp at h12_
         have F11 := And.intro F9 (And.intro h12 h12_)
         refine AW.condF (by decide) (by first | (simp [F11] <;> omega)) ?_
         refine AW.skip ?_
         refine hK45 _ _ _ ?_
         refine AW.seqR mixed [] [none, none, none] (by kernel_rfl) fun _ _ g r => ?_
         try simp [F11]
         and_intros
         any_goals first | exact g _ (by kernel_rfl) | refine r _ _ _ ?_ | omega | (simp [maxLen, F11] <;> omega)
         refine AW.wk [(2, AV.ptr 1 0), (3, Iz 0)] [(1, .cells [Iz v0, Iz v5, Lz v18])] 4 (by simp [F11]) (by simp [F11]) (by simp) ?_
         refine AW.rnm (m := 0) h0 [(0, 1)] [(2, AV.ptr 0 0), (3, Iz 0)] [(0, .cells [Iz v0, Iz v5, Lz v18])] 1 (by decide) (by decide) (by decide) rfl (by simp [F11]) (by simp [F11]) ?_
         simp only [Option.some.injEq, Prod.mk.injEq] at hF
         obtain ⟨e0, e1, e2, e3⟩ := hF
         subst e0 e1 e2 e3
         refine AW.ret (hQ _ _ _ ?_ (matchO_0 ?_)).1
         ·simp [Try.f26, F11]
         ·simp [F11]
set_option maxHeartbeats 4000000 in
theorem w_guardian_All (k : Nat) (v0 : (List api_Statement)) (v1 : (List api_Guard)) (hF : guardian_All k v0 = some v1) :
  FCall Try.prog 29 [AV.lst false false (List.map api_Statement.av v0)] [] (AV.slc 0 0 3 v1.length false) [some (.grow (flatA (List.map api_Guard.av v1)))] := by
 unfold guardian_All at hF
 refine FCall.enter Try.func29 rfl (by simp) (by decide) (by simp) (by simp) (by simp) (by simp) (by simp) ?_
 intro c0 w0 Q h0 hQ
 refine AW.wk [(0, AV.lst false false (List.map api_Statement.av v0))] [] 0 (by simp) (by simp) (by simp) ?_
 refine AW.seqR mixed [] [none] (by kernel_rfl) fun _ _ g r => ?_
 try simp
 and_intros
 any_goals first | exact g _ (by kernel_rfl) | refine r _ _ _ ?_ | omega | (simp [maxLen] <;> omega)
 refine AW.wk [(0, AV.lst false false (List.map api_Statement.av v0))] [] 0 (by simp) (by simp) (by simp) ?_
 refine AW.seqR mixed [] [none, none] (by kernel_rfl) fun _ _ g r => ?_
 try simp
 and_intros
 any_goals first | exact g _ (by kernel_rfl) | refine r _ _ _ ?_ | omega | (simp [maxLen] <;> omega)
 refine AW.wk [(0, AV.lst false false (List.map api_Statement.av v0)), (3, AV.map 0)] [(0, .mp (mpA (AV.int .i64) api_Guard.av ([] : (List (Int × api_Guard)))))] 1 (by simp) (by simp) (by simp) ?_
 refine AW.seq fun K275 hK275 => ?_
 refine AW.seqR mixed [] [none, none, none] (by kernel_rfl) fun _ _ g r => ?_
 try simp
 and_intros
 any_goals first | exact g _ (by kernel_rfl) | refine r _ _ _ ?_ | omega | (simp [maxLen] <;> omega)
 refine AW.wk [(3, AV.map 0), (13, AV.lst false false (List.map api_Statement.av v0)), (14, Iz (v0.length : Int)), (15, Iz 0)] [(0, .mp (mpA (AV.int .i64) api_Guard.av ([] : (List (Int × api_Guard)))))] 1 (by simp) (by simp) (by simp) ?_
 refine AW.block ?_
 refine AW.loopF (α := (Int × (List (Int × api_Guard)))) (fun n (v2, v3) => guardian_All.L1 k v0 n v2 v3 = some v1) (fun (v2, v3) => [(3, AV.map 0), (13, AV.lst false false (List.map api_Statement.av v0)), (14, Iz (v0.length : Int)), (15, Iz v2)]) (fun (v2, v3) => [(0, .mp (mpA (AV.int .i64) api_Guard.av v3))]) 1 k ((0, ([] : (List (Int × api_Guard))))) hF (by simp) (by simp) (by simp) ?_
 rintro (_|n1) ⟨v2, v3⟩ hF K313 hK313
 ·try dsimp only at hF
  rw [guardian_All.L1] at hF; cases hF
 try dsimp only at hF
 rw [guardian_All.L1] at hF
 refine AW.seqR mixed [] [none] (by kernel_rfl) fun _ _ g r => ?_
 try simp
 and_intros
 any_goals first | exact g _ (by kernel_rfl) | refine r _ _ _ ?_ | omega | (simp [maxLen] <;> omega)
 refine AW.wk [(3, AV.map 0), (13, AV.lst false false (List.map api_Statement.av v0)), (14, Iz (v0.length : Int)), (15, Iz v2), (16, AV.bool (decide (v2 < (v0.length : Int))))] [(0, .mp (mpA (AV.int .i64) api_Guard.av v3))] 1 (by simp) (by simp) (by simp) ?_
 refine AW.seq fun K315 hK315 => ?_
 by_cases h1 : v2 < (v0.length : Int)
 ·replace hF := ite_t h1 hF
  have h1_ := h1
  try simp at h1_
  refine AW.condT (by decide) (by first | (simp [h1, h1_] <;> omega)) ?_
  refine AW.skip ?_
  refine hK315 _ _ _ ?_
  refine AW.midF (α := (List (Int × api_Guard))) (fun v4 => guardian_All.J2 k v2 (fun v2_ v3_ => guardian_All.L1 k v0 n1 v2_ v3_) v4 = some v1) (fun v4 => [(3, AV.map 0), (13, AV.lst false false (List.map api_Statement.av v0)), (14, Iz (v0.length : Int)), (15, Iz v2)]) (fun v4 => [(0, .mp (mpA (AV.int .i64) api_Guard.av v4))]) 1 (fun K321 hK321 => ?_) ?_
  ·refine AW.block ?_
   refine AW.seqR mixed [] [none, none, none, none] (by kernel_rfl) fun _ _ g r => ?_
   obtain ⟨v5, h2, h3, h4, hF⟩ := idx_elim hF
   have h4_ := get_of h4
   try simp at h4_
   have h3_ := h3
   try simp at h3_
   have F1 := And.intro h1 (And.intro h1_ (And.intro h2 (And.intro h3 (And.intro h4 (And.intro h4_ h3_)))))
   try simp [F1]
   and_intros
   any_goals first | exact g _ (by kernel_rfl) | refine r _ _ _ ?_ | omega | (simp [maxLen, F1] <;> omega)
   refine AW.wk [(3, AV.map 0), (5, AV.ptr 1 0), (13, AV.lst false false (List.map api_Statement.av v0)), (14, Iz (v0.length : Int)), (15, Iz v2)] [(0, .mp (mpA (AV.int .i64) api_Guard.av v3)), (1, .cells [Iz v5.Author, Iz v5.Number, AV.str v5.Prev, Iz v5.Time, Iz v5.Kind, Iz v5.A, Iz v5.B, Iz v5.C, AV.lst false false (List.map (AV.int .i64) v5.Lst), AV.lst false false (List.map api_Pin.av v5.Pins), AV.str v5.Body, Iz v5.Seal_Key, AV.str v5.Seal_Digest])] 2 (by simp [F1]) (by simp [F1]) (by simp) ?_
   refine AW.seqR mixed [] [none, none, none, none, none, none, none, none] (by kernel_rfl) fun _ _ g r => ?_
   try simp [F1]
   and_intros
   try any_goals first | omega | (simp [maxLen, F1] <;> omega)
   obtain ⟨v6, v7, v8, v9, h5, hF⟩ := bnd4_elim hF
   refine aCall_l (w_guardian_Of k _ _ _ _ _ _ _ _ _ _ _ _ _ _ _ _ _ h5) (by simp) [] [] [] rfl (.cons (.same (by simp [F1])) .nil) (by simp [F1]) (by decide) (by simp) (by simp) (.inl rfl) (by simp) (by simp) ?_
   try simp [F1]
   and_intros
   any_goals first | exact g _ (by kernel_rfl) | refine r _ _ _ ?_ | omega | (simp [maxLen, F1] <;> omega)
   refine AW.wk [(3, AV.map 0), (6, AV.ptr 2 0), (7, Iz v9), (13, AV.lst false false (List.map api_Statement.av v0)), (14, Iz (v0.length : Int)), (15, Iz v2)] [(0, .mp (mpA (AV.int .i64) api_Guard.av v3)), (2, .cells [Iz v6, Iz v7, Lz v8])] 3 (by simp [F1]) (by simp [F1]) (by simp) ?_
   refine AW.seqR mixed [] [none, none] (by kernel_rfl) fun _ _ g r => ?_
   try simp [F1]
   and_intros
   any_goals first | exact g _ (by kernel_rfl) | refine r _ _ _ ?_ | omega | (simp [maxLen, F1] <;> omega)
   refine AW.wk [(3, AV.map 0), (6, AV.ptr 2 0), (13, AV.lst false false (List.map api_Statement.av v0)), (14, Iz (v0.length : Int)), (15, Iz v2), (25, AV.bool (v9 == 0))] [(0, .mp (mpA (AV.int .i64) api_Guard.av v3)), (2, .cells [Iz v6, Iz v7, Lz v8])] 3 (by simp [F1]) (by simp [F1]) (by simp) ?_
   by_cases h6 : v9 = 0
   ·replace hF := ite_t h6 hF
    have h6q : v9 = 0 := h6
    have h6_ := eqb_t h6q
    have h6__ := neb_f h6q
    have F2 := And.intro F1 (And.intro h6_ (And.intro h6__ h6q))
    refine AW.condT (by decide) (by first | (simp [F2] <;> omega)) ?_
    refine AW.region mixed [] [none, none, none, none, none] (by kernel_rfl) fun _ _ g r => ?_
    try simp [F2]
    and_intros
    any_goals first | exact g _ (by kernel_rfl) | refine r _ _ _ ?_ | omega | (simp [maxLen, F2] <;> omega)
    refine hK321 _ _ _ ?_
    refine Can.weak [(3, AV.map 0), (13, AV.lst false false (List.map api_Statement.av v0)), (14, Iz (v0.length : Int)), (15, Iz v2)] [(0, .mp (mpA (AV.int .i64) api_Guard.av (mput v3 v6 (api_Guard.mk v6 v7 v8))))] 3 (by simp [F2]) (by simp [F2]) (by simp) ?_
    refine Can.ren (m := 0) h0 [(0, 0)] [(3, AV.map 0), (13, AV.lst false false (List.map api_Statement.av v0)), (14, Iz (v0.length : Int)), (15, Iz v2)] [(0, .mp (mpA (AV.int .i64) api_Guard.av (mput v3 v6 (api_Guard.mk v6 v7 v8))))] 1 (by decide) (by decide) (by decide) rfl (by simp [F2]) (by simp [F2]) ?_
    exact Can.join (mput v3 v6 (api_Guard.mk v6 v7 v8)) hF (by simp [F2]) (by simp [F2]) (by simp)
   ·replace hF := ite_f h6 hF
    have h6_ := eqb_f h6
    have h6__ := neb_t h6
    have F3 := And.intro F1 (And.intro h6 (And.intro h6_ h6__))
    refine AW.condF (by decide) (by first | (simp [F3] <;> omega)) ?_
    refine AW.skip ?_
    refine hK321 _ _ _ ?_
    refine Can.ren (m := 0) h0 [(0, 0)] [(3, AV.map 0), (13, AV.lst false false (List.map api_Statement.av v0)), (14, Iz (v0.length : Int)), (15, Iz v2)] [(0, .mp (mpA (AV.int .i64) api_Guard.av v3))] 1 (by decide) (by decide) (by decide) rfl (by simp [F3]) (by simp [F3]) ?_
    exact Can.join (v3) hF (by simp [F3]) (by simp [F3]) (by simp)
  ·rintro v4 hF
   try dsimp only at hF
   unfold guardian_All.J2 at hF
   refine AW.region mixed [] [none, none] (by kernel_rfl) fun _ _ g r => ?_
   try simp [h1, h1_]
   and_intros
   any_goals first | exact g _ (by kernel_rfl) | refine r _ _ _ ?_ | omega | (simp [h1, h1_, maxLen] <;> omega)
   refine hK313 _ _ _ ?_
   refine Can.weak [(3, AV.map 0), (13, AV.lst false false (List.map api_Statement.av v0)), (14, Iz (v0.length : Int)), (15, Iz (IntKind.wrap .i64 (v2 + 1)))] [(0, .mp (mpA (AV.int .i64) api_Guard.av v4))] 1 (by simp [h1, h1_]) (by simp [h1, h1_]) (by simp) ?_
   exact Can.next (k' := n1) ((IntKind.wrap .i64 (v2 + 1), v4)) (by omega) hF (by simp [h1, h1_]) (by simp [h1, h1_]) (by simp)
 ·replace hF := ite_f h1 hF
  have h1_ := h1
  try simp at h1_
  refine AW.condF (by decide) (by first | (simp [h1, h1_] <;> omega)) ?_
  refine AW.exit ?_
  try simp
  refine hK275 _ _ _ ?_
  refine AW.seqR mixed [] [none] (by kernel_rfl) fun _ _ g r => ?_
  try simp [h1, h1_]
  and_intros
  any_goals first | exact g _ (by kernel_rfl) | refine r _ _ _ ?_ | omega | (simp [h1, h1_, maxLen] <;> omega)
  refine AW.wk [(3, AV.map 0), (8, AV.lst true true (List.map api_Guard.av ([] : List api_Guard)))] [(0, .mp (mpA (AV.int .i64) api_Guard.av v3))] 1 (by simp [h1, h1_]) (by simp [h1, h1_]) (by simp) ?_
  refine AW.seq fun K385 hK385 => ?_
  refine AW.seqR mixed [] [none] (by kernel_rfl) fun _ _ g r => ?_
  try simp [h1, h1_]
  and_intros
  any_goals first | exact g _ (by kernel_rfl) | refine r _ _ _ ?_ | omega | (simp [h1, h1_, maxLen] <;> omega)
  refine AW.wk [(3, AV.map 0), (8, AV.lst true true (List.map api_Guard.av ([] : List api_Guard))), (31, Iz 0)] [(0, .mp (mpA (AV.int .i64) api_Guard.av v3))] 1 (by simp [h1, h1_]) (by simp [h1, h1_]) (by simp) ?_
  refine AW.block ?_
  refine AW.own' 8 3 true (by simp [h1, h1_]) (by decide) ?_
  refine AW.loopF (α := (Int × (List api_Guard))) (fun n (v10, v11) => guardian_All.L3 k v3 n v10 v11 = some v1) (fun (v10, v11) => [(3, AV.map 0), (8, AV.slc 1 0 3 v11.length false), (31, Iz v10)]) (fun (v10, v11) => [(0, .mp (mpA (AV.int .i64) api_Guard.av v3)), (1, .grow (flatA (List.map api_Guard.av v11)))]) 2 k ((0, ([] : List api_Guard))) hF (by simp [h1, h1_]) (by simp [h1, h1_]) (by simp) ?_
  rintro (_|n3) ⟨v10, v11⟩ hF K429 hK429
  ·try dsimp only at hF
   rw [guardian_All.L3] at hF; cases hF
  try dsimp only at hF
  rw [guardian_All.L3] at hF
  refine AW.seqR mixed [] [none] (by kernel_rfl) fun _ _ g r => ?_
  try simp [h1, h1_]
  and_intros
  any_goals first | exact g _ (by kernel_rfl) | refine r _ _ _ ?_ | omega | (simp [h1, h1_, maxLen] <;> omega)
  refine AW.wk [(3, AV.map 0), (8, AV.slc 1 0 3 v11.length false), (31, Iz v10), (32, AV.bool (decide (v10 < 64)))] [(0, .mp (mpA (AV.int .i64) api_Guard.av v3)), (1, .grow (flatA (List.map api_Guard.av v11)))] 2 (by simp [h1, h1_]) (by simp [h1, h1_]) (by simp) ?_
  refine AW.seq fun K431 hK431 => ?_
  by_cases h7 : v10 < 64
  ·replace hF := ite_t h7 hF
   have h7_ := h7
   try simp at h7_
   have F4 := And.intro h1 (And.intro h1_ (And.intro h7 h7_))
   refine AW.condT (by decide) (by first | (simp [F4] <;> omega)) ?_
   refine AW.skip ?_
   refine hK431 _ _ _ ?_
   refine AW.midF (α := (List api_Guard)) (fun v12 => guardian_All.J4 k v10 (fun v10_ v11_ => guardian_All.L3 k v3 n3 v10_ v11_) v12 = some v1) (fun v12 => [(3, AV.map 0), (8, AV.slc 1 0 3 v12.length false), (31, Iz v10)]) (fun v12 => [(0, .mp (mpA (AV.int .i64) api_Guard.av v3)), (1, .grow (flatA (List.map api_Guard.av v12)))]) 2 (fun K438 hK438 => ?_) ?_
   ·refine AW.block ?_
    refine AW.seqR mixed [] [none, none] (by kernel_rfl) fun _ _ g r => ?_
    try simp [F4]
    and_intros
    any_goals first | exact g _ (by kernel_rfl) | refine r _ _ _ ?_ | omega | (simp [maxLen, F4] <;> omega)
    refine AW.wk [(3, AV.map 0), (8, AV.slc 1 0 3 v11.length false), (9, Iz v10), (31, Iz v10)] [(0, .mp (mpA (AV.int .i64) api_Guard.av v3)), (1, .grow (flatA (List.map api_Guard.av v11)))] 2 (by simp [F4]) (by simp [F4]) (by simp) ?_
    refine AW.midF (α := (Int × Int × (List Int) × Bool)) (fun (v13, v14, v15, v16) => guardian_All.J5 k v10 v11 (fun v10_ v11_ => guardian_All.L3 k v3 n3 v10_ v11_) v13 v14 v15 v16 = some v1) (fun (v13, v14, v15, v16) => [(3, AV.map 0), (8, AV.slc 1 0 3 v11.length false), (10, AV.ptr 2 0), (11, AV.bool v16), (31, Iz v10)]) (fun (v13, v14, v15, v16) => [(0, .mp (mpA (AV.int .i64) api_Guard.av v3)), (1, .grow (flatA (List.map api_Guard.av v11))), (2, .cells [Iz v13, Iz v14, Lz v15])]) 3 (fun K443 hK443 => ?_) ?_
    ·refine AW.region mixed [] [none, none, none, none, none, none, none, none, none] (by kernel_rfl) fun _ _ g r => ?_
     rcases opt2_elim hF with ⟨v17, h10, hF⟩ | ⟨h11, hF⟩
     ·have F5 := And.intro F4 h10
      try simp [F5]
      and_intros
      any_goals first | exact g _ (by kernel_rfl) | refine r _ _ _ ?_ | omega | (simp [maxLen, F5] <;> omega)
      refine hK443 _ _ _ ?_
      refine Can.weak [(3, AV.map 0), (8, AV.slc 1 0 3 v11.length false), (10, AV.ptr 2 0), (11, AV.bool true), (31, Iz v10)] [(0, .mp (mpA (AV.int .i64) api_Guard.av v3)), (1, .grow (flatA (List.map api_Guard.av v11))), (2, .cells [Iz v17.Owner, Iz v17.Need, AV.lst false false (List.map (AV.int .i64) v17.Guardians)])] 3 (by simp [F5]) (by simp [F5]) (by simp) ?_
      exact Can.join ((v17.Owner, v17.Need, v17.Guardians, true)) hF (by simp [F5]) (by simp [F5]) (by simp)
     ·have F6 := And.intro F4 h11
      try simp [F6]
      and_intros
      any_goals first | exact g _ (by kernel_rfl) | refine r _ _ _ ?_ | omega | (simp [maxLen, F6] <;> omega)
      refine hK443 _ _ _ ?_
      refine Can.weak [(3, AV.map 0), (8, AV.slc 1 0 3 v11.length false), (10, AV.ptr 2 0), (11, AV.bool false), (31, Iz v10)] [(0, .mp (mpA (AV.int .i64) api_Guard.av v3)), (1, .grow (flatA (List.map api_Guard.av v11))), (2, .cells [Iz 0, Iz 0, AV.lst true true (List.map (AV.int .i64) ([] : List Int))])] 3 (by simp [F6]) (by simp [F6]) (by simp) ?_
      refine Can.flg [] [(2, .cells [Iz 0, Iz 0, AV.lst false false (List.map (AV.int .i64) ([] : List Int))])] trivial ⟨⟨AObj.cells [Iz 0, Iz 0, AV.lst true true (List.map (AV.int .i64) ([] : List Int))], by simp [F6], (.mk (.cons (.same _) (.cons (.same _) (.cons (.lst (by simp)) .nil))))⟩, trivial⟩ (by simp) ?_
      exact Can.join ((0, 0, ([] : List Int), false)) hF (by simp [F6]) (by simp [F6]) (by simp)
    ·rintro ⟨v13, v14, v15, v16⟩ hF
     try dsimp only at hF
     unfold guardian_All.J5 at hF
     refine AW.seqR mixed [] [none] (by kernel_rfl) fun _ _ g r => ?_
     try simp [F4]
     and_intros
     any_goals first | exact g _ (by kernel_rfl) | refine r _ _ _ ?_ | omega | (simp [maxLen, F4] <;> omega)
     refine AW.wk [(3, AV.map 0), (8, AV.slc 1 0 3 v11.length false), (10, AV.ptr 2 0), (31, Iz v10), (40, AV.bool v16)] [(0, .mp (mpA (AV.int .i64) api_Guard.av v3)), (1, .grow (flatA (List.map api_Guard.av v11))), (2, .cells [Iz v13, Iz v14, Lz v15])] 3 (by simp [F4]) (by simp [F4]) (by simp) ?_
     by_cases h8 : v16 = true
     ·replace hF := ite_t h8 hF
      have h8_ := h8
      try simp at h8_
      have F7 := And.intro F4 (And.intro h8 h8_)
      refine AW.condT (by decide) (by first | (simp [F7] <;> omega)) ?_
      refine AW.region mixed [] [none, none, none, none, none] (by kernel_rfl) fun _ _ g r => ?_
      obtain ⟨h9, hF⟩ := chk_elim hF
      have h9_ := h9
      try simp at h9_
      have F8 := And.intro F7 h9
      try simp [F8]
      and_intros
      any_goals first | exact g _ (by kernel_rfl) | refine r _ _ _ ?_ | omega | (simp [maxLen, F8] <;> omega)
      refine hK438 _ _ _ ?_
      refine Can.weak [(3, AV.map 0), (8, AV.slc 3 0 3 ((v11 ++ ([(api_Guard.mk v13 v14 v15)] : List api_Guard)).length) false), (31, Iz v10)] [(0, .mp (mpA (AV.int .i64) api_Guard.av v3)), (3, .grow (flatA (List.map api_Guard.av (v11 ++ ([(api_Guard.mk v13 v14 v15)] : List api_Guard)))))] 4 (by simp [F8] <;> omega) (by simp [F8]) (by simp) ?_
      refine Can.ren (m := 0) h0 [(0, 0), (1, 3)] [(3, AV.map 0), (8, AV.slc 1 0 3 ((v11 ++ ([(api_Guard.mk v13 v14 v15)] : List api_Guard)).length) false), (31, Iz v10)] [(0, .mp (mpA (AV.int .i64) api_Guard.av v3)), (1, .grow (flatA (List.map api_Guard.av (v11 ++ ([(api_Guard.mk v13 v14 v15)] : List api_Guard)))))] 2 (by decide) (by decide) (by decide) rfl (by simp [F8]) (by simp [F8]) ?_
      exact Can.join (v11 ++ ([(api_Guard.mk v13 v14 v15)] : List api_Guard)) hF (by simp [F8]) (by simp [F8]) (by simp)
     ·replace hF := ite_f h8 hF
      have h8_ := h8
      try simp at h8_
      have F9 := And.intro F4 (And.intro h8 h8_)
      refine AW.condF (by decide) (by first | (simp [F9] <;> omega)) ?_
      refine AW.skip ?_
      refine hK438 _ _ _ ?_
      refine Can.ren (m := 0) h0 [(0, 0), (1, 1)] [(3, AV.map 0), (8, AV.slc 1 0 3 v11.length false), (31, Iz v10)] [(0, .mp (mpA (AV.int .i64) api_Guard.av v3)), (1, .grow (flatA (List.map api_Guard.av v11)))] 2 (by decide) (by decide) (by decide) rfl (by simp [F9]) (by simp [F9]) ?_
      exact Can.join (v11) hF (by simp [F9]) (by simp [F9]) (by simp)
   ·rintro v12 hF
    try dsimp only at hF
    unfold guardian_All.J4 at hF
    refine AW.region mixed [] [none, none] (by kernel_rfl) fun _ _ g r => ?_
    try simp [F4]
    and_intros
    any_goals first | exact g _ (by kernel_rfl) | refine r _ _ _ ?_ | omega | (simp [maxLen, F4] <;> omega)
    refine hK429 _ _ _ ?_
    refine Can.weak [(3, AV.map 0), (8, AV.slc 1 0 3 v12.length false), (31, Iz (IntKind.wrap .i64 (v10 + 1)))] [(0, .mp (mpA (AV.int .i64) api_Guard.av v3)), (1, .grow (flatA (List.map api_Guard.av v12)))] 2 (by simp [F4]) (by simp [F4]) (by simp) ?_
    exact Can.next (k' := n3) ((IntKind.wrap .i64 (v10 + 1), v12)) (by omega) hF (by simp [F4]) (by simp [F4]) (by simp)
  ·replace hF := ite_f h7 hF
   have h7_ := h7
   try simp at h7_
   have F10 := And.intro h1 (And.intro h1_ (And.intro h7 h7_))
   refine AW.condF (by decide) (by first | (simp [F10] <;> omega)) ?_
   refine AW.exit ?_
   try simp
   refine hK385 _ _ _ ?_
   refine AW.seqR mixed [] [none, none] (by kernel_rfl) fun _ _ g r => ?_
   try simp [F10]
   and_intros
   any_goals first | exact g _ (by kernel_rfl) | refine r _ _ _ ?_ | omega | (simp [maxLen, F10] <;> omega)
   refine AW.wk [(2, AV.slc 1 0 3 v11.length false)] [(1, .grow (flatA (List.map api_Guard.av v11)))] 2 (by simp [F10]) (by simp [F10]) (by simp) ?_
   refine AW.rnm (m := 0) h0 [(0, 1)] [(2, AV.slc 0 0 3 v11.length false)] [(0, .grow (flatA (List.map api_Guard.av v11)))] 1 (by decide) (by decide) (by decide) rfl (by simp [F10]) (by simp [F10]) ?_
   simp only [Option.some.injEq] at hF
   subst hF
   refine AW.ret (hQ _ _ _ ?_ (matchO_0 ?_)).1
   ·simp [Try.f29, F10]
   ·simp [F10]
set_option maxHeartbeats 4000000 in
theorem w_ref23_SameInts (k : Nat) (v0 : (List Int)) (v1 : (List Int)) (v2 : Bool) (hF : ref23_SameInts k v0 v1 = some v2) :
  FCall Try.prog 32 [AV.lst false false (List.map (AV.int .i64) v0), AV.lst false false (List.map (AV.int .i64) v1)] [] (AV.bool v2) [] := by
 unfold ref23_SameInts at hF
 refine FCall.enter Try.func32 rfl (by simp) (by decide) (by simp) (by simp) (by simp) (by simp) (by simp) ?_
 intro c0 w0 Q h0 hQ
 refine AW.wk [(0, Lz v0), (1, Lz v1)] [] 0 (by simp) (by simp) (by simp) ?_
 refine AW.seqR mixed [] [none] (by kernel_rfl) fun _ _ g r => ?_
 try simp
 and_intros
 any_goals first | exact g _ (by kernel_rfl) | refine r _ _ _ ?_ | omega | (simp [maxLen] <;> omega)
 refine AW.wk [(0, Lz v0), (1, Lz v1)] [] 0 (by simp) (by simp) (by simp) ?_
 refine AW.seq fun K88 hK88 => ?_
 refine AW.seqR mixed [] [none, none, none, none, none] (by kernel_rfl) fun _ _ g r => ?_
 try simp
 and_intros
 any_goals first | exact g _ (by kernel_rfl) | refine r _ _ _ ?_ | omega | (simp [maxLen] <;> omega)
 refine AW.wk [(0, Lz v0), (1, Lz v1), (10, AV.bool ((v0.length : Int) != (v1.length : Int)))] [] 0 (by simp) (by simp) (by simp) ?_
 by_cases h1 : (v0.length : Int) ≠ (v1.length : Int)
 ·replace hF := ite_t h1 hF
  have h1_ := eqb_f h1
  have h1__ := neb_t h1
  have F1 := And.intro h1 (And.intro h1_ h1__)
  refine AW.condT (by decide) (by first | (simp [F1] <;> omega)) ?_
  refine AW.seqR mixed [] [none] (by kernel_rfl) fun _ _ g r => ?_
  try simp [F1]
  and_intros
  any_goals first | exact g _ (by kernel_rfl) | refine r _ _ _ ?_ | omega | (simp [maxLen, F1] <;> omega)
  refine AW.wk [(4, AV.bool false)] [] 0 (by simp [F1]) (by simp [F1]) (by simp) ?_
  simp only [Option.some.injEq] at hF
  subst hF
  refine AW.ret (hQ _ _ _ ?_ (matchO_0 ?_)).1
  ·simp [Try.f32, F1]
  ·simp [F1]
 ·replace hF := ite_f h1 hF
  have h1q : (v0.length : Int) = (v1.length : Int) := Classical.not_not.1 h1
  have h1_ := eqb_t h1q
  have h1__ := neb_f h1q
  refine AW.condF (by decide) (by first | (simp [h1_, h1__] <;> omega)) ?_
  refine AW.skip ?_
  refine hK88 _ _ _ ?_
  refine AW.seq fun K129 hK129 => ?_
  refine AW.seqR mixed [] [none] (by kernel_rfl) fun _ _ g r => ?_
  try simp [h1_, h1__]
  and_intros
  any_goals first | exact g _ (by kernel_rfl) | refine r _ _ _ ?_ | omega | (simp [h1_, h1__, maxLen] <;> omega)
  refine AW.wk [(0, Lz v0), (1, Lz v1), (5, Iz 0)] [] 0 (by simp [h1_, h1__]) (by simp [h1_, h1__]) (by simp) ?_
  refine AW.block ?_
  refine AW.loopF (α := Int) (fun n v3 => ref23_SameInts.L1 k v0 v1 n v3 = some v2) (fun v3 => [(0, Lz v0), (1, Lz v1), (5, Iz v3)]) (fun v3 => []) 0 k (0) hF (by simp [h1_, h1__]) (by simp [h1_, h1__]) (by simp) ?_
  rintro (_|n1) v3 hF K158 hK158
  ·try dsimp only at hF
   rw [ref23_SameInts.L1] at hF; cases hF
  try dsimp only at hF
  rw [ref23_SameInts.L1] at hF
  refine AW.seq fun K160 hK160 => ?_
  refine AW.seqR mixed [] [none, none, none, none] (by kernel_rfl) fun _ _ g r => ?_
  try simp [h1_, h1__]
  and_intros
  any_goals first | exact g _ (by kernel_rfl) | refine r _ _ _ ?_ | omega | (simp [h1_, h1__, maxLen] <;> omega)
  refine AW.wk [(0, Lz v0), (1, Lz v1), (5, Iz v3), (14, AV.bool (decide (v3 < (v0.length : Int))))] [] 0 (by simp [h1_, h1__]) (by simp [h1_, h1__]) (by simp) ?_
  by_cases h2 : v3 < (v0.length : Int)
  ·replace hF := ite_t h2 hF
   have h2_ := h2
   try simp at h2_
   have F2 := And.intro h1_ (And.intro h1__ (And.intro h2 h2_))
   refine AW.condT (by decide) (by first | (simp [F2] <;> omega)) ?_
   refine AW.skip ?_
   refine hK160 _ _ _ ?_
   refine AW.seq fun K164 hK164 => ?_
   refine AW.block ?_
   refine AW.seqR mixed [] [none, none, none, none, none, none, none, none, none] (by kernel_rfl) fun _ _ g r => ?_
   obtain ⟨v4, h3, h4, h5, hF⟩ := idx_elim hF
   have h5_ := get_of h5
   try simp at h5_
   have h4_ := h4
   try simp at h4_
   obtain ⟨v5, h6, h7, h8, hF⟩ := idx_elim hF
   have h8_ := get_of h8
   try simp at h8_
   have h7_ := h7
   try simp at h7_
   have F3 := And.intro F2 (And.intro h3 (And.intro h4 (And.intro h5 (And.intro h5_ (And.intro h4_ (And.intro h6 (And.intro h7 (And.intro h8 (And.intro h8_ h7_)))))))))
   try simp [F3]
   and_intros
   any_goals first | exact g _ (by kernel_rfl) | refine r _ _ _ ?_ | omega | (simp [maxLen, F3] <;> omega)
   refine AW.wk [(0, Lz v0), (1, Lz v1), (5, Iz v3), (25, AV.bool (v4 != v5))] [] 0 (by simp [F3]) (by simp [F3]) (by simp) ?_
   by_cases h9 : v4 ≠ v5
   ·replace hF := ite_t h9 hF
    have h9_ := eqb_f h9
    have h9__ := neb_t h9
    have F4 := And.intro F3 (And.intro h9 (And.intro h9_ h9__))
    refine AW.condT (by decide) (by first | (simp [F4] <;> omega)) ?_
    refine AW.seqR mixed [] [none] (by kernel_rfl) fun _ _ g r => ?_
    try simp [F4]
    and_intros
    any_goals first | exact g _ (by kernel_rfl) | refine r _ _ _ ?_ | omega | (simp [maxLen, F4] <;> omega)
    refine AW.wk [(4, AV.bool false)] [] 0 (by simp [F4]) (by simp [F4]) (by simp) ?_
    simp only [Option.some.injEq] at hF
    subst hF
    refine AW.ret (hQ _ _ _ ?_ (matchO_0 ?_)).1
    ·simp [Try.f32, F4]
    ·simp [F4]
   ·replace hF := ite_f h9 hF
    have h9q : v4 = v5 := Classical.not_not.1 h9
    have h9_ := eqb_t h9q
    have h9__ := neb_f h9q
    have F5 := And.intro F3 (And.intro h9_ h9__)
    refine AW.condF (by decide) (by first | (simp [F5] <;> omega)) ?_
    refine AW.skip ?_
    refine hK164 _ _ _ ?_
    refine AW.region mixed [] [none, none, none] (by kernel_rfl) fun _ _ g r => ?_
    try simp [F5]
    and_intros
    any_goals first | exact g _ (by kernel_rfl) | refine r _ _ _ ?_ | omega | (simp [maxLen, F5] <;> omega)
    refine hK158 _ _ _ ?_
    refine Can.weak [(0, Lz v0), (1, Lz v1), (5, Iz (IntKind.wrap .i64 (v3 + 1)))] [] 0 (by simp [F5]) (by simp [F5]) (by simp) ?_
    exact Can.next (k' := n1) (IntKind.wrap .i64 (v3 + 1)) (by omega) hF (by simp [F5]) (by simp [F5]) (by simp)
  ·replace hF := ite_f h2 hF
   have h2_ := h2
   try simp at h2_
   have F6 := And.intro h1_ (And.intro h1__ (And.intro h2 h2_))
   refine AW.condF (by decide) (by first | (simp [F6] <;> omega)) ?_
   refine AW.exit ?_
   try simp
   refine hK129 _ _ _ ?_
   refine AW.seqR mixed [] [none] (by kernel_rfl) fun _ _ g r => ?_
   try simp [F6]
   and_intros
   any_goals first | exact g _ (by kernel_rfl) | refine r _ _ _ ?_ | omega | (simp [maxLen, F6] <;> omega)
   refine AW.wk [(4, AV.bool true)] [] 0 (by simp [F6]) (by simp [F6]) (by simp) ?_
   simp only [Option.some.injEq] at hF
   subst hF
   refine AW.ret (hQ _ _ _ ?_ (matchO_0 ?_)).1
   ·simp [Try.f32, F6]
   ·simp [F6]
set_option maxHeartbeats 4000000 in
theorem w_ref24_Join (k : Nat) (v0 : (List Int)) (v1 : (List Int)) (v2 : (List Int)) (hF : ref24_Join k v0 v1 = some v2) :
  FCall Try.prog 34 [AV.lst false false (List.map (AV.int .i64) v0), AV.lst false false (List.map (AV.int .i64) v1)] [] (AV.slc 0 0 1 v2.length false) [some (.grow (List.map (AV.int .i64) v2))] := by
 unfold ref24_Join at hF
 refine FCall.enter Try.func34 rfl (by simp) (by decide) (by simp) (by simp) (by simp) (by simp) (by simp) ?_
 intro c0 w0 Q h0 hQ
 refine AW.wk [(0, Lz v0), (1, Lz v1)] [] 0 (by simp) (by simp) (by simp) ?_
 refine AW.seqR mixed [] [none] (by kernel_rfl) fun _ _ g r => ?_
 try simp
 and_intros
 any_goals first | exact g _ (by kernel_rfl) | refine r _ _ _ ?_ | omega | (simp [maxLen] <;> omega)
 refine AW.wk [(0, Lz v0), (1, Lz v1)] [] 0 (by simp) (by simp) (by simp) ?_
 refine AW.seqR mixed [] [none] (by kernel_rfl) fun _ _ g r => ?_
 try simp
 and_intros
 any_goals first | exact g _ (by kernel_rfl) | refine r _ _ _ ?_ | omega | (simp [maxLen] <;> omega)
 refine AW.wk [(0, Lz v0), (1, Lz v1), (5, AV.lst true true (List.map (AV.int .i64) ([] : List Int)))] [] 0 (by simp) (by simp) (by simp) ?_
 refine AW.seq fun K145 hK145 => ?_
 refine AW.seqR mixed [] [none] (by kernel_rfl) fun _ _ g r => ?_
 try simp
 and_intros
 any_goals first | exact g _ (by kernel_rfl) | refine r _ _ _ ?_ | omega | (simp [maxLen] <;> omega)
 refine AW.wk [(0, Lz v0), (1, Lz v1), (5, AV.lst true true (List.map (AV.int .i64) ([] : List Int))), (6, Iz 0)] [] 0 (by simp) (by simp) (by simp) ?_
 refine AW.block ?_
 refine AW.own' 5 1 true (by simp) (by decide) ?_
 refine AW.loopF (α := (Int × (List Int))) (fun n (v3, v4) => ref24_Join.L1 k v0 v1 n v3 v4 = some v2) (fun (v3, v4) => [(0, Lz v0), (1, Lz v1), (5, AV.slc 0 0 1 v4.length false), (6, Iz v3)]) (fun (v3, v4) => [(0, .grow (List.map (AV.int .i64) v4))]) 1 k ((0, ([] : List Int))) hF (by simp) (by simp) (by simp) ?_
 rintro (_|n1) ⟨v3, v4⟩ hF K180 hK180
 ·try dsimp only at hF
  rw [ref24_Join.L1] at hF; cases hF
 try dsimp only at hF
 rw [ref24_Join.L1] at hF
 refine AW.seq fun K182 hK182 => ?_
 refine AW.seqR mixed [] [none, none] (by kernel_rfl) fun _ _ g r => ?_
 try simp
 and_intros
 any_goals first | exact g _ (by kernel_rfl) | refine r _ _ _ ?_ | omega | (simp [maxLen] <;> omega)
 refine AW.wk [(0, Lz v0), (1, Lz v1), (5, AV.slc 0 0 1 v4.length false), (6, Iz v3), (8, AV.bool (decide (v3 < 64)))] [(0, .grow (List.map (AV.int .i64) v4))] 1 (by simp) (by simp) (by simp) ?_
 by_cases h1 : v3 < 64
 ·replace hF := ite_t h1 hF
  have h1_ := h1
  try simp at h1_
  refine AW.condT (by decide) (by first | (simp [h1, h1_] <;> omega)) ?_
  refine AW.skip ?_
  refine hK182 _ _ _ ?_
  refine AW.midF (α := (List Int)) (fun v5 => ref24_Join.J2 k v3 (fun v3_ v4_ => ref24_Join.L1 k v0 v1 n1 v3_ v4_) v5 = some v2) (fun v5 => [(0, Lz v0), (1, Lz v1), (5, AV.slc 0 0 1 v5.length false), (6, Iz v3)]) (fun v5 => [(0, .grow (List.map (AV.int .i64) v5))]) 1 (fun K188 hK188 => ?_) ?_
  ·refine AW.block ?_
   refine AW.seqR mixed [] [none, none, none, none, some (14, false), some (14, false), some (14, false), none] (by kernel_rfl) fun _ _ g r => ?_
   try simp [h1, h1_]
   and_intros
   try any_goals first | omega | (simp [h1, h1_, maxLen] <;> omega)
   obtain ⟨v6, h2, hF⟩ := bnd1_elim hF
   refine aCall_l (w_ref24_Has k _ _ _ h2) (by simp) [] [] [] rfl (.cons (.same (by simp [h1, h1_])) (.cons (.same (by simp [h1, h1_])) .nil)) (by simp [h1, h1_]) (by decide) (by simp) (by simp) (.inl rfl) (by simp) (by simp) ?_
   by_cases h3 : v6 = true
   ·replace hF := ite_t h3 hF
    have h3_ := h3
    try simp at h3_
    have F1 := And.intro h1 (And.intro h1_ (And.intro h3 h3_))
    try simp [F1]
    and_intros
    any_goals first | exact g _ (by kernel_rfl) | refine r _ _ _ ?_ | omega | (simp [maxLen, F1] <;> omega)
    refine AW.wk [(0, Lz v0), (1, Lz v1), (5, AV.slc 0 0 1 v4.length false), (6, Iz v3), (18, AV.bool true)] [(0, .grow (List.map (AV.int .i64) v4))] 1 (by simp [F1]) (by simp [F1]) (by simp) ?_
    refine AW.condT (by decide) (by simp [F1]) ?_
    refine AW.region mixed [] [none, none, none, none, none] (by kernel_rfl) fun _ _ g r => ?_
    obtain ⟨h4, hF⟩ := chk_elim hF
    have h4_ := h4
    try simp at h4_
    have F2 := And.intro F1 h4
    try simp [F2]
    and_intros
    any_goals first | exact g _ (by kernel_rfl) | refine r _ _ _ ?_ | omega | (simp [maxLen, F2] <;> omega)
    refine hK188 _ _ _ ?_
    refine Can.weak [(0, Lz v0), (1, Lz v1), (5, AV.slc 1 0 1 ((v4 ++ ([v3] : List Int)).length) false), (6, Iz v3)] [(1, .grow (List.map (AV.int .i64) (v4 ++ ([v3] : List Int))))] 2 (by simp [F2] <;> omega) (by simp [F2]) (by simp) ?_
    refine Can.ren (m := 0) h0 [(0, 1)] [(0, Lz v0), (1, Lz v1), (5, AV.slc 0 0 1 ((v4 ++ ([v3] : List Int)).length) false), (6, Iz v3)] [(0, .grow (List.map (AV.int .i64) (v4 ++ ([v3] : List Int))))] 1 (by decide) (by decide) (by decide) rfl (by simp [F2]) (by simp [F2]) ?_
    exact Can.join (v4 ++ ([v3] : List Int)) hF (by simp [F2]) (by simp [F2]) (by simp)
   ·replace hF := ite_f h3 hF
    have h3_ := h3
    try simp at h3_
    have F3 := And.intro h1 (And.intro h1_ (And.intro h3 h3_))
    try simp [F3]
    and_intros
    try any_goals first | omega | (simp [maxLen, F3] <;> omega)
    obtain ⟨v7, h5, hF⟩ := bnd1_elim hF
    refine aCall_l (w_ref24_Has k _ _ _ h5) (by simp) [] [] [] rfl (.cons (.same (by simp [F3])) (.cons (.same (by simp [F3])) .nil)) (by simp [F3]) (by decide) (by simp) (by simp) (.inl rfl) (by simp) (by simp) ?_
    try simp [F3]
    and_intros
    any_goals first | exact g _ (by kernel_rfl) | refine r _ _ _ ?_ | omega | (simp [maxLen, F3] <;> omega)
    refine AW.wk [(0, Lz v0), (1, Lz v1), (5, AV.slc 0 0 1 v4.length false), (6, Iz v3), (18, AV.bool v7)] [(0, .grow (List.map (AV.int .i64) v4))] 1 (by simp [F3]) (by simp [F3]) (by simp) ?_
    by_cases h6 : v7 = true
    ·replace hF := ite_t h6 hF
     have h6_ := h6
     try simp at h6_
     have F4 := And.intro F3 (And.intro h6 h6_)
     refine AW.condT (by decide) (by first | (simp [F4] <;> omega)) ?_
     refine AW.region mixed [] [none, none, none, none, none] (by kernel_rfl) fun _ _ g r => ?_
     obtain ⟨h7, hF⟩ := chk_elim hF
     have h7_ := h7
     try simp at h7_
     have F5 := And.intro F4 h7
     try simp [F5]
     and_intros
     any_goals first | exact g _ (by kernel_rfl) | refine r _ _ _ ?_ | omega | (simp [maxLen, F5] <;> omega)
     refine hK188 _ _ _ ?_
     refine Can.weak [(0, Lz v0), (1, Lz v1), (5, AV.slc 1 0 1 ((v4 ++ ([v3] : List Int)).length) false), (6, Iz v3)] [(1, .grow (List.map (AV.int .i64) (v4 ++ ([v3] : List Int))))] 2 (by simp [F5] <;> omega) (by simp [F5]) (by simp) ?_
     refine Can.ren (m := 0) h0 [(0, 1)] [(0, Lz v0), (1, Lz v1), (5, AV.slc 0 0 1 ((v4 ++ ([v3] : List Int)).length) false), (6, Iz v3)] [(0, .grow (List.map (AV.int .i64) (v4 ++ ([v3] : List Int))))] 1 (by decide) (by decide) (by decide) rfl (by simp [F5]) (by simp [F5]) ?_
     exact Can.join (v4 ++ ([v3] : List Int)) hF (by simp [F5]) (by simp [F5]) (by simp)
    ·replace hF := ite_f h6 hF
     have h6_ := h6
     try simp at h6_
     have F6 := And.intro F3 (And.intro h6 h6_)
     refine AW.condF (by decide) (by first | (simp [F6] <;> omega)) ?_
     refine AW.skip ?_
     refine hK188 _ _ _ ?_
     exact Can.join (v4) hF (by simp [F6]) (by simp [F6]) (by simp)
  ·rintro v5 hF
   try dsimp only at hF
   unfold ref24_Join.J2 at hF
   refine AW.region mixed [] [none, none, none] (by kernel_rfl) fun _ _ g r => ?_
   try simp [h1, h1_]
   and_intros
   any_goals first | exact g _ (by kernel_rfl) | refine r _ _ _ ?_ | omega | (simp [h1, h1_, maxLen] <;> omega)
   refine hK180 _ _ _ ?_
   refine Can.weak [(0, Lz v0), (1, Lz v1), (5, AV.slc 0 0 1 v5.length false), (6, Iz (IntKind.wrap .i64 (v3 + 1)))] [(0, .grow (List.map (AV.int .i64) v5))] 1 (by simp [h1, h1_]) (by simp [h1, h1_]) (by simp) ?_
   exact Can.next (k' := n1) ((IntKind.wrap .i64 (v3 + 1), v5)) (by omega) hF (by simp [h1, h1_]) (by simp [h1, h1_]) (by simp)
 ·replace hF := ite_f h1 hF
  have h1_ := h1
  try simp at h1_
  refine AW.condF (by decide) (by first | (simp [h1, h1_] <;> omega)) ?_
  refine AW.exit ?_
  try simp
  refine hK145 _ _ _ ?_
  refine AW.seqR mixed [] [none, none] (by kernel_rfl) fun _ _ g r => ?_
  try simp [h1, h1_]
  and_intros
  any_goals first | exact g _ (by kernel_rfl) | refine r _ _ _ ?_ | omega | (simp [h1, h1_, maxLen] <;> omega)
  refine AW.wk [(4, AV.slc 0 0 1 v4.length false)] [(0, .grow (List.map (AV.int .i64) v4))] 1 (by simp [h1, h1_]) (by simp [h1, h1_]) (by simp) ?_
  simp only [Option.some.injEq] at hF
  subst hF
  refine AW.ret (hQ _ _ _ ?_ (matchO_0 ?_)).1
  ·simp [Try.f34, h1, h1_]
  ·simp [h1, h1_]
set_option maxHeartbeats 4000000 in
theorem w_law34_GuardianLast (k : Nat) (v0 : (List Int)) (v1 : Bool) (hF : law34_GuardianLast k v0 = some v1) :
  FCall Try.prog 6 [AV.lst false false (List.map (AV.int .i64) v0)] [] (AV.bool v1) [] := by
 unfold law34_GuardianLast at hF
 refine FCall.enter Try.func6 rfl (by simp) (by decide) (by simp) (by simp) (by simp) (by simp) (by simp) ?_
 intro c0 w0 Q h0 hQ
 refine AW.wk [(0, Lz v0)] [] 0 (by simp [-List.reduceReplicate, sOf_set, ofI_set, allU8_set]) (by simp [-List.reduceReplicate, sOf_set, ofI_set, allU8_set]) (by simp) ?_
 refine AW.seqR mixed [] [none] (by kernel_rfl) fun _ _ g r => ?_
 try simp [-List.reduceReplicate, sOf_set, ofI_set, allU8_set]
 and_intros
 any_goals first | exact g _ (by kernel_rfl) | refine r _ _ _ ?_ | omega | (simp [-List.reduceReplicate, sOf_set, ofI_set, allU8_set, maxLen] <;> omega)
 refine AW.wk [(0, Lz v0)] [] 0 (by simp [-List.reduceReplicate, sOf_set, ofI_set, allU8_set]) (by simp [-List.reduceReplicate, sOf_set, ofI_set, allU8_set]) (by simp) ?_
 refine AW.seq fun K603 hK603 => ?_
 refine AW.seqR mixed [] [none, none, none] (by kernel_rfl) fun _ _ g r => ?_
 try simp [-List.reduceReplicate, sOf_set, ofI_set, allU8_set]
 and_intros
 try any_goals first | omega | (simp [-List.reduceReplicate, sOf_set, ofI_set, allU8_set, maxLen] <;> omega)
 obtain ⟨v2, h1, hF⟩ := bnd1_elim hF
 refine aCall_l (w_mill_Light k _ _ h1) (by simp) [] [] [] rfl (.cons (.same (by simp)) .nil) (by simp [-List.reduceReplicate, sOf_set, ofI_set, allU8_set]) (by decide) (by simp) (by simp) (.inl rfl) (by simp) (by simp) ?_
 try simp [-List.reduceReplicate, sOf_set, ofI_set, allU8_set]
 and_intros
 any_goals first | exact g _ (by kernel_rfl) | refine r _ _ _ ?_ | omega | (simp [-List.reduceReplicate, sOf_set, ofI_set, allU8_set, maxLen] <;> omega)
 refine AW.wk [(0, Lz v0), (18, AV.bool (!v2))] [] 0 (by simp [-List.reduceReplicate, sOf_set, ofI_set, allU8_set]) (by simp [-List.reduceReplicate, sOf_set, ofI_set, allU8_set]) (by simp) ?_
 by_cases h2 : (!v2) = true
 ·replace hF := ite_t h2 hF
  have h2_ := h2
  try simp [-List.reduceReplicate] at h2_
  refine AW.condT (by decide) (by first | (simp [-List.reduceReplicate, sOf_set, ofI_set, allU8_set, h2, h2_] <;> omega)) ?_
  refine AW.seqR mixed [] [none, none] (by kernel_rfl) fun _ _ g r => ?_
  try simp [-List.reduceReplicate, sOf_set, ofI_set, allU8_set, h2, h2_]
  and_intros
  try any_goals first | omega | (simp [-List.reduceReplicate, sOf_set, ofI_set, allU8_set, h2, h2_, maxLen] <;> omega)
  obtain ⟨v3, h3, hF⟩ := bnd1_elim hF
  refine aCall_l (w_law34_awake k _ h3) (by simp) [] [] [] rfl .nil (by simp [-List.reduceReplicate, sOf_set, ofI_set, allU8_set, h2, h2_]) (by decide) (by simp) (by simp) (.inl rfl) (by simp) (by simp) ?_
  try simp [-List.reduceReplicate, sOf_set, ofI_set, allU8_set, h2, h2_]
  and_intros
  any_goals first | exact g _ (by kernel_rfl) | refine r _ _ _ ?_ | omega | (simp [-List.reduceReplicate, sOf_set, ofI_set, allU8_set, h2, h2_, maxLen] <;> omega)
  refine AW.wk [(2, AV.bool v3)] [] 0 (by simp [-List.reduceReplicate, sOf_set, ofI_set, allU8_set, h2, h2_]) (by simp [-List.reduceReplicate, sOf_set, ofI_set, allU8_set, h2, h2_]) (by simp) ?_
  simp only [Option.some.injEq] at hF
  subst hF
  refine AW.ret (hQ _ _ _ ?_ (matchO_0 ?_)).1
  ·simp [Try.f6, h2, h2_]
  ·simp [h2, h2_]
 ·replace hF := ite_f h2 hF
  have h2_ := h2
  try simp [-List.reduceReplicate] at h2_
  refine AW.condF (by decide) (by first | (simp [-List.reduceReplicate, sOf_set, ofI_set, allU8_set, h2, h2_] <;> omega)) ?_
  refine AW.skip ?_
  refine hK603 _ _ _ ?_
  refine AW.seqR mixed [] [none, none, none] (by kernel_rfl) fun _ _ g r => ?_
  try simp [-List.reduceReplicate, sOf_set, ofI_set, allU8_set, h2, h2_]
  and_intros
  try any_goals first | omega | (simp [-List.reduceReplicate, sOf_set, ofI_set, allU8_set, h2, h2_, maxLen] <;> omega)
  obtain ⟨v4, v5, h4, hF⟩ := bnd2_elim hF
  refine aCall_l (w_mill_Roll k _ _ _ h4) (by simp) [] [] [] rfl (.cons (.same (by simp [-List.reduceReplicate, sOf_set, ofI_set, allU8_set, h2, h2_])) .nil) (by simp [-List.reduceReplicate, sOf_set, ofI_set, allU8_set, h2, h2_]) (by decide) (by simp) (by simp) (.inl rfl) (by simp) (by simp) ?_
  try simp [-List.reduceReplicate, sOf_set, ofI_set, allU8_set, h2, h2_]
  and_intros
  any_goals first | exact g _ (by kernel_rfl) | refine r _ _ _ ?_ | omega | (simp [-List.reduceReplicate, sOf_set, ofI_set, allU8_set, h2, h2_, maxLen] <;> omega)
  refine AW.wk [(3, AV.ptr 0 0)] [(0, .cells [Lz v4, Iz v5])] 1 (by simp [-List.reduceReplicate, sOf_set, ofI_set, allU8_set, h2, h2_]) (by simp [-List.reduceReplicate, sOf_set, ofI_set, allU8_set, h2, h2_]) (by simp) ?_
  refine AW.seqR mixed [] [none] (by kernel_rfl) fun _ _ g r => ?_
  try simp [-List.reduceReplicate, sOf_set, ofI_set, allU8_set, h2, h2_]
  and_intros
  any_goals first | exact g _ (by kernel_rfl) | refine r _ _ _ ?_ | omega | (simp [-List.reduceReplicate, sOf_set, ofI_set, allU8_set, h2, h2_, maxLen] <;> omega)
  refine AW.wk [(3, AV.ptr 0 0), (4, AV.lst true true (List.map api_Statement.av ([] : List api_Statement)))] [(0, .cells [Lz v4, Iz v5])] 1 (by simp [-List.reduceReplicate, sOf_set, ofI_set, allU8_set, h2, h2_]) (by simp [-List.reduceReplicate, sOf_set, ofI_set, allU8_set, h2, h2_]) (by simp) ?_
  refine AW.seqR mixed [22] [none, none] (by kernel_rfl) fun _ _ g r => ?_
  obtain ⟨h5, hF⟩ := chk_elim hF
  have F1 := And.intro h2 (And.intro h2_ h5)
  try simp [-List.reduceReplicate, sOf_set, ofI_set, allU8_set, F1]
  and_intros
  any_goals first | exact g _ (by kernel_rfl) | refine r _ _ _ ?_ | omega | (simp [-List.reduceReplicate, sOf_set, ofI_set, allU8_set, maxLen, F1] <;> omega)
  refine AW.wk [(3, AV.ptr 0 0), (4, AV.lst true true (List.map api_Statement.av ([] : List api_Statement))), (5, AV.slc 1 0 3 ((List.replicate (8 : Int).toNat (api_Guard.mk 0 0 ([] : List Int))).length) true)] [(0, .cells [Lz v4, Iz v5]), (1, .cells (flatA (List.replicate (8 : Int).toNat (AV.agg [Iz 0, Iz 0, AV.lst true true (List.map (AV.int .i64) ([] : List Int))]))))] 2 (by simp [-List.reduceReplicate, sOf_set, ofI_set, allU8_set, F1]) (by simp [-List.reduceReplicate, sOf_set, ofI_set, allU8_set, F1]) (by simp) ?_
  refine AW.flg [] [(1, .cells (flatA (List.map api_Guard.av (List.replicate (8 : Int).toNat (api_Guard.mk 0 0 ([] : List Int))))))] trivial ⟨⟨AObj.cells (flatA (List.replicate (8 : Int).toNat (AV.agg [Iz 0, Iz 0, AV.lst true true (List.map (AV.int .i64) ([] : List Int))]))), by simp [-List.reduceReplicate, sOf_set, ofI_set, allU8_set, F1], .rep (8 : Int).toNat  (.cons (.same _) (.cons (.same _) (.cons (.lst (by simp)) .nil)))⟩, trivial⟩ (by simp) ?_
  refine AW.seqR mixed [23] [none, none] (by kernel_rfl) fun _ _ g r => ?_
  obtain ⟨h6, hF⟩ := chk_elim hF
  have F2 := And.intro F1 h6
  try simp [-List.reduceReplicate, sOf_set, ofI_set, allU8_set, F2]
  and_intros
  any_goals first | exact g _ (by kernel_rfl) | refine r _ _ _ ?_ | omega | (simp [-List.reduceReplicate, sOf_set, ofI_set, allU8_set, maxLen, F2] <;> omega)
  refine AW.wk [(3, AV.ptr 0 0), (4, AV.lst true true (List.map api_Statement.av ([] : List api_Statement))), (5, AV.slc 1 0 3 ((List.replicate (8 : Int).toNat (api_Guard.mk 0 0 ([] : List Int))).length) true), (6, AV.slc 2 0 1 ((List.replicate (8 : Int).toNat false).length) true)] [(0, .cells [Lz v4, Iz v5]), (1, .cells (flatA (List.map api_Guard.av (List.replicate (8 : Int).toNat (api_Guard.mk 0 0 ([] : List Int)))))), (2, .cells (List.map AV.bool (List.replicate (8 : Int).toNat false)))] 3 (by simp [-List.reduceReplicate, sOf_set, ofI_set, allU8_set, F2]) (by simp [-List.reduceReplicate, sOf_set, ofI_set, allU8_set, F2]) (by simp) ?_
  refine AW.seq fun K688 hK688 => ?_
  refine AW.seqR mixed [] [none, none, none] (by kernel_rfl) fun _ _ g r => ?_
  try simp [-List.reduceReplicate, sOf_set, ofI_set, allU8_set, F2]
  and_intros
  try any_goals first | omega | (simp [-List.reduceReplicate, sOf_set, ofI_set, allU8_set, maxLen, F2] <;> omega)
  obtain ⟨v6, v7, h7, hF⟩ := bnd2_elim hF
  refine aCall_l (w_made_Dice_Next k _ _ _ _ _ h7) (by simp) [0] [] [0] rfl (.cons (.same (by simp [-List.reduceReplicate, sOf_set, ofI_set, allU8_set, F2])) (.cons (.same (by simp [-List.reduceReplicate, sOf_set, ofI_set, allU8_set, F2])) .nil)) (by simp [-List.reduceReplicate, sOf_set, ofI_set, allU8_set, F2]) (by decide) (by simp) (by simp) (.inl rfl) (by simp) (by simp) ?_
  try simp [-List.reduceReplicate, sOf_set, ofI_set, allU8_set, F2]
  and_intros
  any_goals first | exact g _ (by kernel_rfl) | refine r _ _ _ ?_ | omega | (simp [-List.reduceReplicate, sOf_set, ofI_set, allU8_set, maxLen, F2] <;> omega)
  refine AW.wk [(3, AV.ptr 0 0), (4, AV.lst true true (List.map api_Statement.av ([] : List api_Statement))), (5, AV.slc 1 0 3 ((List.replicate (8 : Int).toNat (api_Guard.mk 0 0 ([] : List Int))).length) true), (6, AV.slc 2 0 1 ((List.replicate (8 : Int).toNat false).length) true), (7, Iz v6)] [(0, .cells [Lz v4, Iz v7]), (1, .cells (flatA (List.map api_Guard.av (List.replicate (8 : Int).toNat (api_Guard.mk 0 0 ([] : List Int)))))), (2, .cells (List.map AV.bool (List.replicate (8 : Int).toNat false)))] 3 (by simp [-List.reduceReplicate, sOf_set, ofI_set, allU8_set, F2]) (by simp [-List.reduceReplicate, sOf_set, ofI_set, allU8_set, F2]) (by simp) ?_
  refine AW.block ?_
  refine AW.own' 4 13 true (by simp [-List.reduceReplicate, sOf_set, ofI_set, allU8_set, F2]) (by decide) ?_
  refine AW.rnm (m := 0) h0 [(0, 0), (1, 3), (2, 1), (3, 2)] [(3, AV.ptr 0 0), (4, AV.slc 1 0 13 (([] : List api_Statement).length) false), (5, AV.slc 2 0 3 ((List.replicate (8 : Int).toNat (api_Guard.mk 0 0 ([] : List Int))).length) true), (6, AV.slc 3 0 1 ((List.replicate (8 : Int).toNat false).length) true), (7, Iz v6)] [(0, .cells [Lz v4, Iz v7]), (1, .grow (flatA (List.map api_Statement.av ([] : List api_Statement)))), (2, .cells (flatA (List.map api_Guard.av (List.replicate (8 : Int).toNat (api_Guard.mk 0 0 ([] : List Int)))))), (3, .cells (List.map AV.bool (List.replicate (8 : Int).toNat false)))] 4 (by decide) (by decide) (by decide) rfl (by simp [-List.reduceReplicate, sOf_set, ofI_set, allU8_set, F2]) (by simp [-List.reduceReplicate, sOf_set, ofI_set, allU8_set, F2]) ?_
  refine AW.loopF (α := (Int × Int × (List api_Statement) × (List api_Guard) × (List Bool))) (fun n (v8, v9, v10, v11, v12) => law34_GuardianLast.L1 k v4 n v8 v9 v10 v11 v12 = some v1) (fun (v8, v9, v10, v11, v12) => [(3, AV.ptr 0 0), (4, AV.slc 1 0 13 v10.length false), (5, AV.slc 2 0 3 v11.length true), (6, AV.slc 3 0 1 v12.length true), (7, Iz v8)]) (fun (v8, v9, v10, v11, v12) => [(0, .cells [Lz v4, Iz v9]), (1, .grow (flatA (List.map api_Statement.av v10))), (2, .cells (flatA (List.map api_Guard.av v11))), (3, .cells (List.map AV.bool v12))]) 4 k ((v6, v7, ([] : List api_Statement), (List.replicate (8 : Int).toNat (api_Guard.mk 0 0 ([] : List Int))), (List.replicate (8 : Int).toNat false))) hF (by simp [-List.reduceReplicate, sOf_set, ofI_set, allU8_set, F2]) (by simp [-List.reduceReplicate, sOf_set, ofI_set, allU8_set, F2]) (by simp) ?_
  rintro (_|n1) ⟨v8, v9, v10, v11, v12⟩ hF K747 hK747
  ·try dsimp only at hF
   rw [law34_GuardianLast.L1] at hF; cases hF
  try dsimp only at hF
  rw [law34_GuardianLast.L1] at hF
  refine AW.seq fun K749 hK749 => ?_
  refine AW.seqR mixed [] [none, none] (by kernel_rfl) fun _ _ g r => ?_
  try simp [-List.reduceReplicate, sOf_set, ofI_set, allU8_set, F2]
  and_intros
  any_goals first | exact g _ (by kernel_rfl) | refine r _ _ _ ?_ | omega | (simp [-List.reduceReplicate, sOf_set, ofI_set, allU8_set, maxLen, F2] <;> omega)
  refine AW.wk [(3, AV.ptr 0 0), (4, AV.slc 1 0 13 v10.length false), (5, AV.slc 2 0 3 v11.length true), (6, AV.slc 3 0 1 v12.length true), (7, Iz v8), (27, AV.bool (decide (0 < v8)))] [(0, .cells [Lz v4, Iz v9]), (1, .grow (flatA (List.map api_Statement.av v10))), (2, .cells (flatA (List.map api_Guard.av v11))), (3, .cells (List.map AV.bool v12))] 4 (by simp [-List.reduceReplicate, sOf_set, ofI_set, allU8_set, F2]) (by simp [-List.reduceReplicate, sOf_set, ofI_set, allU8_set, F2]) (by simp) ?_
  by_cases h8 : 0 < v8
  ·replace hF := ite_t h8 hF
   have h8_ := h8
   try simp [-List.reduceReplicate] at h8_
   have F3 := And.intro F2 (And.intro h8 h8_)
   refine AW.condT (by decide) (by first | (simp [-List.reduceReplicate, sOf_set, ofI_set, allU8_set, F3] <;> omega)) ?_
   refine AW.skip ?_
   refine hK749 _ _ _ ?_
   refine AW.midF (α := (Int × (List api_Statement) × (List api_Guard) × (List Bool))) (fun (v13, v14, v15, v16) => law34_GuardianLast.J2 k v8 (fun v8_ v9_ v10_ v11_ v12_ => law34_GuardianLast.L1 k v4 n1 v8_ v9_ v10_ v11_ v12_) v13 v14 v15 v16 = some v1) (fun (v13, v14, v15, v16) => [(3, AV.ptr 0 0), (4, AV.slc 1 0 13 v14.length false), (5, AV.slc 2 0 3 v15.length true), (6, AV.slc 3 0 1 v16.length true), (7, Iz v8)]) (fun (v13, v14, v15, v16) => [(0, .cells [Lz v4, Iz v13]), (1, .grow (flatA (List.map api_Statement.av v14))), (2, .cells (flatA (List.map api_Guard.av v15))), (3, .cells (List.map AV.bool v16))]) 4 (fun K759 hK759 => ?_) ?_
   ·refine AW.block ?_
    refine AW.seqR mixed [] [none, none, none, none] (by kernel_rfl) fun _ _ g r => ?_
    try simp [-List.reduceReplicate, sOf_set, ofI_set, allU8_set, F3]
    and_intros
    try any_goals first | omega | (simp [-List.reduceReplicate, sOf_set, ofI_set, allU8_set, maxLen, F3] <;> omega)
    obtain ⟨v17, v18, v19, v20, h9, hF⟩ := bnd4_elim hF
    refine aCall_l (w_law34_guard k _ _ _ _ _ _ h9) (by simp) [0] [] [0] rfl (.cons (.same (by simp [-List.reduceReplicate, sOf_set, ofI_set, allU8_set, F3])) .nil) (by simp [-List.reduceReplicate, sOf_set, ofI_set, allU8_set, F3]) (by decide) (by simp) (by simp) (.inl rfl) (by simp) (by simp) ?_
    try simp [-List.reduceReplicate, sOf_set, ofI_set, allU8_set, F3]
    and_intros
    any_goals first | exact g _ (by kernel_rfl) | refine r _ _ _ ?_ | omega | (simp [-List.reduceReplicate, sOf_set, ofI_set, allU8_set, maxLen, F3] <;> omega)
    refine AW.wk [(3, AV.ptr 0 0), (4, AV.slc 1 0 13 v10.length false), (5, AV.slc 2 0 3 v11.length true), (6, AV.slc 3 0 1 v12.length true), (7, Iz v8), (8, AV.ptr 4 0)] [(0, .cells [Lz v4, Iz v20]), (1, .grow (flatA (List.map api_Statement.av v10))), (2, .cells (flatA (List.map api_Guard.av v11))), (3, .cells (List.map AV.bool v12)), (4, .cells [Iz v17, Iz v18, Lz v19])] 5 (by simp [-List.reduceReplicate, sOf_set, ofI_set, allU8_set, F3]) (by simp [-List.reduceReplicate, sOf_set, ofI_set, allU8_set, F3]) (by simp) ?_
    refine AW.seqR mixed [] [none, none, none, none, none, none, none, none] (by kernel_rfl) fun _ _ g r => ?_
    try simp [-List.reduceReplicate, sOf_set, ofI_set, allU8_set, F3]
    and_intros
    try any_goals first | omega | (simp [-List.reduceReplicate, sOf_set, ofI_set, allU8_set, maxLen, F3] <;> omega)
    obtain ⟨v21, v22, v23, v24, v25, v26, v27, h10, hF⟩ := bnd7_elim hF
    refine aCall_l (w_guardian_Draft k _ _ _ _ _ _ _ _ _ _ h10) (by simp) [] [] [] rfl (.cons (.same (by simp [-List.reduceReplicate, sOf_set, ofI_set, allU8_set, F3])) .nil) (by simp [-List.reduceReplicate, sOf_set, ofI_set, allU8_set, F3]) (by decide) (by simp) (by simp) (.inl rfl) (by simp) (by simp) ?_
    try simp [-List.reduceReplicate, sOf_set, ofI_set, allU8_set, F3]
    and_intros
    any_goals first | exact g _ (by kernel_rfl) | refine r _ _ _ ?_ | omega | (simp [-List.reduceReplicate, sOf_set, ofI_set, allU8_set, maxLen, F3] <;> omega)
    refine AW.wk [(3, AV.ptr 0 0), (4, AV.slc 1 0 13 v10.length false), (5, AV.slc 2 0 3 v11.length true), (6, AV.slc 3 0 1 v12.length true), (7, Iz v8), (8, AV.ptr 4 0), (9, AV.ptr 5 0), (10, Iz v27)] [(0, .cells [Lz v4, Iz v20]), (1, .grow (flatA (List.map api_Statement.av v10))), (2, .cells (flatA (List.map api_Guard.av v11))), (3, .cells (List.map AV.bool v12)), (4, .cells [Iz v17, Iz v18, Lz v19]), (5, .cells [Iz v21, Iz v22, Iz v23, Iz v24, Lz v25, AV.lst false false (List.map api_Pin.av v26)])] 6 (by simp [-List.reduceReplicate, sOf_set, ofI_set, allU8_set, F3]) (by simp [-List.reduceReplicate, sOf_set, ofI_set, allU8_set, F3]) (by simp) ?_
    refine AW.seq fun K763 hK763 => ?_
    refine AW.seqR mixed [] [none, none, none, some (39, false), some (39, false), some (39, false), none] (by kernel_rfl) fun _ _ g r => ?_
    by_cases h11 : v27 ≠ 0
    ·replace hF := ite_t h11 hF
     have h11_ := eqb_f h11
     have h11__ := neb_t h11
     have F4 := And.intro F3 (And.intro h11 (And.intro h11_ h11__))
     try simp [-List.reduceReplicate, sOf_set, ofI_set, allU8_set, F4]
     and_intros
     any_goals first | exact g _ (by kernel_rfl) | refine r _ _ _ ?_ | omega | (simp [-List.reduceReplicate, sOf_set, ofI_set, allU8_set, maxLen, F4] <;> omega)
     refine AW.wk [(3, AV.ptr 0 0), (4, AV.slc 1 0 13 v10.length false), (5, AV.slc 2 0 3 v11.length true), (6, AV.slc 3 0 1 v12.length true), (7, Iz v8), (8, AV.ptr 4 0), (9, AV.ptr 5 0), (43, AV.bool true)] [(0, .cells [Lz v4, Iz v20]), (1, .grow (flatA (List.map api_Statement.av v10))), (2, .cells (flatA (List.map api_Guard.av v11))), (3, .cells (List.map AV.bool v12)), (4, .cells [Iz v17, Iz v18, Lz v19]), (5, .cells [Iz v21, Iz v22, Iz v23, Iz v24, Lz v25, AV.lst false false (List.map api_Pin.av v26)])] 6 (by simp [-List.reduceReplicate, sOf_set, ofI_set, allU8_set, F4]) (by simp [-List.reduceReplicate, sOf_set, ofI_set, allU8_set, F4]) (by simp) ?_
     refine AW.condT (by decide) (by simp [-List.reduceReplicate, sOf_set, ofI_set, allU8_set, F4]) ?_
     refine AW.exit ?_
     try simp [-List.reduceReplicate]
     refine hK759 _ _ _ ?_
     refine Can.ren (m := 0) h0 [(0, 0), (1, 1), (2, 2), (3, 3)] [(3, AV.ptr 0 0), (4, AV.slc 1 0 13 v10.length false), (5, AV.slc 2 0 3 v11.length true), (6, AV.slc 3 0 1 v12.length true), (7, Iz v8)] [(0, .cells [Lz v4, Iz v20]), (1, .grow (flatA (List.map api_Statement.av v10))), (2, .cells (flatA (List.map api_Guard.av v11))), (3, .cells (List.map AV.bool v12))] 4 (by decide) (by decide) (by decide) rfl (by simp [-List.reduceReplicate, sOf_set, ofI_set, allU8_set, F4]) (by simp [-List.reduceReplicate, sOf_set, ofI_set, allU8_set, F4]) ?_
     exact Can.join ((v20, v10, v11, v12)) hF (by simp [-List.reduceReplicate, sOf_set, ofI_set, allU8_set, F4]) (by simp [-List.reduceReplicate, sOf_set, ofI_set, allU8_set, F4]) (by simp)
    ·replace hF := ite_f h11 hF
     have h11q : v27 = 0 := Classical.not_not.1 h11
     have h11_ := eqb_t h11q
     have h11__ := neb_f h11q
     have F5 := And.intro F3 (And.intro h11_ (And.intro h11__ h11q))
     try simp [-List.reduceReplicate, sOf_set, ofI_set, allU8_set, F5]
     and_intros
     any_goals first | exact g _ (by kernel_rfl) | refine r _ _ _ ?_ | omega | (simp [-List.reduceReplicate, sOf_set, ofI_set, allU8_set, maxLen, F5] <;> omega)
     refine AW.wk [(3, AV.ptr 0 0), (4, AV.slc 1 0 13 v10.length false), (5, AV.slc 2 0 3 v11.length true), (6, AV.slc 3 0 1 v12.length true), (7, Iz v8), (8, AV.ptr 4 0), (9, AV.ptr 5 0), (43, AV.bool (decide (8 ≤ v17)))] [(0, .cells [Lz v4, Iz v20]), (1, .grow (flatA (List.map api_Statement.av v10))), (2, .cells (flatA (List.map api_Guard.av v11))), (3, .cells (List.map AV.bool v12)), (4, .cells [Iz v17, Iz v18, Lz v19]), (5, .cells [Iz v21, Iz v22, Iz v23, Iz v24, Lz v25, AV.lst false false (List.map api_Pin.av v26)])] 6 (by simp [-List.reduceReplicate, sOf_set, ofI_set, allU8_set, F5]) (by simp [-List.reduceReplicate, sOf_set, ofI_set, allU8_set, F5]) (by simp) ?_
     by_cases h12 : 8 ≤ v17
     ·replace hF := ite_t h12 hF
      have h12_ := h12
      try simp [-List.reduceReplicate] at h12_
      have F6 := And.intro F5 (And.intro h12 h12_)
      refine AW.condT (by decide) (by first | (simp [-List.reduceReplicate, sOf_set, ofI_set, allU8_set, F6] <;> omega)) ?_
      refine AW.exit ?_
      try simp [-List.reduceReplicate]
      refine hK759 _ _ _ ?_
      refine Can.ren (m := 0) h0 [(0, 0), (1, 1), (2, 2), (3, 3)] [(3, AV.ptr 0 0), (4, AV.slc 1 0 13 v10.length false), (5, AV.slc 2 0 3 v11.length true), (6, AV.slc 3 0 1 v12.length true), (7, Iz v8)] [(0, .cells [Lz v4, Iz v20]), (1, .grow (flatA (List.map api_Statement.av v10))), (2, .cells (flatA (List.map api_Guard.av v11))), (3, .cells (List.map AV.bool v12))] 4 (by decide) (by decide) (by decide) rfl (by simp [-List.reduceReplicate, sOf_set, ofI_set, allU8_set, F6]) (by simp [-List.reduceReplicate, sOf_set, ofI_set, allU8_set, F6]) ?_
      exact Can.join ((v20, v10, v11, v12)) hF (by simp [-List.reduceReplicate, sOf_set, ofI_set, allU8_set, F6]) (by simp [-List.reduceReplicate, sOf_set, ofI_set, allU8_set, F6]) (by simp)
     ·replace hF := ite_f h12 hF
      have h12_ := h12
      try simp [-List.reduceReplicate] at h12_
      have F7 := And.intro F5 (And.intro h12 h12_)
      refine AW.condF (by decide) (by first | (simp [-List.reduceReplicate, sOf_set, ofI_set, allU8_set, F7] <;> omega)) ?_
      refine AW.skip ?_
      refine hK763 _ _ _ ?_
      refine AW.seqR mixed [] [none, none, none, none, none, none, none, none, none, none] (by kernel_rfl) fun _ _ g r => ?_
      try simp [-List.reduceReplicate, sOf_set, ofI_set, allU8_set, F7]
      and_intros
      try any_goals first | omega | (simp [-List.reduceReplicate, sOf_set, ofI_set, allU8_set, maxLen, F7] <;> omega)
      obtain ⟨v28, h13, hF⟩ := bnd1_elim hF
      refine aCall_l (w_mill_Statement k _ _ _ _ _ _ _ _ _ _ h13) (by simp) [] [] [] rfl (.cons (.same (by simp [-List.reduceReplicate, sOf_set, ofI_set, allU8_set, F7])) (.cons (.same (by simp [-List.reduceReplicate, sOf_set, ofI_set, allU8_set, F7])) (.cons (.same (by simp [-List.reduceReplicate, sOf_set, ofI_set, allU8_set, F7])) (.cons (.same (by simp [-List.reduceReplicate, sOf_set, ofI_set, allU8_set, F7])) .nil)))) (by simp [-List.reduceReplicate, sOf_set, ofI_set, allU8_set, F7]) (by decide) (by simp) (by simp) (.inl rfl) (by simp) (by simp) ?_
      obtain ⟨h14, hF⟩ := chk_elim hF
      have h14_ := h14
      try simp [-List.reduceReplicate] at h14_
      try simp [-List.reduceReplicate, sOf_set, ofI_set, allU8_set, F7, h14]
      and_intros
      any_goals first | exact g _ (by kernel_rfl) | refine r _ _ _ ?_ | omega | (simp [-List.reduceReplicate, sOf_set, ofI_set, allU8_set, maxLen, F7, h14] <;> omega)
      refine AW.wk [(3, AV.ptr 0 0), (4, AV.slc 6 0 13 ((v10 ++ ([v28] : List api_Statement)).length) false), (5, AV.slc 2 0 3 v11.length true), (6, AV.slc 3 0 1 v12.length true), (7, Iz v8), (8, AV.ptr 4 0)] [(0, .cells [Lz v4, Iz v20]), (2, .cells (flatA (List.map api_Guard.av v11))), (3, .cells (List.map AV.bool v12)), (4, .cells [Iz v17, Iz v18, Lz v19]), (6, .grow (flatA (List.map api_Statement.av (v10 ++ ([v28] : List api_Statement)))))] 7 (by simp [-List.reduceReplicate, sOf_set, ofI_set, allU8_set, F7, h14] <;> omega) (by simp [-List.reduceReplicate, sOf_set, ofI_set, allU8_set, F7, h14]) (by simp) ?_
      refine AW.region mixed [] [none, none, none, none, none, none, none, none, none, none, none] (by kernel_rfl) fun _ _ g r => ?_
      obtain ⟨v29, h15, h16, h17, hF⟩ := idx_elim hF
      have h17_ := get_of h17
      try simp [-List.reduceReplicate] at h17_
      have h16_ := h16
      try simp [-List.reduceReplicate] at h16_
      have h18 := flat_ne (F := api_Guard.av) (es := 3) (fun _ => rfl) (by decide) h16
      have h19 := flat_len (F := api_Guard.av) (es := 3) (fun _ => rfl) v11
      have h20 := flat_dropd (F := api_Guard.av) (es := 3) (fun _ => rfl) h17 0 (by decide)
      try simp only [Nat.add_zero] at h20
      have h21 := flat_set (F := api_Guard.av) (es := 3) (x' := (api_Guard.mk v17 v18 v19)) (d := 0) (zs := [Iz v17, Iz v18, Lz v19]) (fun _ => rfl) h17 (by simp) (by simp)
      try simp only [Nat.add_zero] at h21
      have h21_ := h21
      try simp [-List.reduceReplicate] at h21_
      have h22 := set_get (x' := (api_Guard.mk v17 v18 v19)) h17
      obtain ⟨⟨h23, h24⟩, hF⟩ := chk_elim hF
      have h24_ := ne_of_lt h24
      have F8 := And.intro F7 (And.intro h14 (And.intro h15 (And.intro h16 (And.intro h17 (And.intro h17_ (And.intro h16_ (And.intro h18 (And.intro h19 (And.intro h20 (And.intro h21 (And.intro h21_ (And.intro h22 (And.intro h23 (And.intro h24 h24_))))))))))))))
      try simp [-List.reduceReplicate, sOf_set, ofI_set, allU8_set, F8]
      and_intros
      any_goals first | exact g _ (by kernel_rfl) | refine r _ _ _ ?_ | omega | (simp [-List.reduceReplicate, sOf_set, ofI_set, allU8_set, maxLen, F8] <;> omega)
      refine hK759 _ _ _ ?_
      refine Can.weak [(3, AV.ptr 0 0), (4, AV.slc 6 0 13 ((v10 ++ ([v28] : List api_Statement)).length) false), (5, AV.slc 2 0 3 ((v11.set (v17).toNat (api_Guard.mk v17 v18 v19)).length) true), (6, AV.slc 3 0 1 ((v12.set (v17).toNat true).length) true), (7, Iz v8)] [(0, .cells [Lz v4, Iz v20]), (2, .cells (flatA (List.map api_Guard.av (v11.set (v17).toNat (api_Guard.mk v17 v18 v19))))), (3, .cells (List.map AV.bool (v12.set (v17).toNat true))), (6, .grow (flatA (List.map api_Statement.av (v10 ++ ([v28] : List api_Statement)))))] 7 (by simp [-List.reduceReplicate, sOf_set, ofI_set, allU8_set, F8] <;> omega) (by simp [-List.reduceReplicate, sOf_set, ofI_set, allU8_set, F8]) (by simp) ?_
      refine Can.ren (m := 0) h0 [(0, 0), (1, 6), (2, 2), (3, 3)] [(3, AV.ptr 0 0), (4, AV.slc 1 0 13 ((v10 ++ ([v28] : List api_Statement)).length) false), (5, AV.slc 2 0 3 ((v11.set (v17).toNat (api_Guard.mk v17 v18 v19)).length) true), (6, AV.slc 3 0 1 ((v12.set (v17).toNat true).length) true), (7, Iz v8)] [(0, .cells [Lz v4, Iz v20]), (1, .grow (flatA (List.map api_Statement.av (v10 ++ ([v28] : List api_Statement))))), (2, .cells (flatA (List.map api_Guard.av (v11.set (v17).toNat (api_Guard.mk v17 v18 v19))))), (3, .cells (List.map AV.bool (v12.set (v17).toNat true)))] 4 (by decide) (by decide) (by decide) rfl (by simp [-List.reduceReplicate, sOf_set, ofI_set, allU8_set, F8]) (by simp [-List.reduceReplicate, sOf_set, ofI_set, allU8_set, F8]) ?_
      exact Can.join ((v20, v10 ++ ([v28] : List api_Statement), v11.set (v17).toNat (api_Guard.mk v17 v18 v19), v12.set (v17).toNat true)) hF (by simp [-List.reduceReplicate, sOf_set, ofI_set, allU8_set, F8]) (by simp [-List.reduceReplicate, sOf_set, ofI_set, allU8_set, F8]) (by simp)
   ·rintro ⟨v13, v14, v15, v16⟩ hF
    try dsimp only at hF
    unfold law34_GuardianLast.J2 at hF
    refine AW.region mixed [] [none, none, none] (by kernel_rfl) fun _ _ g r => ?_
    try simp [-List.reduceReplicate, sOf_set, ofI_set, allU8_set, F3]
    and_intros
    any_goals first | exact g _ (by kernel_rfl) | refine r _ _ _ ?_ | omega | (simp [-List.reduceReplicate, sOf_set, ofI_set, allU8_set, maxLen, F3] <;> omega)
    refine hK747 _ _ _ ?_
    refine Can.weak [(3, AV.ptr 0 0), (4, AV.slc 1 0 13 v14.length false), (5, AV.slc 2 0 3 v15.length true), (6, AV.slc 3 0 1 v16.length true), (7, Iz (IntKind.wrap .i64 (v8 - 1)))] [(0, .cells [Lz v4, Iz v13]), (1, .grow (flatA (List.map api_Statement.av v14))), (2, .cells (flatA (List.map api_Guard.av v15))), (3, .cells (List.map AV.bool v16))] 4 (by simp [-List.reduceReplicate, sOf_set, ofI_set, allU8_set, F3]) (by simp [-List.reduceReplicate, sOf_set, ofI_set, allU8_set, F3]) (by simp) ?_
    exact Can.next (k' := n1) ((IntKind.wrap .i64 (v8 - 1), v13, v14, v15, v16)) (by omega) hF (by simp [-List.reduceReplicate, sOf_set, ofI_set, allU8_set, F3]) (by simp [-List.reduceReplicate, sOf_set, ofI_set, allU8_set, F3]) (by simp)
  ·replace hF := ite_f h8 hF
   have h8_ := h8
   try simp [-List.reduceReplicate] at h8_
   have F9 := And.intro F2 (And.intro h8 h8_)
   refine AW.condF (by decide) (by first | (simp [-List.reduceReplicate, sOf_set, ofI_set, allU8_set, F9] <;> omega)) ?_
   refine AW.exit ?_
   try simp [-List.reduceReplicate]
   refine hK688 _ _ _ ?_
   refine AW.wk [(3, AV.ptr 0 0), (4, AV.slc 1 0 13 v10.length false), (5, AV.slc 2 0 3 v11.length true), (6, AV.slc 3 0 1 v12.length true)] [(0, .cells [Lz v4, Iz v9]), (1, .grow (flatA (List.map api_Statement.av v10))), (2, .cells (flatA (List.map api_Guard.av v11))), (3, .cells (List.map AV.bool v12))] 4 (by simp [-List.reduceReplicate, sOf_set, ofI_set, allU8_set, F9]) (by simp [-List.reduceReplicate, sOf_set, ofI_set, allU8_set, F9]) (by simp) ?_
   refine AW.frz 1 (o := .grow (flatA (List.map api_Statement.av v10))) (by simp [-List.reduceReplicate, sOf_set, ofI_set, allU8_set, F9]) rfl [(4, AV.lst false false (List.map api_Statement.av v10))] [] ⟨(.l (by simp) (by simp) (by simp) (by simp)), trivial⟩ trivial ?_
   refine AW.frz 2 (o := .cells (flatA (List.map api_Guard.av v11))) (by simp [-List.reduceReplicate, sOf_set, ofI_set, allU8_set, F9]) rfl [(5, AV.lst false true (List.map api_Guard.av v11))] [] ⟨(.l (by simp) (by simp) (by simp) (by simp)), trivial⟩ trivial ?_
   refine AW.frz 3 (o := .cells (List.map AV.bool v12)) (by simp [-List.reduceReplicate, sOf_set, ofI_set, allU8_set, F9]) rfl [(6, AV.lst false true (List.map AV.bool v12))] [] ⟨(.l (by simp) (by simp) (by simp) (by simp)), trivial⟩ trivial ?_
   refine AW.wk [(3, AV.ptr 0 0), (4, AV.lst false false (List.map api_Statement.av v10)), (5, AV.lst false true (List.map api_Guard.av v11)), (6, AV.lst false true (List.map AV.bool v12))] [(0, .cells [Lz v4, Iz v9])] 4 (by simp [-List.reduceReplicate, sOf_set, ofI_set, allU8_set, F9]) (by simp [-List.reduceReplicate, sOf_set, ofI_set, allU8_set, F9]) (by simp) ?_
   refine AW.seqR mixed [] [none, none, none] (by kernel_rfl) fun _ _ g r => ?_
   try simp [-List.reduceReplicate, sOf_set, ofI_set, allU8_set, F9]
   and_intros
   try any_goals first | omega | (simp [-List.reduceReplicate, sOf_set, ofI_set, allU8_set, maxLen, F9] <;> omega)
   obtain ⟨v30, h25, hF⟩ := bnd1_elim hF
   refine aCall_l (w_guardian_All k _ _ h25) (by simp) [] [] [] rfl (.cons (.same (by simp [-List.reduceReplicate, sOf_set, ofI_set, allU8_set, F9])) .nil) (by simp [-List.reduceReplicate, sOf_set, ofI_set, allU8_set, F9]) (by decide) (by simp) (by simp) (.inl rfl) (by simp) (by simp) ?_
   try simp [-List.reduceReplicate, sOf_set, ofI_set, allU8_set, F9]
   and_intros
   any_goals first | exact g _ (by kernel_rfl) | refine r _ _ _ ?_ | omega | (simp [-List.reduceReplicate, sOf_set, ofI_set, allU8_set, maxLen, F9] <;> omega)
   refine AW.wk [(3, AV.ptr 0 0), (5, AV.lst false true (List.map api_Guard.av v11)), (6, AV.lst false true (List.map AV.bool v12)), (11, AV.slc 4 0 3 v30.length false)] [(0, .cells [Lz v4, Iz v9]), (4, .grow (flatA (List.map api_Guard.av v30)))] 5 (by simp [-List.reduceReplicate, sOf_set, ofI_set, allU8_set, F9]) (by simp [-List.reduceReplicate, sOf_set, ofI_set, allU8_set, F9]) (by simp) ?_
   refine AW.frz 4 (o := .grow (flatA (List.map api_Guard.av v30))) (by simp [-List.reduceReplicate, sOf_set, ofI_set, allU8_set, F9]) rfl [(11, AV.lst false false (List.map api_Guard.av v30))] [] ⟨(.l (by simp) (by simp) (by simp) (by simp)), trivial⟩ trivial ?_
   refine AW.wk [(3, AV.ptr 0 0), (5, AV.lst false true (List.map api_Guard.av v11)), (6, AV.lst false true (List.map AV.bool v12)), (11, AV.lst false false (List.map api_Guard.av v30))] [(0, .cells [Lz v4, Iz v9])] 5 (by simp [-List.reduceReplicate, sOf_set, ofI_set, allU8_set, F9]) (by simp [-List.reduceReplicate, sOf_set, ofI_set, allU8_set, F9]) (by simp) ?_
   refine AW.seqR mixed [] [none] (by kernel_rfl) fun _ _ g r => ?_
   try simp [-List.reduceReplicate, sOf_set, ofI_set, allU8_set, F9]
   and_intros
   any_goals first | exact g _ (by kernel_rfl) | refine r _ _ _ ?_ | omega | (simp [-List.reduceReplicate, sOf_set, ofI_set, allU8_set, maxLen, F9] <;> omega)
   refine AW.wk [(3, AV.ptr 0 0), (5, AV.lst false true (List.map api_Guard.av v11)), (6, AV.lst false true (List.map AV.bool v12)), (11, AV.lst false false (List.map api_Guard.av v30)), (12, Iz 0)] [(0, .cells [Lz v4, Iz v9])] 5 (by simp [-List.reduceReplicate, sOf_set, ofI_set, allU8_set, F9]) (by simp [-List.reduceReplicate, sOf_set, ofI_set, allU8_set, F9]) (by simp) ?_
   refine AW.seq fun K983 hK983 => ?_
   refine AW.seqR mixed [] [none] (by kernel_rfl) fun _ _ g r => ?_
   try simp [-List.reduceReplicate, sOf_set, ofI_set, allU8_set, F9]
   and_intros
   any_goals first | exact g _ (by kernel_rfl) | refine r _ _ _ ?_ | omega | (simp [-List.reduceReplicate, sOf_set, ofI_set, allU8_set, maxLen, F9] <;> omega)
   refine AW.wk [(3, AV.ptr 0 0), (5, AV.lst false true (List.map api_Guard.av v11)), (6, AV.lst false true (List.map AV.bool v12)), (11, AV.lst false false (List.map api_Guard.av v30)), (12, Iz 0), (13, Iz 0)] [(0, .cells [Lz v4, Iz v9])] 5 (by simp [-List.reduceReplicate, sOf_set, ofI_set, allU8_set, F9]) (by simp [-List.reduceReplicate, sOf_set, ofI_set, allU8_set, F9]) (by simp) ?_
   refine AW.block ?_
   refine AW.rnm (m := 0) h0 [(0, 0)] [(3, AV.ptr 0 0), (5, AV.lst false true (List.map api_Guard.av v11)), (6, AV.lst false true (List.map AV.bool v12)), (11, AV.lst false false (List.map api_Guard.av v30)), (12, Iz 0), (13, Iz 0)] [(0, .cells [Lz v4, Iz v9])] 1 (by decide) (by decide) (by decide) rfl (by simp [-List.reduceReplicate, sOf_set, ofI_set, allU8_set, F9]) (by simp [-List.reduceReplicate, sOf_set, ofI_set, allU8_set, F9]) ?_
   refine AW.loopF (α := (Int × Int × Int)) (fun n (v31, v32, v33) => law34_GuardianLast.L3 k v4 v11 v12 v30 n v31 v32 v33 = some v1) (fun (v31, v32, v33) => [(3, AV.ptr 0 0), (5, AV.lst false true (List.map api_Guard.av v11)), (6, AV.lst false true (List.map AV.bool v12)), (11, AV.lst false false (List.map api_Guard.av v30)), (12, Iz v31), (13, Iz v32)]) (fun (v31, v32, v33) => [(0, .cells [Lz v4, Iz v33])]) 1 k ((0, 0, v9)) hF (by simp [-List.reduceReplicate, sOf_set, ofI_set, allU8_set, F9]) (by simp [-List.reduceReplicate, sOf_set, ofI_set, allU8_set, F9]) (by simp) ?_
   rintro (_|n3) ⟨v31, v32, v33⟩ hF K1144 hK1144
   ·try dsimp only at hF
    rw [law34_GuardianLast.L3] at hF; cases hF
   try dsimp only at hF
   rw [law34_GuardianLast.L3] at hF
   refine AW.seq fun K1146 hK1146 => ?_
   refine AW.seqR mixed [] [none, none] (by kernel_rfl) fun _ _ g r => ?_
   try simp [-List.reduceReplicate, sOf_set, ofI_set, allU8_set, F9]
   and_intros
   any_goals first | exact g _ (by kernel_rfl) | refine r _ _ _ ?_ | omega | (simp [-List.reduceReplicate, sOf_set, ofI_set, allU8_set, maxLen, F9] <;> omega)
   refine AW.wk [(3, AV.ptr 0 0), (5, AV.lst false true (List.map api_Guard.av v11)), (6, AV.lst false true (List.map AV.bool v12)), (11, AV.lst false false (List.map api_Guard.av v30)), (12, Iz v31), (13, Iz v32), (65, AV.bool (decide (v32 < 8)))] [(0, .cells [Lz v4, Iz v33])] 1 (by simp [-List.reduceReplicate, sOf_set, ofI_set, allU8_set, F9]) (by simp [-List.reduceReplicate, sOf_set, ofI_set, allU8_set, F9]) (by simp) ?_
   by_cases h26 : v32 < 8
   ·replace hF := ite_t h26 hF
    have h26_ := h26
    try simp [-List.reduceReplicate] at h26_
    have F10 := And.intro F9 (And.intro h26 h26_)
    refine AW.condT (by decide) (by first | (simp [-List.reduceReplicate, sOf_set, ofI_set, allU8_set, F10] <;> omega)) ?_
    refine AW.skip ?_
    refine hK1146 _ _ _ ?_
    refine AW.midF (α := (Int × Int)) (fun (v34, v35) => law34_GuardianLast.J4 k v32 (fun v31_ v32_ v33_ => law34_GuardianLast.L3 k v4 v11 v12 v30 n3 v31_ v32_ v33_) v34 v35 = some v1) (fun (v34, v35) => [(3, AV.ptr 0 0), (5, AV.lst false true (List.map api_Guard.av v11)), (6, AV.lst false true (List.map AV.bool v12)), (11, AV.lst false false (List.map api_Guard.av v30)), (12, Iz v35), (13, Iz v32)]) (fun (v34, v35) => [(0, .cells [Lz v4, Iz v34])]) 1 (fun K1173 hK1173 => ?_) ?_
    ·refine AW.block ?_
     refine AW.seq fun K1175 hK1175 => ?_
     refine AW.seqR mixed [] [none, none, none, none, none] (by kernel_rfl) fun _ _ g r => ?_
     obtain ⟨v36, h27, h28, h29, hF⟩ := idx_elim hF
     have h29_ := get_of h29
     try simp [-List.reduceReplicate] at h29_
     have h28_ := h28
     try simp [-List.reduceReplicate] at h28_
     have F11 := And.intro F10 (And.intro h27 (And.intro h28 (And.intro h29 (And.intro h29_ h28_))))
     try simp [-List.reduceReplicate, sOf_set, ofI_set, allU8_set, F11]
     and_intros
     any_goals first | exact g _ (by kernel_rfl) | refine r _ _ _ ?_ | omega | (simp [-List.reduceReplicate, sOf_set, ofI_set, allU8_set, maxLen, F11] <;> omega)
     refine AW.wk [(3, AV.ptr 0 0), (5, AV.lst false true (List.map api_Guard.av v11)), (6, AV.lst false true (List.map AV.bool v12)), (11, AV.lst false false (List.map api_Guard.av v30)), (12, Iz v31), (13, Iz v32), (72, AV.bool (!v36))] [(0, .cells [Lz v4, Iz v33])] 1 (by simp [-List.reduceReplicate, sOf_set, ofI_set, allU8_set, F11]) (by simp [-List.reduceReplicate, sOf_set, ofI_set, allU8_set, F11]) (by simp) ?_
     by_cases h30 : (!v36) = true
     ·replace hF := ite_t h30 hF
      have h30_ := h30
      try simp [-List.reduceReplicate] at h30_
      have F12 := And.intro F11 (And.intro h30 h30_)
      refine AW.condT (by decide) (by first | (simp [-List.reduceReplicate, sOf_set, ofI_set, allU8_set, F12] <;> omega)) ?_
      refine AW.exit ?_
      try simp [-List.reduceReplicate]
      refine hK1173 _ _ _ ?_
      exact Can.join ((v33, v31)) hF (by simp [-List.reduceReplicate, sOf_set, ofI_set, allU8_set, F12]) (by simp [-List.reduceReplicate, sOf_set, ofI_set, allU8_set, F12]) (by simp)
     ·replace hF := ite_f h30 hF
      have h30_ := h30
      try simp [-List.reduceReplicate] at h30_
      have F13 := And.intro F11 (And.intro h30 h30_)
      refine AW.condF (by decide) (by first | (simp [-List.reduceReplicate, sOf_set, ofI_set, allU8_set, F13] <;> omega)) ?_
      refine AW.skip ?_
      refine hK1175 _ _ _ ?_
      refine AW.seq fun K1182 hK1182 => ?_
      refine AW.seqR mixed [] [none, none, none, none, none, some (77, false), some (77, false), some (77, false), some (77, false), some (77, false), some (77, false), some (77, false), none, none, some (86, false), some (86, false), some (86, false), some (86, false), some (86, false), some (86, false), some (86, false), some (86, false), some (86, false), some (86, false), some (86, false), none, none, some (99, false), some (99, false), some (99, false), some (99, false), some (99, false), some (99, false), some (99, false), some (99, false), some (99, false), some (99, false), some (99, false), some (99, false), none] (by kernel_rfl) fun _ _ g r => ?_
      by_cases h31 : (v30.length : Int) ≤ v31
      ·replace hF := ite_t h31 hF
       have h31_ := h31
       try simp [-List.reduceReplicate] at h31_
       have F14 := And.intro F13 (And.intro h31 h31_)
       try simp [-List.reduceReplicate, sOf_set, ofI_set, allU8_set, F14]
       and_intros
       any_goals first | exact g _ (by kernel_rfl) | refine r _ _ _ ?_ | omega | (simp [-List.reduceReplicate, sOf_set, ofI_set, allU8_set, maxLen, F14] <;> omega)
       refine AW.wk [(3, AV.ptr 0 0), (5, AV.lst false true (List.map api_Guard.av v11)), (6, AV.lst false true (List.map AV.bool v12)), (11, AV.lst false false (List.map api_Guard.av v30)), (12, Iz v31), (13, Iz v32), (112, AV.bool true)] [(0, .cells [Lz v4, Iz v33])] 1 (by simp [-List.reduceReplicate, sOf_set, ofI_set, allU8_set, F14]) (by simp [-List.reduceReplicate, sOf_set, ofI_set, allU8_set, F14]) (by simp) ?_
       refine AW.condT (by decide) (by simp [-List.reduceReplicate, sOf_set, ofI_set, allU8_set, F14]) ?_
       refine AW.seqR mixed [] [none] (by kernel_rfl) fun _ _ g r => ?_
       try simp [-List.reduceReplicate, sOf_set, ofI_set, allU8_set, F14]
       and_intros
       any_goals first | exact g _ (by kernel_rfl) | refine r _ _ _ ?_ | omega | (simp [-List.reduceReplicate, sOf_set, ofI_set, allU8_set, maxLen, F14] <;> omega)
       refine AW.wk [(2, AV.bool false)] [] 1 (by simp [-List.reduceReplicate, sOf_set, ofI_set, allU8_set, F14]) (by simp [-List.reduceReplicate, sOf_set, ofI_set, allU8_set, F14]) (by simp) ?_
       simp only [Option.some.injEq] at hF
       subst hF
       refine AW.ret (hQ _ _ _ ?_ (matchO_0 ?_)).1
       ·simp [Try.f6, F14]
       ·simp [F14]
      ·replace hF := ite_f h31 hF
       have h31_ := h31
       try simp [-List.reduceReplicate] at h31_
       obtain ⟨v37, h32, h33, h34, hF⟩ := idx_elim hF
       have h34_ := get_of h34
       try simp [-List.reduceReplicate] at h34_
       have h33_ := h33
       try simp [-List.reduceReplicate] at h33_
       by_cases h35 : v37.Owner ≠ v32
       ·replace hF := ite_t h35 hF
        have h35_ := eqb_f h35
        have h35__ := neb_t h35
        have F15 := And.intro F13 (And.intro h31 (And.intro h31_ (And.intro h32 (And.intro h33 (And.intro h34 (And.intro h34_ (And.intro h33_ (And.intro h35 (And.intro h35_ h35__)))))))))
        try simp [-List.reduceReplicate, sOf_set, ofI_set, allU8_set, F15]
        and_intros
        any_goals first | exact g _ (by kernel_rfl) | refine r _ _ _ ?_ | omega | (simp [-List.reduceReplicate, sOf_set, ofI_set, allU8_set, maxLen, F15] <;> omega)
        refine AW.wk [(3, AV.ptr 0 0), (5, AV.lst false true (List.map api_Guard.av v11)), (6, AV.lst false true (List.map AV.bool v12)), (11, AV.lst false false (List.map api_Guard.av v30)), (12, Iz v31), (13, Iz v32), (112, AV.bool true)] [(0, .cells [Lz v4, Iz v33])] 1 (by simp [-List.reduceReplicate, sOf_set, ofI_set, allU8_set, F15]) (by simp [-List.reduceReplicate, sOf_set, ofI_set, allU8_set, F15]) (by simp) ?_
        refine AW.condT (by decide) (by simp [-List.reduceReplicate, sOf_set, ofI_set, allU8_set, F15]) ?_
        refine AW.seqR mixed [] [none] (by kernel_rfl) fun _ _ g r => ?_
        try simp [-List.reduceReplicate, sOf_set, ofI_set, allU8_set, F15]
        and_intros
        any_goals first | exact g _ (by kernel_rfl) | refine r _ _ _ ?_ | omega | (simp [-List.reduceReplicate, sOf_set, ofI_set, allU8_set, maxLen, F15] <;> omega)
        refine AW.wk [(2, AV.bool false)] [] 1 (by simp [-List.reduceReplicate, sOf_set, ofI_set, allU8_set, F15]) (by simp [-List.reduceReplicate, sOf_set, ofI_set, allU8_set, F15]) (by simp) ?_
        simp only [Option.some.injEq] at hF
        subst hF
        refine AW.ret (hQ _ _ _ ?_ (matchO_0 ?_)).1
        ·simp [Try.f6, F15]
        ·simp [F15]
       ·replace hF := ite_f h35 hF
        have h35q : v37.Owner = v32 := Classical.not_not.1 h35
        have h35_ := eqb_t h35q
        have h35__ := neb_f h35q
        obtain ⟨v38, h36, h37, h38, hF⟩ := idx_elim hF
        have h38_ := get_of h38
        try simp [-List.reduceReplicate] at h38_
        have h37_ := h37
        try simp [-List.reduceReplicate] at h37_
        by_cases h39 : v37.Need ≠ v38.Need
        ·replace hF := ite_t h39 hF
         have h39_ := eqb_f h39
         have h39__ := neb_t h39
         have F16 := And.intro F13 (And.intro h31 (And.intro h31_ (And.intro h32 (And.intro h33 (And.intro h34 (And.intro h34_ (And.intro h33_ (And.intro h35_ (And.intro h35__ (And.intro h36 (And.intro h37 (And.intro h38 (And.intro h38_ (And.intro h37_ (And.intro h39 (And.intro h39_ h39__))))))))))))))))
         try simp [-List.reduceReplicate, sOf_set, ofI_set, allU8_set, F16]
         and_intros
         any_goals first | exact g _ (by kernel_rfl) | refine r _ _ _ ?_ | omega | (simp [-List.reduceReplicate, sOf_set, ofI_set, allU8_set, maxLen, F16] <;> omega)
         refine AW.wk [(3, AV.ptr 0 0), (5, AV.lst false true (List.map api_Guard.av v11)), (6, AV.lst false true (List.map AV.bool v12)), (11, AV.lst false false (List.map api_Guard.av v30)), (12, Iz v31), (13, Iz v32), (112, AV.bool true)] [(0, .cells [Lz v4, Iz v33])] 1 (by simp [-List.reduceReplicate, sOf_set, ofI_set, allU8_set, F16]) (by simp [-List.reduceReplicate, sOf_set, ofI_set, allU8_set, F16]) (by simp) ?_
         refine AW.condT (by decide) (by simp [-List.reduceReplicate, sOf_set, ofI_set, allU8_set, F16]) ?_
         refine AW.seqR mixed [] [none] (by kernel_rfl) fun _ _ g r => ?_
         try simp [-List.reduceReplicate, sOf_set, ofI_set, allU8_set, F16]
         and_intros
         any_goals first | exact g _ (by kernel_rfl) | refine r _ _ _ ?_ | omega | (simp [-List.reduceReplicate, sOf_set, ofI_set, allU8_set, maxLen, F16] <;> omega)
         refine AW.wk [(2, AV.bool false)] [] 1 (by simp [-List.reduceReplicate, sOf_set, ofI_set, allU8_set, F16]) (by simp [-List.reduceReplicate, sOf_set, ofI_set, allU8_set, F16]) (by simp) ?_
         simp only [Option.some.injEq] at hF
         subst hF
         refine AW.ret (hQ _ _ _ ?_ (matchO_0 ?_)).1
         ·simp [Try.f6, F16]
         ·simp [F16]
        ·replace hF := ite_f h39 hF
         have h39q : v37.Need = v38.Need := Classical.not_not.1 h39
         have h39_ := eqb_t h39q
         have h39__ := neb_f h39q
         have F17 := And.intro F13 (And.intro h31 (And.intro h31_ (And.intro h32 (And.intro h33 (And.intro h34 (And.intro h34_ (And.intro h33_ (And.intro h35_ (And.intro h35__ (And.intro h36 (And.intro h37 (And.intro h38 (And.intro h38_ (And.intro h37_ (And.intro h39_ h39__)))))))))))))))
         try simp [-List.reduceReplicate, sOf_set, ofI_set, allU8_set, F17]
         and_intros
         try any_goals first | omega | (simp [-List.reduceReplicate, sOf_set, ofI_set, allU8_set, maxLen, F17] <;> omega)
         obtain ⟨v39, h40, hF⟩ := bnd1_elim hF
         refine aCall_l (w_ref23_SameInts k _ _ _ h40) (by simp) [] [] [] rfl (.cons (.same (by simp [-List.reduceReplicate, sOf_set, ofI_set, allU8_set, F17])) (.cons (.same (by simp [-List.reduceReplicate, sOf_set, ofI_set, allU8_set, F17])) .nil)) (by simp [-List.reduceReplicate, sOf_set, ofI_set, allU8_set, F17]) (by decide) (by simp) (by simp) (.inl rfl) (by simp) (by simp) ?_
         try simp [-List.reduceReplicate, sOf_set, ofI_set, allU8_set, F17]
         and_intros
         any_goals first | exact g _ (by kernel_rfl) | refine r _ _ _ ?_ | omega | (simp [-List.reduceReplicate, sOf_set, ofI_set, allU8_set, maxLen, F17] <;> omega)
         refine AW.wk [(3, AV.ptr 0 0), (5, AV.lst false true (List.map api_Guard.av v11)), (6, AV.lst false true (List.map AV.bool v12)), (11, AV.lst false false (List.map api_Guard.av v30)), (12, Iz v31), (13, Iz v32), (112, AV.bool (!v39))] [(0, .cells [Lz v4, Iz v33])] 1 (by simp [-List.reduceReplicate, sOf_set, ofI_set, allU8_set, F17]) (by simp [-List.reduceReplicate, sOf_set, ofI_set, allU8_set, F17]) (by simp) ?_
         by_cases h41 : (!v39) = true
         ·replace hF := ite_t h41 hF
          have h41_ := h41
          try simp [-List.reduceReplicate] at h41_
          have F18 := And.intro F17 (And.intro h41 h41_)
          refine AW.condT (by decide) (by first | (simp [-List.reduceReplicate, sOf_set, ofI_set, allU8_set, F18] <;> omega)) ?_
          refine AW.seqR mixed [] [none] (by kernel_rfl) fun _ _ g r => ?_
          try simp [-List.reduceReplicate, sOf_set, ofI_set, allU8_set, F18]
          and_intros
          any_goals first | exact g _ (by kernel_rfl) | refine r _ _ _ ?_ | omega | (simp [-List.reduceReplicate, sOf_set, ofI_set, allU8_set, maxLen, F18] <;> omega)
          refine AW.wk [(2, AV.bool false)] [] 1 (by simp [-List.reduceReplicate, sOf_set, ofI_set, allU8_set, F18]) (by simp [-List.reduceReplicate, sOf_set, ofI_set, allU8_set, F18]) (by simp) ?_
          simp only [Option.some.injEq] at hF
          subst hF
          refine AW.ret (hQ _ _ _ ?_ (matchO_0 ?_)).1
          ·simp [Try.f6, F18]
          ·simp [F18]
         ·replace hF := ite_f h41 hF
          have h41_ := h41
          try simp [-List.reduceReplicate] at h41_
          have F19 := And.intro F17 (And.intro h41 h41_)
          refine AW.condF (by decide) (by first | (simp [-List.reduceReplicate, sOf_set, ofI_set, allU8_set, F19] <;> omega)) ?_
          refine AW.skip ?_
          refine hK1182 _ _ _ ?_
          refine AW.seqR mixed [] [none, none, none] (by kernel_rfl) fun _ _ g r => ?_
          try simp [-List.reduceReplicate, sOf_set, ofI_set, allU8_set, F19]
          and_intros
          try any_goals first | omega | (simp [-List.reduceReplicate, sOf_set, ofI_set, allU8_set, maxLen, F19] <;> omega)
          obtain ⟨v40, v41, h42, hF⟩ := bnd2_elim hF
          refine aCall_l (w_made_Dice_Some k _ _ _ _ _ h42) (by simp) [0] [] [0] rfl (.cons (.same (by simp [-List.reduceReplicate, sOf_set, ofI_set, allU8_set, F19])) (.cons (.same (by simp [-List.reduceReplicate, sOf_set, ofI_set, allU8_set, F19])) .nil)) (by simp [-List.reduceReplicate, sOf_set, ofI_set, allU8_set, F19]) (by decide) (by simp) (by simp) (.inl rfl) (by simp) (by simp) ?_
          try simp [-List.reduceReplicate, sOf_set, ofI_set, allU8_set, F19]
          and_intros
          any_goals first | exact g _ (by kernel_rfl) | refine r _ _ _ ?_ | omega | (simp [-List.reduceReplicate, sOf_set, ofI_set, allU8_set, maxLen, F19] <;> omega)
          refine AW.wk [(3, AV.ptr 0 0), (5, AV.lst false true (List.map api_Guard.av v11)), (6, AV.lst false true (List.map AV.bool v12)), (11, AV.lst false false (List.map api_Guard.av v30)), (12, Iz v31), (13, Iz v32), (14, AV.slc 1 0 1 v40.length false)] [(0, .cells [Lz v4, Iz v41]), (1, .grow (List.map (AV.int .i64) v40))] 2 (by simp [-List.reduceReplicate, sOf_set, ofI_set, allU8_set, F19]) (by simp [-List.reduceReplicate, sOf_set, ofI_set, allU8_set, F19]) (by simp) ?_
          refine AW.frz 1 (o := .grow (List.map (AV.int .i64) v40)) (by simp [-List.reduceReplicate, sOf_set, ofI_set, allU8_set, F19]) rfl [(14, Lz v40)] [] ⟨(.l (by simp) (by simp) (by simp) (by simp)), trivial⟩ trivial ?_
          refine AW.wk [(3, AV.ptr 0 0), (5, AV.lst false true (List.map api_Guard.av v11)), (6, AV.lst false true (List.map AV.bool v12)), (11, AV.lst false false (List.map api_Guard.av v30)), (12, Iz v31), (13, Iz v32), (14, Lz v40)] [(0, .cells [Lz v4, Iz v41])] 2 (by simp [-List.reduceReplicate, sOf_set, ofI_set, allU8_set, F19]) (by simp [-List.reduceReplicate, sOf_set, ofI_set, allU8_set, F19]) (by simp) ?_
          refine AW.seqR mixed [] [none, none, none, none, none] (by kernel_rfl) fun _ _ g r => ?_
          try simp [-List.reduceReplicate, sOf_set, ofI_set, allU8_set, F19]
          and_intros
          try any_goals first | omega | (simp [-List.reduceReplicate, sOf_set, ofI_set, allU8_set, maxLen, F19] <;> omega)
          obtain ⟨v42, v43, h43, hF⟩ := bnd2_elim hF
          refine aCall_l (w_made_Dice_Some k _ _ _ _ _ h43) (by simp) [0] [] [0] rfl (.cons (.same (by simp [-List.reduceReplicate, sOf_set, ofI_set, allU8_set, F19])) (.cons (.same (by simp [-List.reduceReplicate, sOf_set, ofI_set, allU8_set, F19])) .nil)) (by simp [-List.reduceReplicate, sOf_set, ofI_set, allU8_set, F19]) (by decide) (by simp) (by simp) (.inl rfl) (by simp) (by simp) ?_
          try simp [-List.reduceReplicate, sOf_set, ofI_set, allU8_set, F19]
          and_intros
          try any_goals first | omega | (simp [-List.reduceReplicate, sOf_set, ofI_set, allU8_set, maxLen, F19] <;> omega)
          obtain ⟨v44, h44, hF⟩ := bnd1_elim hF
          refine aCall_l (w_ref24_Join k _ _ _ h44) (by simp) [] [2] [] rfl (.cons (.same (by simp [-List.reduceReplicate, sOf_set, ofI_set, allU8_set, F19])) (.cons (Coe.l (o := .grow (List.map (AV.int .i64) v42)) (by simp [-List.reduceReplicate, sOf_set, ofI_set, allU8_set, F19]) rfl (by simp [-List.reduceReplicate, sOf_set, ofI_set, allU8_set, F19]) (by simp [noIdsL]) (by simp [-List.reduceReplicate, sOf_set, ofI_set, allU8_set, F19]) (by simp [-List.reduceReplicate, sOf_set, ofI_set, allU8_set, F19])) .nil)) (by simp [-List.reduceReplicate, sOf_set, ofI_set, allU8_set, F19]) (by decide) (by simp) (by simp) (.inr ⟨by simp, by simp⟩) (by simp) (by simp) ?_
          try simp [-List.reduceReplicate, sOf_set, ofI_set, allU8_set, F19]
          and_intros
          any_goals first | exact g _ (by kernel_rfl) | refine r _ _ _ ?_ | omega | (simp [-List.reduceReplicate, sOf_set, ofI_set, allU8_set, maxLen, F19] <;> omega)
          refine AW.wk [(3, AV.ptr 0 0), (5, AV.lst false true (List.map api_Guard.av v11)), (6, AV.lst false true (List.map AV.bool v12)), (11, AV.lst false false (List.map api_Guard.av v30)), (12, Iz v31), (13, Iz v32), (14, Lz v40), (15, AV.slc 3 0 1 v44.length false)] [(0, .cells [Lz v4, Iz v43]), (3, .grow (List.map (AV.int .i64) v44))] 4 (by simp [-List.reduceReplicate, sOf_set, ofI_set, allU8_set, F19]) (by simp [-List.reduceReplicate, sOf_set, ofI_set, allU8_set, F19]) (by simp) ?_
          refine AW.frz 3 (o := .grow (List.map (AV.int .i64) v44)) (by simp [-List.reduceReplicate, sOf_set, ofI_set, allU8_set, F19]) rfl [(15, Lz v44)] [] ⟨(.l (by simp) (by simp) (by simp) (by simp)), trivial⟩ trivial ?_
          refine AW.wk [(3, AV.ptr 0 0), (5, AV.lst false true (List.map api_Guard.av v11)), (6, AV.lst false true (List.map AV.bool v12)), (11, AV.lst false false (List.map api_Guard.av v30)), (12, Iz v31), (13, Iz v32), (14, Lz v40), (15, Lz v44)] [(0, .cells [Lz v4, Iz v43])] 4 (by simp [-List.reduceReplicate, sOf_set, ofI_set, allU8_set, F19]) (by simp [-List.reduceReplicate, sOf_set, ofI_set, allU8_set, F19]) (by simp) ?_
          refine AW.seq fun K1193 hK1193 => ?_
          refine AW.midF (α := Bool) (fun v45 => law34_GuardianLast.J5 k v31 v32 v43 (fun v31_ v32_ v33_ => law34_GuardianLast.L3 k v4 v11 v12 v30 n3 v31_ v32_ v33_) v45 = some v1) (fun v45 => [(3, AV.ptr 0 0), (5, AV.lst false true (List.map api_Guard.av v11)), (6, AV.lst false true (List.map AV.bool v12)), (11, AV.lst false false (List.map api_Guard.av v30)), (12, Iz v31), (13, Iz v32), (155, AV.bool v45)]) (fun v45 => [(0, .cells [Lz v4, Iz v43])]) 1 (fun K1197 hK1197 => ?_) ?_
          ·refine AW.region mixed [] [none, none, none, none, none, none, none, some (125, true), some (125, true), some (125, true), some (125, true), some (125, true), some (125, true), some (125, true), none, none, some (134, false), some (134, false), some (134, false), some (134, false), some (134, false), some (134, false), some (134, false), some (134, false), some (134, false), some (134, false), some (134, false), none, none, some (147, false), some (147, false), some (147, false), some (147, false), some (147, false), some (147, false), some (147, false), none] (by kernel_rfl) fun _ _ g r => ?_
           try simp [-List.reduceReplicate, sOf_set, ofI_set, allU8_set, F19]
           and_intros
           try any_goals first | omega | (simp [-List.reduceReplicate, sOf_set, ofI_set, allU8_set, maxLen, F19] <;> omega)
           obtain ⟨v46, h46, hF⟩ := bnd1_elim hF
           refine aCall_l (w_guardian_Enough k _ _ _ _ _ h46) (by simp) [] [] [] rfl (.cons (.same (by simp [-List.reduceReplicate, sOf_set, ofI_set, allU8_set, F19])) (.cons (.same (by simp [-List.reduceReplicate, sOf_set, ofI_set, allU8_set, F19])) .nil)) (by simp [-List.reduceReplicate, sOf_set, ofI_set, allU8_set, F19]) (by decide) (by simp) (by simp) (.inl rfl) (by simp) (by simp) ?_
           by_cases h47 : v46 = true
           ·replace hF := ite_t h47 hF
            have h47_ := h47
            try simp [-List.reduceReplicate] at h47_
            have F20 := And.intro F19 (And.intro h47 h47_)
            try simp [-List.reduceReplicate, sOf_set, ofI_set, allU8_set, F20]
            and_intros
            try any_goals first | omega | (simp [-List.reduceReplicate, sOf_set, ofI_set, allU8_set, maxLen, F20] <;> omega)
            obtain ⟨v47, h48, hF⟩ := bnd1_elim hF
            refine aCall_l (w_guardian_Enough k _ _ _ _ _ h48) (by simp) [] [] [] rfl (.cons (.same (by simp [-List.reduceReplicate, sOf_set, ofI_set, allU8_set, F20])) (.cons (.same (by simp [-List.reduceReplicate, sOf_set, ofI_set, allU8_set, F20])) .nil)) (by simp [-List.reduceReplicate, sOf_set, ofI_set, allU8_set, F20]) (by decide) (by simp) (by simp) (.inl rfl) (by simp) (by simp) ?_
            by_cases h49 : (!v47) = true
            ·replace hF := ite_t h49 hF
             have h49_ := h49
             try simp [-List.reduceReplicate] at h49_
             have F21 := And.intro F20 (And.intro h49 h49_)
             try simp [-List.reduceReplicate, sOf_set, ofI_set, allU8_set, F21]
             and_intros
             any_goals first | exact g _ (by kernel_rfl) | refine r _ _ _ ?_ | omega | (simp [-List.reduceReplicate, sOf_set, ofI_set, allU8_set, maxLen, F21] <;> omega)
             refine hK1197 _ _ _ ?_
             refine Can.weak [(3, AV.ptr 0 0), (5, AV.lst false true (List.map api_Guard.av v11)), (6, AV.lst false true (List.map AV.bool v12)), (11, AV.lst false false (List.map api_Guard.av v30)), (12, Iz v31), (13, Iz v32), (155, AV.bool true)] [(0, .cells [Lz v4, Iz v43])] 4 (by simp [-List.reduceReplicate, sOf_set, ofI_set, allU8_set, F21]) (by simp [-List.reduceReplicate, sOf_set, ofI_set, allU8_set, F21]) (by simp) ?_
             refine Can.ren (m := 0) h0 [(0, 0)] [(3, AV.ptr 0 0), (5, AV.lst false true (List.map api_Guard.av v11)), (6, AV.lst false true (List.map AV.bool v12)), (11, AV.lst false false (List.map api_Guard.av v30)), (12, Iz v31), (13, Iz v32), (155, AV.bool true)] [(0, .cells [Lz v4, Iz v43])] 1 (by decide) (by decide) (by decide) rfl (by simp [-List.reduceReplicate, sOf_set, ofI_set, allU8_set, F21]) (by simp [-List.reduceReplicate, sOf_set, ofI_set, allU8_set, F21]) ?_
             exact Can.join (true) hF (by simp [-List.reduceReplicate, sOf_set, ofI_set, allU8_set, F21]) (by simp [-List.reduceReplicate, sOf_set, ofI_set, allU8_set, F21]) (by simp)
            ·replace hF := ite_f h49 hF
             have h49_ := h49
             try simp [-List.reduceReplicate] at h49_
             have F22 := And.intro F20 (And.intro h49 h49_)
             try simp [-List.reduceReplicate, sOf_set, ofI_set, allU8_set, F22]
             and_intros
             try any_goals first | omega | (simp [-List.reduceReplicate, sOf_set, ofI_set, allU8_set, maxLen, F22] <;> omega)
             obtain ⟨v48, h50, hF⟩ := bnd1_elim hF
             refine aCall_l (w_guardian_Enough k _ _ _ _ _ h50) (by simp) [] [] [] rfl (.cons (.same (by simp [-List.reduceReplicate, sOf_set, ofI_set, allU8_set, F22])) (.cons (.same (by simp [-List.reduceReplicate, sOf_set, ofI_set, allU8_set, F22])) .nil)) (by simp [-List.reduceReplicate, sOf_set, ofI_set, allU8_set, F22]) (by decide) (by simp) (by simp) (.inl rfl) (by simp) (by simp) ?_
             by_cases h51 : (!v48) = true
             ·replace hF := ite_t h51 hF
              have h51_ := h51
              try simp [-List.reduceReplicate] at h51_
              have F23 := And.intro F22 (And.intro h51 h51_)
              try simp [-List.reduceReplicate, sOf_set, ofI_set, allU8_set, F23]
              and_intros
              any_goals first | exact g _ (by kernel_rfl) | refine r _ _ _ ?_ | omega | (simp [-List.reduceReplicate, sOf_set, ofI_set, allU8_set, maxLen, F23] <;> omega)
              refine hK1197 _ _ _ ?_
              refine Can.weak [(3, AV.ptr 0 0), (5, AV.lst false true (List.map api_Guard.av v11)), (6, AV.lst false true (List.map AV.bool v12)), (11, AV.lst false false (List.map api_Guard.av v30)), (12, Iz v31), (13, Iz v32), (155, AV.bool true)] [(0, .cells [Lz v4, Iz v43])] 4 (by simp [-List.reduceReplicate, sOf_set, ofI_set, allU8_set, F23]) (by simp [-List.reduceReplicate, sOf_set, ofI_set, allU8_set, F23]) (by simp) ?_
              refine Can.ren (m := 0) h0 [(0, 0)] [(3, AV.ptr 0 0), (5, AV.lst false true (List.map api_Guard.av v11)), (6, AV.lst false true (List.map AV.bool v12)), (11, AV.lst false false (List.map api_Guard.av v30)), (12, Iz v31), (13, Iz v32), (155, AV.bool true)] [(0, .cells [Lz v4, Iz v43])] 1 (by decide) (by decide) (by decide) rfl (by simp [-List.reduceReplicate, sOf_set, ofI_set, allU8_set, F23]) (by simp [-List.reduceReplicate, sOf_set, ofI_set, allU8_set, F23]) ?_
              exact Can.join (true) hF (by simp [-List.reduceReplicate, sOf_set, ofI_set, allU8_set, F23]) (by simp [-List.reduceReplicate, sOf_set, ofI_set, allU8_set, F23]) (by simp)
             ·replace hF := ite_f h51 hF
              have h51_ := h51
              try simp [-List.reduceReplicate] at h51_
              have F24 := And.intro F22 (And.intro h51 h51_)
              try simp [-List.reduceReplicate, sOf_set, ofI_set, allU8_set, F24]
              and_intros
              try any_goals first | omega | (simp [-List.reduceReplicate, sOf_set, ofI_set, allU8_set, maxLen, F24] <;> omega)
              obtain ⟨v49, h52, hF⟩ := bnd1_elim hF
              refine aCall_l (w_guardian_Enough k _ _ _ _ _ h52) (by simp) [] [] [] rfl (.cons (.same (by simp [-List.reduceReplicate, sOf_set, ofI_set, allU8_set, F24])) (.cons (Coe.fl (by simp [-List.reduceReplicate, sOf_set, ofI_set, allU8_set, F24])) .nil)) (by simp [-List.reduceReplicate, sOf_set, ofI_set, allU8_set, F24]) (by decide) (by simp) (by simp) (.inl rfl) (by simp) (by simp) ?_
              try simp [-List.reduceReplicate, sOf_set, ofI_set, allU8_set, F24]
              and_intros
              any_goals first | exact g _ (by kernel_rfl) | refine r _ _ _ ?_ | omega | (simp [-List.reduceReplicate, sOf_set, ofI_set, allU8_set, maxLen, F24] <;> omega)
              refine hK1197 _ _ _ ?_
              refine Can.weak [(3, AV.ptr 0 0), (5, AV.lst false true (List.map api_Guard.av v11)), (6, AV.lst false true (List.map AV.bool v12)), (11, AV.lst false false (List.map api_Guard.av v30)), (12, Iz v31), (13, Iz v32), (155, AV.bool v49)] [(0, .cells [Lz v4, Iz v43])] 4 (by simp [-List.reduceReplicate, sOf_set, ofI_set, allU8_set, F24]) (by simp [-List.reduceReplicate, sOf_set, ofI_set, allU8_set, F24]) (by simp) ?_
              refine Can.ren (m := 0) h0 [(0, 0)] [(3, AV.ptr 0 0), (5, AV.lst false true (List.map api_Guard.av v11)), (6, AV.lst false true (List.map AV.bool v12)), (11, AV.lst false false (List.map api_Guard.av v30)), (12, Iz v31), (13, Iz v32), (155, AV.bool v49)] [(0, .cells [Lz v4, Iz v43])] 1 (by decide) (by decide) (by decide) rfl (by simp [-List.reduceReplicate, sOf_set, ofI_set, allU8_set, F24]) (by simp [-List.reduceReplicate, sOf_set, ofI_set, allU8_set, F24]) ?_
              exact Can.join (v49) hF (by simp [-List.reduceReplicate, sOf_set, ofI_set, allU8_set, F24]) (by simp [-List.reduceReplicate, sOf_set, ofI_set, allU8_set, F24]) (by simp)
           ·replace hF := ite_f h47 hF
            have h47_ := h47
            try simp [-List.reduceReplicate] at h47_
            have F25 := And.intro F19 (And.intro h47 h47_)
            try simp [-List.reduceReplicate, sOf_set, ofI_set, allU8_set, F25]
            and_intros
            try any_goals first | omega | (simp [-List.reduceReplicate, sOf_set, ofI_set, allU8_set, maxLen, F25] <;> omega)
            obtain ⟨v50, h53, hF⟩ := bnd1_elim hF
            refine aCall_l (w_guardian_Enough k _ _ _ _ _ h53) (by simp) [] [] [] rfl (.cons (.same (by simp [-List.reduceReplicate, sOf_set, ofI_set, allU8_set, F25])) (.cons (.same (by simp [-List.reduceReplicate, sOf_set, ofI_set, allU8_set, F25])) .nil)) (by simp [-List.reduceReplicate, sOf_set, ofI_set, allU8_set, F25]) (by decide) (by simp) (by simp) (.inl rfl) (by simp) (by simp) ?_
            by_cases h54 : (!v50) = true
            ·replace hF := ite_t h54 hF
             have h54_ := h54
             try simp [-List.reduceReplicate] at h54_
             have F26 := And.intro F25 (And.intro h54 h54_)
             try simp [-List.reduceReplicate, sOf_set, ofI_set, allU8_set, F26]
             and_intros
             any_goals first | exact g _ (by kernel_rfl) | refine r _ _ _ ?_ | omega | (simp [-List.reduceReplicate, sOf_set, ofI_set, allU8_set, maxLen, F26] <;> omega)
             refine hK1197 _ _ _ ?_
             refine Can.weak [(3, AV.ptr 0 0), (5, AV.lst false true (List.map api_Guard.av v11)), (6, AV.lst false true (List.map AV.bool v12)), (11, AV.lst false false (List.map api_Guard.av v30)), (12, Iz v31), (13, Iz v32), (155, AV.bool true)] [(0, .cells [Lz v4, Iz v43])] 4 (by simp [-List.reduceReplicate, sOf_set, ofI_set, allU8_set, F26]) (by simp [-List.reduceReplicate, sOf_set, ofI_set, allU8_set, F26]) (by simp) ?_
             refine Can.ren (m := 0) h0 [(0, 0)] [(3, AV.ptr 0 0), (5, AV.lst false true (List.map api_Guard.av v11)), (6, AV.lst false true (List.map AV.bool v12)), (11, AV.lst false false (List.map api_Guard.av v30)), (12, Iz v31), (13, Iz v32), (155, AV.bool true)] [(0, .cells [Lz v4, Iz v43])] 1 (by decide) (by decide) (by decide) rfl (by simp [-List.reduceReplicate, sOf_set, ofI_set, allU8_set, F26]) (by simp [-List.reduceReplicate, sOf_set, ofI_set, allU8_set, F26]) ?_
             exact Can.join (true) hF (by simp [-List.reduceReplicate, sOf_set, ofI_set, allU8_set, F26]) (by simp [-List.reduceReplicate, sOf_set, ofI_set, allU8_set, F26]) (by simp)
            ·replace hF := ite_f h54 hF
             have h54_ := h54
             try simp [-List.reduceReplicate] at h54_
             have F27 := And.intro F25 (And.intro h54 h54_)
             try simp [-List.reduceReplicate, sOf_set, ofI_set, allU8_set, F27]
             and_intros
             try any_goals first | omega | (simp [-List.reduceReplicate, sOf_set, ofI_set, allU8_set, maxLen, F27] <;> omega)
             obtain ⟨v51, h55, hF⟩ := bnd1_elim hF
             refine aCall_l (w_guardian_Enough k _ _ _ _ _ h55) (by simp) [] [] [] rfl (.cons (.same (by simp [-List.reduceReplicate, sOf_set, ofI_set, allU8_set, F27])) (.cons (Coe.fl (by simp [-List.reduceReplicate, sOf_set, ofI_set, allU8_set, F27])) .nil)) (by simp [-List.reduceReplicate, sOf_set, ofI_set, allU8_set, F27]) (by decide) (by simp) (by simp) (.inl rfl) (by simp) (by simp) ?_
             try simp [-List.reduceReplicate, sOf_set, ofI_set, allU8_set, F27]
             and_intros
             any_goals first | exact g _ (by kernel_rfl) | refine r _ _ _ ?_ | omega | (simp [-List.reduceReplicate, sOf_set, ofI_set, allU8_set, maxLen, F27] <;> omega)
             refine hK1197 _ _ _ ?_
             refine Can.weak [(3, AV.ptr 0 0), (5, AV.lst false true (List.map api_Guard.av v11)), (6, AV.lst false true (List.map AV.bool v12)), (11, AV.lst false false (List.map api_Guard.av v30)), (12, Iz v31), (13, Iz v32), (155, AV.bool v51)] [(0, .cells [Lz v4, Iz v43])] 4 (by simp [-List.reduceReplicate, sOf_set, ofI_set, allU8_set, F27]) (by simp [-List.reduceReplicate, sOf_set, ofI_set, allU8_set, F27]) (by simp) ?_
             refine Can.ren (m := 0) h0 [(0, 0)] [(3, AV.ptr 0 0), (5, AV.lst false true (List.map api_Guard.av v11)), (6, AV.lst false true (List.map AV.bool v12)), (11, AV.lst false false (List.map api_Guard.av v30)), (12, Iz v31), (13, Iz v32), (155, AV.bool v51)] [(0, .cells [Lz v4, Iz v43])] 1 (by decide) (by decide) (by decide) rfl (by simp [-List.reduceReplicate, sOf_set, ofI_set, allU8_set, F27]) (by simp [-List.reduceReplicate, sOf_set, ofI_set, allU8_set, F27]) ?_
             exact Can.join (v51) hF (by simp [-List.reduceReplicate, sOf_set, ofI_set, allU8_set, F27]) (by simp [-List.reduceReplicate, sOf_set, ofI_set, allU8_set, F27]) (by simp)
          ·rintro v45 hF
           try dsimp only at hF
           unfold law34_GuardianLast.J5 at hF
           by_cases h45 : v45 = true
           ·replace hF := ite_t h45 hF
            have h45_ := h45
            try simp [-List.reduceReplicate] at h45_
            have F28 := And.intro F19 (And.intro h45 h45_)
            refine AW.condT (by decide) (by first | (simp [-List.reduceReplicate, sOf_set, ofI_set, allU8_set, F28] <;> omega)) ?_
            refine AW.seqR mixed [] [none] (by kernel_rfl) fun _ _ g r => ?_
            try simp [-List.reduceReplicate, sOf_set, ofI_set, allU8_set, F28]
            and_intros
            any_goals first | exact g _ (by kernel_rfl) | refine r _ _ _ ?_ | omega | (simp [-List.reduceReplicate, sOf_set, ofI_set, allU8_set, maxLen, F28] <;> omega)
            refine AW.wk [(2, AV.bool false)] [] 1 (by simp [-List.reduceReplicate, sOf_set, ofI_set, allU8_set, F28]) (by simp [-List.reduceReplicate, sOf_set, ofI_set, allU8_set, F28]) (by simp) ?_
            simp only [Option.some.injEq] at hF
            subst hF
            refine AW.ret (hQ _ _ _ ?_ (matchO_0 ?_)).1
            ·simp [Try.f6, F28]
            ·simp [F28]
           ·replace hF := ite_f h45 hF
            have h45_ := h45
            try simp [-List.reduceReplicate] at h45_
            have F29 := And.intro F19 (And.intro h45 h45_)
            refine AW.condF (by decide) (by first | (simp [-List.reduceReplicate, sOf_set, ofI_set, allU8_set, F29] <;> omega)) ?_
            refine AW.skip ?_
            refine hK1193 _ _ _ ?_
            refine AW.region mixed [] [none, none, none] (by kernel_rfl) fun _ _ g r => ?_
            try simp [-List.reduceReplicate, sOf_set, ofI_set, allU8_set, F29]
            and_intros
            any_goals first | exact g _ (by kernel_rfl) | refine r _ _ _ ?_ | omega | (simp [-List.reduceReplicate, sOf_set, ofI_set, allU8_set, maxLen, F29] <;> omega)
            refine hK1173 _ _ _ ?_
            refine Can.weak [(3, AV.ptr 0 0), (5, AV.lst false true (List.map api_Guard.av v11)), (6, AV.lst false true (List.map AV.bool v12)), (11, AV.lst false false (List.map api_Guard.av v30)), (12, Iz (IntKind.wrap .i64 (v31 + 1))), (13, Iz v32)] [(0, .cells [Lz v4, Iz v43])] 1 (by simp [-List.reduceReplicate, sOf_set, ofI_set, allU8_set, F29]) (by simp [-List.reduceReplicate, sOf_set, ofI_set, allU8_set, F29]) (by simp) ?_
            exact Can.join ((v43, IntKind.wrap .i64 (v31 + 1))) hF (by simp [-List.reduceReplicate, sOf_set, ofI_set, allU8_set, F29]) (by simp [-List.reduceReplicate, sOf_set, ofI_set, allU8_set, F29]) (by simp)
    ·rintro ⟨v34, v35⟩ hF
     try dsimp only at hF
     unfold law34_GuardianLast.J4 at hF
     refine AW.region mixed [] [none, none, none] (by kernel_rfl) fun _ _ g r => ?_
     try simp [-List.reduceReplicate, sOf_set, ofI_set, allU8_set, F10]
     and_intros
     any_goals first | exact g _ (by kernel_rfl) | refine r _ _ _ ?_ | omega | (simp [-List.reduceReplicate, sOf_set, ofI_set, allU8_set, maxLen, F10] <;> omega)
     refine hK1144 _ _ _ ?_
     refine Can.weak [(3, AV.ptr 0 0), (5, AV.lst false true (List.map api_Guard.av v11)), (6, AV.lst false true (List.map AV.bool v12)), (11, AV.lst false false (List.map api_Guard.av v30)), (12, Iz v35), (13, Iz (IntKind.wrap .i64 (v32 + 1)))] [(0, .cells [Lz v4, Iz v34])] 1 (by simp [-List.reduceReplicate, sOf_set, ofI_set, allU8_set, F10]) (by simp [-List.reduceReplicate, sOf_set, ofI_set, allU8_set, F10]) (by simp) ?_
     exact Can.next (k' := n3) ((v35, IntKind.wrap .i64 (v32 + 1), v34)) (by omega) hF (by simp [-List.reduceReplicate, sOf_set, ofI_set, allU8_set, F10]) (by simp [-List.reduceReplicate, sOf_set, ofI_set, allU8_set, F10]) (by simp)
   ·replace hF := ite_f h26 hF
    have h26_ := h26
    try simp [-List.reduceReplicate] at h26_
    have F30 := And.intro F9 (And.intro h26 h26_)
    refine AW.condF (by decide) (by first | (simp [-List.reduceReplicate, sOf_set, ofI_set, allU8_set, F30] <;> omega)) ?_
    refine AW.exit ?_
    try simp [-List.reduceReplicate]
    refine hK983 _ _ _ ?_
    refine AW.seqR mixed [] [none, none, none, none, none, some (162, true), none, none] (by kernel_rfl) fun _ _ g r => ?_
    by_cases h56 : v31 = (v30.length : Int)
    ·replace hF := ite_t h56 hF
     have h56q : v31 = (v30.length : Int) := h56
     have h56_ := eqb_t h56q
     have h56__ := neb_f h56q
     have F31 := And.intro F30 (And.intro h56_ h56__)
     try simp [-List.reduceReplicate, sOf_set, ofI_set, allU8_set, F31]
     and_intros
     try any_goals first | omega | (simp [-List.reduceReplicate, sOf_set, ofI_set, allU8_set, maxLen, F31] <;> omega)
     obtain ⟨v52, h57, hF⟩ := bnd1_elim hF
     refine aCall_l (w_law34_awake k _ h57) (by simp) [] [] [] rfl .nil (by simp [-List.reduceReplicate, sOf_set, ofI_set, allU8_set, F31]) (by decide) (by simp) (by simp) (.inl rfl) (by simp) (by simp) ?_
     try simp [-List.reduceReplicate, sOf_set, ofI_set, allU8_set, F31]
     and_intros
     any_goals first | exact g _ (by kernel_rfl) | refine r _ _ _ ?_ | omega | (simp [-List.reduceReplicate, sOf_set, ofI_set, allU8_set, maxLen, F31] <;> omega)
     refine AW.wk [(2, AV.bool v52)] [] 1 (by simp [-List.reduceReplicate, sOf_set, ofI_set, allU8_set, F31]) (by simp [-List.reduceReplicate, sOf_set, ofI_set, allU8_set, F31]) (by simp) ?_
     simp only [Option.some.injEq] at hF
     subst hF
     refine AW.ret (hQ _ _ _ ?_ (matchO_0 ?_)).1
     ·simp [Try.f6, F31]
     ·simp [F31]
    ·replace hF := ite_f h56 hF
     have h56_ := eqb_f h56
     have h56__ := neb_t h56
     have F32 := And.intro F30 (And.intro h56 (And.intro h56_ h56__))
     try simp [-List.reduceReplicate, sOf_set, ofI_set, allU8_set, F32]
     and_intros
     any_goals first | exact g _ (by kernel_rfl) | refine r _ _ _ ?_ | omega | (simp [-List.reduceReplicate, sOf_set, ofI_set, allU8_set, maxLen, F32] <;> omega)
     refine AW.wk [(2, AV.bool false)] [] 1 (by simp [-List.reduceReplicate, sOf_set, ofI_set, allU8_set, F32]) (by simp [-List.reduceReplicate, sOf_set, ofI_set, allU8_set, F32]) (by simp) ?_
     simp only [Option.some.injEq] at hF
     subst hF
     refine AW.ret (hQ _ _ _ ?_ (matchO_0 ?_)).1
     ·simp [Try.f6, F32]
     ·simp [F32]
end Go.TF
