/- Walks: the Go text computes the Lean functions (printed by a program of our own). -/
import Derived.Test.YtepdfenlkeaefaaGPu
import Derived.Test.YtepdfenlkeaefaaGAbsT
import Derived.Test.YtepdfenlkeaefaaGWa0
import Derived.Test.YtepdfenlkeaefaaGWa1
import Derived.Test.YtepdfenlkeaefaaGWa2
import Derived.Test.YtepdfenlkeaefaaGWa3
import Derived.Test.YtepdfenlkeaefaaGWa4
set_option linter.unusedVariables false
set_option linter.unusedSimpArgs false
set_option maxRecDepth 100000
namespace Go.TF
open Go Go.Abs Go.Proofs Go.Proofs.YtepdfenlkeaefaaGT
set_option maxHeartbeats 4000000 in
theorem w_statement_Digest (k : Nat) (v0 : Int) (v1 : Int) (v2 : ByteArray) (v3 : Int) (v4 : Int) (v5 : Int) (v6 : Int) (v7 : Int) (v8 : (List Int)) (v9 : (List api_Pin)) (v10 : ByteArray) (v11 : Int) (v12 : ByteArray) (v13 : ByteArray) (hF : statement_Digest k v0 v1 v2 v3 v4 v5 v6 v7 v8 v9 v10 v11 v12 = some v13) :
  FCall Try.prog 108 [AV.agg [AV.int .i64 v0, AV.int .i64 v1, AV.str v2, AV.int .i64 v3, AV.int .i64 v4, AV.int .i64 v5, AV.int .i64 v6, AV.int .i64 v7, AV.lst false false (List.map (AV.int .i64) v8), AV.lst false false (List.map api_Pin.av v9), AV.str v10, AV.int .i64 v11, AV.str v12]] [] (AV.str v13) [] := by
 unfold statement_Digest at hF
 refine FCall.enter Try.func108 rfl (by simp) (by decide) (by simp) (by simp) (by simp) (by simp) (by simp) ?_
 intro c0 w0 Q h0 hQ
 refine AW.wk [(0, AV.agg [Iz v0, Iz v1, AV.str v2, Iz v3, Iz v4, Iz v5, Iz v6, Iz v7, Lz v8, AV.lst false false (List.map api_Pin.av v9), AV.str v10, Iz v11, AV.str v12])] [] 0 (by simp) (by simp) (by simp) ?_
 refine AW.seqR mixed [] [none, none] (by kernel_rfl) fun _ _ g r => ?_
 try simp
 and_intros
 any_goals first | exact g _ (by kernel_rfl) | refine r _ _ _ ?_ | omega | (simp [maxLen] <;> omega)
 refine AW.wk [(1, AV.ptr 0 0)] [(0, .cells [Iz v0, Iz v1, AV.str v2, Iz v3, Iz v4, Iz v5, Iz v6, Iz v7, Lz v8, AV.lst false false (List.map api_Pin.av v9), AV.str v10, Iz v11, AV.str v12])] 1 (by simp) (by simp) (by simp) ?_
 refine AW.seqR mixed [] [none, none, none, none] (by kernel_rfl) fun _ _ g r => ?_
 try simp
 and_intros
 try any_goals first | omega | (simp [maxLen] <;> omega)
 obtain ⟨v14, h1, hF⟩ := bnd1_elim hF
 refine aCall_l (w_statement_Bytes k _ _ _ _ _ _ _ _ _ _ _ _ _ _ h1) (by simp) [] [] [] rfl (.cons (.same (by simp)) .nil) (by simp) (by decide) (by simp) (by simp) (.inl rfl) (by simp) (by simp) ?_
 try simp
 and_intros
 try any_goals first | omega | (simp [maxLen] <;> omega)
 obtain ⟨v15, h2, hF⟩ := bnd1_elim hF
 refine aCall_l (w_digest_Sum k _ _ h2) (by simp) [] [1] [] rfl (.cons (Coe.l (o := .grow (List.map (AV.int .u8) v14)) (by simp) rfl (by simp) (by simp [noIdsL]) (by simp) (by simp)) .nil) (by simp) (by decide) (by simp) (by simp) (.inr ⟨by simp, by simp⟩) (by simp) (by simp) ?_
 try simp
 and_intros
 any_goals first | exact g _ (by kernel_rfl) | refine r _ _ _ ?_ | omega | (simp [maxLen] <;> omega)
 refine AW.wk [(2, AV.str v15)] [] 2 (by simp) (by simp) (by simp) ?_
 simp only [Option.some.injEq] at hF
 subst hF
 refine AW.ret (hQ _ _ _ ?_ (matchO_0 ?_)).1
 ·simp [Try.f108]
 ·simp
set_option maxHeartbeats 4000000 in
theorem w_statement_Sealed (k : Nat) (v0 : Int) (v1 : Int) (v2 : ByteArray) (v3 : Int) (v4 : Int) (v5 : Int) (v6 : Int) (v7 : Int) (v8 : (List Int)) (v9 : (List api_Pin)) (v10 : ByteArray) (v11 : Int) (v12 : ByteArray) (v13 : Bool) (hF : statement_Sealed k v0 v1 v2 v3 v4 v5 v6 v7 v8 v9 v10 v11 v12 = some v13) :
  FCall Try.prog 73 [AV.agg [AV.int .i64 v0, AV.int .i64 v1, AV.str v2, AV.int .i64 v3, AV.int .i64 v4, AV.int .i64 v5, AV.int .i64 v6, AV.int .i64 v7, AV.lst false false (List.map (AV.int .i64) v8), AV.lst false false (List.map api_Pin.av v9), AV.str v10, AV.int .i64 v11, AV.str v12]] [] (AV.bool v13) [] := by
 unfold statement_Sealed at hF
 refine FCall.enter Try.func73 rfl (by simp) (by decide) (by simp) (by simp) (by simp) (by simp) (by simp) ?_
 intro c0 w0 Q h0 hQ
 refine AW.wk [(0, AV.agg [Iz v0, Iz v1, AV.str v2, Iz v3, Iz v4, Iz v5, Iz v6, Iz v7, Lz v8, AV.lst false false (List.map api_Pin.av v9), AV.str v10, Iz v11, AV.str v12])] [] 0 (by simp) (by simp) (by simp) ?_
 refine AW.seqR mixed [] [none, none] (by kernel_rfl) fun _ _ g r => ?_
 try simp
 and_intros
 any_goals first | exact g _ (by kernel_rfl) | refine r _ _ _ ?_ | omega | (simp [maxLen] <;> omega)
 refine AW.wk [(1, AV.ptr 0 0)] [(0, .cells [Iz v0, Iz v1, AV.str v2, Iz v3, Iz v4, Iz v5, Iz v6, Iz v7, Lz v8, AV.lst false false (List.map api_Pin.av v9), AV.str v10, Iz v11, AV.str v12])] 1 (by simp) (by simp) (by simp) ?_
 refine AW.seqR mixed [] [none, none, none, none, none, none, none, none, none] (by kernel_rfl) fun _ _ g r => ?_
 try simp
 and_intros
 try any_goals first | omega | (simp [maxLen] <;> omega)
 obtain ⟨v14, h1, hF⟩ := bnd1_elim hF
 refine aCall_l (w_statement_Digest k _ _ _ _ _ _ _ _ _ _ _ _ _ _ h1) (by simp) [] [] [] rfl (.cons (.same (by simp)) .nil) (by simp) (by decide) (by simp) (by simp) (.inl rfl) (by simp) (by simp) ?_
 obtain ⟨v15, h2, hF⟩ := let1_elim hF
 have h2_ := h2
 try simp at h2_
 try simp [h2, h2_]
 and_intros
 any_goals first | exact g _ (by kernel_rfl) | refine r _ _ _ ?_ | omega | (simp [h2, h2_, maxLen] <;> omega)
 refine AW.wk [(2, AV.bool v15)] [] 1 (by simp [h2, h2_]) (by simp [h2, h2_]) (by simp) ?_
 simp only [Option.some.injEq] at hF
 subst hF
 refine AW.ret (hQ _ _ _ ?_ (matchO_0 ?_)).1
 ·simp [Try.f73, h2, h2_]
 ·simp [h2, h2_]
abbrev c_guardian_Of (v0 : Int) (v1 : Int) (v2 : ByteArray) (v3 : Int) (v4 : Int) (v5 : Int) (v6 : Int) (v7 : Int) (v8 : (List Int)) (v9 : (List api_Pin)) (v10 : ByteArray) (v11 : Int) (v12 : ByteArray) : AObj := .cells [Iz v0, Iz v1, AV.str v2, Iz v3, Iz v4, Iz v5, Iz v6, Iz v7, Lz v8, AV.lst false false (List.map api_Pin.av v9), AV.str v10, Iz v11, AV.str v12]
set_option maxHeartbeats 4000000 in
theorem w_guardian_Of (k : Nat) (v0 : Int) (v1 : Int) (v2 : ByteArray) (v3 : Int) (v4 : Int) (v5 : Int) (v6 : Int) (v7 : Int) (v8 : (List Int)) (v9 : (List api_Pin)) (v10 : ByteArray) (v11 : Int) (v12 : ByteArray) (v13 : Int) (v14 : Int) (v15 : (List Int)) (v16 : Int) (hF : guardian_Of k v0 v1 v2 v3 v4 v5 v6 v7 v8 v9 v10 v11 v12 = some (v13, v14, v15, v16)) :
  FCall Try.prog 26 [AV.agg [AV.int .i64 v0, AV.int .i64 v1, AV.str v2, AV.int .i64 v3, AV.int .i64 v4, AV.int .i64 v5, AV.int .i64 v6, AV.int .i64 v7, AV.lst false false (List.map (AV.int .i64) v8), AV.lst false false (List.map api_Pin.av v9), AV.str v10, AV.int .i64 v11, AV.str v12]] [] (AV.tup [AV.agg [AV.int .i64 v13, AV.int .i64 v14, AV.lst false false (List.map (AV.int .i64) v15)], AV.int .i64 v16]) [] := by
 unfold guardian_Of at hF
 refine FCall.enter Try.func26 rfl (by simp) (by decide) (by simp) (by simp) (by simp) (by simp) (by simp) ?_
 intro c0 w0 Q h0 hQ
 refine AW.wk [(0, AV.agg [Iz v0, Iz v1, AV.str v2, Iz v3, Iz v4, Iz v5, Iz v6, Iz v7, Lz v8, AV.lst false false (List.map api_Pin.av v9), AV.str v10, Iz v11, AV.str v12])] [] 0 (by simp) (by simp) (by simp) ?_
 refine AW.seqR mixed [] [none, none, none] (by kernel_rfl) fun _ _ g r => ?_
 try simp
 and_intros
 any_goals first | exact g _ (by kernel_rfl) | refine r _ _ _ ?_ | omega | (simp [maxLen] <;> omega)
 refine AW.wk [(1, AV.ptr 0 0), (2, AV.ptr 1 0)] [(0, c_guardian_Of v0 v1 v2 v3 v4 v5 v6 v7 v8 v9 v10 v11 v12), (1, .cells [Iz 0, Iz 0, AV.lst true true (List.map (AV.int .i64) ([] : List Int))])] 2 (by simp) (by simp) (by simp) ?_
 refine AW.seq fun K32 hK32 => ?_
 refine AW.seqR mixed [] [none, none, none] (by kernel_rfl) fun _ _ g r => ?_
 try simp
 and_intros
 try any_goals first | omega | (simp [maxLen] <;> omega)
 obtain ⟨v17, h1, hF⟩ := bnd1_elim hF
 refine aCall_l (w_statement_Check k _ _ _ _ _ _ _ _ _ _ _ _ _ _ h1) (by simp) [] [] [] rfl (.cons (.same (by simp)) .nil) (by simp) (by decide) (by simp) (by simp) (.inl rfl) (by simp) (by simp) ?_
 try simp
 and_intros
 any_goals first | exact g _ (by kernel_rfl) | refine r _ _ _ ?_ | omega | (simp [maxLen] <;> omega)
 refine AW.wk [(1, AV.ptr 0 0), (2, AV.ptr 1 0), (4, Iz v17)] [(0, c_guardian_Of v0 v1 v2 v3 v4 v5 v6 v7 v8 v9 v10 v11 v12), (1, .cells [Iz 0, Iz 0, AV.lst true true (List.map (AV.int .i64) ([] : List Int))])] 2 (by simp) (by simp) (by simp) ?_
 refine AW.seqR mixed [] [none, none] (by kernel_rfl) fun _ _ g r => ?_
 try simp
 and_intros
 any_goals first | exact g _ (by kernel_rfl) | refine r _ _ _ ?_ | omega | (simp [maxLen] <;> omega)
 refine AW.wk [(1, AV.ptr 0 0), (2, AV.ptr 1 0), (4, Iz v17), (9, AV.bool (v17 != 0))] [(0, c_guardian_Of v0 v1 v2 v3 v4 v5 v6 v7 v8 v9 v10 v11 v12), (1, .cells [Iz 0, Iz 0, AV.lst true true (List.map (AV.int .i64) ([] : List Int))])] 2 (by simp) (by simp) (by simp) ?_
 by_cases h2 : v17 ≠ 0
 ·replace hF := ite_t h2 hF
  have h2_ := eqb_f h2
  have h2__ := neb_t h2
  have F1 := And.intro h2 (And.intro h2_ h2__)
  refine AW.condT (by decide) (by first | (simp [F1] <;> omega)) ?_
  refine AW.seqR mixed [] [none, none, none, none] (by kernel_rfl) fun _ _ g r => ?_
  try simp [F1]
  and_intros
  any_goals first | exact g _ (by kernel_rfl) | refine r _ _ _ ?_ | omega | (simp [maxLen, F1] <;> omega)
  refine AW.wk [(2, AV.ptr 1 0), (3, Iz v17)] [(1, .cells [Iz 0, Iz 0, AV.lst true true (List.map (AV.int .i64) ([] : List Int))])] 2 (by simp [F1]) (by simp [F1]) (by simp) ?_
  refine AW.rnm (m := 0) h0 [(0, 1)] [(2, AV.ptr 0 0), (3, Iz v17)] [(0, .cells [Iz 0, Iz 0, AV.lst true true (List.map (AV.int .i64) ([] : List Int))])] 1 (by decide) (by decide) (by decide) rfl (by simp [F1]) (by simp [F1]) ?_
  refine AW.flg [] [(0, .cells [Iz 0, Iz 0, AV.lst false false (List.map (AV.int .i64) ([] : List Int))])] trivial ⟨⟨AObj.cells [Iz 0, Iz 0, AV.lst true true (List.map (AV.int .i64) ([] : List Int))], by simp [F1], (.mk (.cons (.same _) (.cons (.same _) (.cons (.lst (by simp)) .nil))))⟩, trivial⟩ (by simp) ?_
  simp only [Option.some.injEq, Prod.mk.injEq] at hF
  obtain ⟨e0, e1, e2, e3⟩ := hF
  subst e0 e1 e2 e3
  refine AW.ret (hQ _ _ _ ?_ (matchO_0 ?_)).1
  ·simp [Try.f26, F1]
  ·simp [F1]
 ·replace hF := ite_f h2 hF
  have h2q : v17 = 0 := Classical.not_not.1 h2
  have h2_ := eqb_t h2q
  have h2__ := neb_f h2q
  have F2 := And.intro h2_ (And.intro h2__ h2q)
  refine AW.condF (by decide) (by first | (simp [F2] <;> omega)) ?_
  refine AW.skip ?_
  refine hK32 _ _ _ ?_
  refine AW.seqR mixed [] [none, none, none, none, none, none, none, none, none, none] (by kernel_rfl) fun _ _ g r => ?_
  try simp [F2]
  and_intros
  try any_goals first | omega | (simp [maxLen, F2] <;> omega)
  obtain ⟨v18, h3, hF⟩ := bnd1_elim hF
  refine aCall_l (w_slices_Clone_int_int k _ _ h3) (by simp) [] [] [] rfl (.cons (.same (by simp [F2])) .nil) (by simp [F2]) (by decide) (by simp) (by simp) (.inl rfl) (by simp) (by simp) ?_
  try simp [F2]
  and_intros
  any_goals first | exact g _ (by kernel_rfl) | refine r _ _ _ ?_ | omega | (simp [maxLen, F2] <;> omega)
  refine AW.wk [(1, AV.ptr 0 0), (2, AV.ptr 1 0), (5, AV.ptr 3 0)] [(0, c_guardian_Of v0 v1 v2 v3 v4 v5 v6 v7 v8 v9 v10 v11 v12), (1, .cells [Iz 0, Iz 0, AV.lst true true (List.map (AV.int .i64) ([] : List Int))]), (2, .grow (List.map (AV.int .i64) v18)), (3, .cells [Iz v0, Iz v5, AV.slc 2 0 1 v18.length false])] 4 (by simp [F2]) (by simp [F2]) (by simp) ?_
  refine AW.frz 2 (o := .grow (List.map (AV.int .i64) v18)) (by simp [F2]) rfl [] [(3, .cells [Iz v0, Iz v5, Lz v18])] trivial ⟨⟨by simp, AObj.cells [Iz v0, Iz v5, AV.slc 2 0 1 v18.length false], by simp [F2], (.mk (.cons (.same _) (.cons (.same _) (.cons (.l (by simp) (by simp) (by simp) (by simp)) .nil))))⟩, trivial⟩ ?_
  refine AW.wk [(1, AV.ptr 0 0), (2, AV.ptr 1 0), (5, AV.ptr 3 0)] [(0, c_guardian_Of v0 v1 v2 v3 v4 v5 v6 v7 v8 v9 v10 v11 v12), (1, .cells [Iz 0, Iz 0, AV.lst true true (List.map (AV.int .i64) ([] : List Int))]), (3, .cells [Iz v0, Iz v5, Lz v18])] 4 (by simp [F2]) (by simp [F2]) (by simp) ?_
  refine AW.seq fun K45 hK45 => ?_
  refine AW.seqR mixed [] [none, none, none, none, some (23, false), some (23, false), some (23, false), none, none, some (28, false), some (28, false), some (28, false), none, none, some (33, false), some (33, false), some (33, false), none, none, some (38, false), some (38, false), some (38, false), some (38, false), none, none, some (44, false), some (44, false), some (44, false), none, none, some (49, false), some (49, false), some (49, false), none] (by kernel_rfl) fun _ _ g r => ?_
  try simp [F2]
  and_intros
  try any_goals first | omega | (simp [maxLen, F2] <;> omega)
  obtain ⟨v19, h4, hF⟩ := bnd1_elim hF
  refine aCall_l (w_statement_Sealed k _ _ _ _ _ _ _ _ _ _ _ _ _ _ h4) (by simp) [] [] [] rfl (.cons (.same (by simp [F2])) .nil) (by simp [F2]) (by decide) (by simp) (by simp) (.inl rfl) (by simp) (by simp) ?_
  by_cases h5 : (!v19) = true
  ·replace hF := ite_t h5 hF
   have h5_ := h5
   try simp at h5_
   have F3 := And.intro F2 (And.intro h5 h5_)
   try simp [F3]
   and_intros
   any_goals first | exact g _ (by kernel_rfl) | refine r _ _ _ ?_ | omega | (simp [maxLen, F3] <;> omega)
   refine AW.wk [(2, AV.ptr 1 0), (5, AV.ptr 3 0), (53, AV.bool true)] [(1, .cells [Iz 0, Iz 0, AV.lst true true (List.map (AV.int .i64) ([] : List Int))]), (3, .cells [Iz v0, Iz v5, Lz v18])] 4 (by simp [F3]) (by simp [F3]) (by simp) ?_
   refine AW.condT (by decide) (by simp [F3]) ?_
   refine AW.seqR mixed [] [none, none, none] (by kernel_rfl) fun _ _ g r => ?_
   try simp [F3]
   and_intros
   any_goals first | exact g _ (by kernel_rfl) | refine r _ _ _ ?_ | omega | (simp [maxLen, F3] <;> omega)
   refine AW.wk [(2, AV.ptr 1 0), (3, Iz 47)] [(1, .cells [Iz 0, Iz 0, AV.lst true true (List.map (AV.int .i64) ([] : List Int))])] 4 (by simp [F3]) (by simp [F3]) (by simp) ?_
   refine AW.rnm (m := 0) h0 [(0, 1)] [(2, AV.ptr 0 0), (3, Iz 47)] [(0, .cells [Iz 0, Iz 0, AV.lst true true (List.map (AV.int .i64) ([] : List Int))])] 1 (by decide) (by decide) (by decide) rfl (by simp [F3]) (by simp [F3]) ?_
   refine AW.flg [] [(0, .cells [Iz 0, Iz 0, AV.lst false false (List.map (AV.int .i64) ([] : List Int))])] trivial ⟨⟨AObj.cells [Iz 0, Iz 0, AV.lst true true (List.map (AV.int .i64) ([] : List Int))], by simp [F3], (.mk (.cons (.same _) (.cons (.same _) (.cons (.lst (by simp)) .nil))))⟩, trivial⟩ (by simp) ?_
   simp only [Option.some.injEq, Prod.mk.injEq] at hF
   obtain ⟨e0, e1, e2, e3⟩ := hF
   subst e0 e1 e2 e3
   refine AW.ret (hQ _ _ _ ?_ (matchO_0 ?_)).1
   ·simp [Try.f26, F3]
   ·simp [F3]
  ·replace hF := ite_f h5 hF
   have h5_ := h5
   try simp at h5_
   by_cases h6 : v4 ≠ 12
   ·replace hF := ite_t h6 hF
    have h6_ := eqb_f h6
    have h6__ := neb_t h6
    have F4 := And.intro F2 (And.intro h5 (And.intro h5_ (And.intro h6 (And.intro h6_ h6__))))
    try simp [F4]
    and_intros
    any_goals first | exact g _ (by kernel_rfl) | refine r _ _ _ ?_ | omega | (simp [maxLen, F4] <;> omega)
    refine AW.wk [(2, AV.ptr 1 0), (5, AV.ptr 3 0), (53, AV.bool true)] [(1, .cells [Iz 0, Iz 0, AV.lst true true (List.map (AV.int .i64) ([] : List Int))]), (3, .cells [Iz v0, Iz v5, Lz v18])] 4 (by simp [F4]) (by simp [F4]) (by simp) ?_
    refine AW.condT (by decide) (by simp [F4]) ?_
    refine AW.seqR mixed [] [none, none, none] (by kernel_rfl) fun _ _ g r => ?_
    try simp [F4]
    and_intros
    any_goals first | exact g _ (by kernel_rfl) | refine r _ _ _ ?_ | omega | (simp [maxLen, F4] <;> omega)
    refine AW.wk [(2, AV.ptr 1 0), (3, Iz 47)] [(1, .cells [Iz 0, Iz 0, AV.lst true true (List.map (AV.int .i64) ([] : List Int))])] 4 (by simp [F4]) (by simp [F4]) (by simp) ?_
    refine AW.rnm (m := 0) h0 [(0, 1)] [(2, AV.ptr 0 0), (3, Iz 47)] [(0, .cells [Iz 0, Iz 0, AV.lst true true (List.map (AV.int .i64) ([] : List Int))])] 1 (by decide) (by decide) (by decide) rfl (by simp [F4]) (by simp [F4]) ?_
    refine AW.flg [] [(0, .cells [Iz 0, Iz 0, AV.lst false false (List.map (AV.int .i64) ([] : List Int))])] trivial ⟨⟨AObj.cells [Iz 0, Iz 0, AV.lst true true (List.map (AV.int .i64) ([] : List Int))], by simp [F4], (.mk (.cons (.same _) (.cons (.same _) (.cons (.lst (by simp)) .nil))))⟩, trivial⟩ (by simp) ?_
    simp only [Option.some.injEq, Prod.mk.injEq] at hF
    obtain ⟨e0, e1, e2, e3⟩ := hF
    subst e0 e1 e2 e3
    refine AW.ret (hQ _ _ _ ?_ (matchO_0 ?_)).1
    ·simp [Try.f26, F4]
    ·simp [F4]
   ·replace hF := ite_f h6 hF
    have h6q : v4 = 12 := Classical.not_not.1 h6
    have h6_ := eqb_t h6q
    have h6__ := neb_f h6q
    by_cases h7 : v6 ≠ 0
    ·replace hF := ite_t h7 hF
     have h7_ := eqb_f h7
     have h7__ := neb_t h7
     have F5 := And.intro F2 (And.intro h5 (And.intro h5_ (And.intro h6_ (And.intro h6__ (And.intro h6q (And.intro h7 (And.intro h7_ h7__)))))))
     try simp [F5]
     and_intros
     any_goals first | exact g _ (by kernel_rfl) | refine r _ _ _ ?_ | omega | (simp [maxLen, F5] <;> omega)
     refine AW.wk [(2, AV.ptr 1 0), (5, AV.ptr 3 0), (53, AV.bool true)] [(1, .cells [Iz 0, Iz 0, AV.lst true true (List.map (AV.int .i64) ([] : List Int))]), (3, .cells [Iz v0, Iz v5, Lz v18])] 4 (by simp [F5]) (by simp [F5]) (by simp) ?_
     refine AW.condT (by decide) (by simp [F5]) ?_
     refine AW.seqR mixed [] [none, none, none] (by kernel_rfl) fun _ _ g r => ?_
     try simp [F5]
     and_intros
     any_goals first | exact g _ (by kernel_rfl) | refine r _ _ _ ?_ | omega | (simp [maxLen, F5] <;> omega)
     refine AW.wk [(2, AV.ptr 1 0), (3, Iz 47)] [(1, .cells [Iz 0, Iz 0, AV.lst true true (List.map (AV.int .i64) ([] : List Int))])] 4 (by simp [F5]) (by simp [F5]) (by simp) ?_
     refine AW.rnm (m := 0) h0 [(0, 1)] [(2, AV.ptr 0 0), (3, Iz 47)] [(0, .cells [Iz 0, Iz 0, AV.lst true true (List.map (AV.int .i64) ([] : List Int))])] 1 (by decide) (by decide) (by decide) rfl (by simp [F5]) (by simp [F5]) ?_
     refine AW.flg [] [(0, .cells [Iz 0, Iz 0, AV.lst false false (List.map (AV.int .i64) ([] : List Int))])] trivial ⟨⟨AObj.cells [Iz 0, Iz 0, AV.lst true true (List.map (AV.int .i64) ([] : List Int))], by simp [F5], (.mk (.cons (.same _) (.cons (.same _) (.cons (.lst (by simp)) .nil))))⟩, trivial⟩ (by simp) ?_
     simp only [Option.some.injEq, Prod.mk.injEq] at hF
     obtain ⟨e0, e1, e2, e3⟩ := hF
     subst e0 e1 e2 e3
     refine AW.ret (hQ _ _ _ ?_ (matchO_0 ?_)).1
     ·simp [Try.f26, F5]
     ·simp [F5]
    ·replace hF := ite_f h7 hF
     have h7q : v6 = 0 := Classical.not_not.1 h7
     have h7_ := eqb_t h7q
     have h7__ := neb_f h7q
     by_cases h8 : v7 ≠ 0
     ·replace hF := ite_t h8 hF
      have h8_ := eqb_f h8
      have h8__ := neb_t h8
      have F6 := And.intro F2 (And.intro h5 (And.intro h5_ (And.intro h6_ (And.intro h6__ (And.intro h6q (And.intro h7_ (And.intro h7__ (And.intro h7q (And.intro h8 (And.intro h8_ h8__))))))))))
      try simp [F6]
      and_intros
      any_goals first | exact g _ (by kernel_rfl) | refine r _ _ _ ?_ | omega | (simp [maxLen, F6] <;> omega)
      refine AW.wk [(2, AV.ptr 1 0), (5, AV.ptr 3 0), (53, AV.bool true)] [(1, .cells [Iz 0, Iz 0, AV.lst true true (List.map (AV.int .i64) ([] : List Int))]), (3, .cells [Iz v0, Iz v5, Lz v18])] 4 (by simp [F6]) (by simp [F6]) (by simp) ?_
      refine AW.condT (by decide) (by simp [F6]) ?_
      refine AW.seqR mixed [] [none, none, none] (by kernel_rfl) fun _ _ g r => ?_
      try simp [F6]
      and_intros
      any_goals first | exact g _ (by kernel_rfl) | refine r _ _ _ ?_ | omega | (simp [maxLen, F6] <;> omega)
      refine AW.wk [(2, AV.ptr 1 0), (3, Iz 47)] [(1, .cells [Iz 0, Iz 0, AV.lst true true (List.map (AV.int .i64) ([] : List Int))])] 4 (by simp [F6]) (by simp [F6]) (by simp) ?_
      refine AW.rnm (m := 0) h0 [(0, 1)] [(2, AV.ptr 0 0), (3, Iz 47)] [(0, .cells [Iz 0, Iz 0, AV.lst true true (List.map (AV.int .i64) ([] : List Int))])] 1 (by decide) (by decide) (by decide) rfl (by simp [F6]) (by simp [F6]) ?_
      refine AW.flg [] [(0, .cells [Iz 0, Iz 0, AV.lst false false (List.map (AV.int .i64) ([] : List Int))])] trivial ⟨⟨AObj.cells [Iz 0, Iz 0, AV.lst true true (List.map (AV.int .i64) ([] : List Int))], by simp [F6], (.mk (.cons (.same _) (.cons (.same _) (.cons (.lst (by simp)) .nil))))⟩, trivial⟩ (by simp) ?_
      simp only [Option.some.injEq, Prod.mk.injEq] at hF
      obtain ⟨e0, e1, e2, e3⟩ := hF
      subst e0 e1 e2 e3
      refine AW.ret (hQ _ _ _ ?_ (matchO_0 ?_)).1
      ·simp [Try.f26, F6]
      ·simp [F6]
     ·replace hF := ite_f h8 hF
      have h8q : v7 = 0 := Classical.not_not.1 h8
      have h8_ := eqb_t h8q
      have h8__ := neb_f h8q
      by_cases h9 : 0 < (v9.length : Int)
      ·replace hF := ite_t h9 hF
       have h9_ := h9
       try simp at h9_
       have F7 := And.intro F2 (And.intro h5 (And.intro h5_ (And.intro h6_ (And.intro h6__ (And.intro h6q (And.intro h7_ (And.intro h7__ (And.intro h7q (And.intro h8_ (And.intro h8__ (And.intro h8q (And.intro h9 h9_))))))))))))
       try simp [F7]
       and_intros
       any_goals first | exact g _ (by kernel_rfl) | refine r _ _ _ ?_ | omega | (simp [maxLen, F7] <;> omega)
       refine AW.wk [(2, AV.ptr 1 0), (5, AV.ptr 3 0), (53, AV.bool true)] [(1, .cells [Iz 0, Iz 0, AV.lst true true (List.map (AV.int .i64) ([] : List Int))]), (3, .cells [Iz v0, Iz v5, Lz v18])] 4 (by simp [F7]) (by simp [F7]) (by simp) ?_
       refine AW.condT (by decide) (by simp [F7]) ?_
       refine AW.seqR mixed [] [none, none, none] (by kernel_rfl) fun _ _ g r => ?_
       try simp [F7]
       and_intros
       any_goals first | exact g _ (by kernel_rfl) | refine r _ _ _ ?_ | omega | (simp [maxLen, F7] <;> omega)
       refine AW.wk [(2, AV.ptr 1 0), (3, Iz 47)] [(1, .cells [Iz 0, Iz 0, AV.lst true true (List.map (AV.int .i64) ([] : List Int))])] 4 (by simp [F7]) (by simp [F7]) (by simp) ?_
       refine AW.rnm (m := 0) h0 [(0, 1)] [(2, AV.ptr 0 0), (3, Iz 47)] [(0, .cells [Iz 0, Iz 0, AV.lst true true (List.map (AV.int .i64) ([] : List Int))])] 1 (by decide) (by decide) (by decide) rfl (by simp [F7]) (by simp [F7]) ?_
       refine AW.flg [] [(0, .cells [Iz 0, Iz 0, AV.lst false false (List.map (AV.int .i64) ([] : List Int))])] trivial ⟨⟨AObj.cells [Iz 0, Iz 0, AV.lst true true (List.map (AV.int .i64) ([] : List Int))], by simp [F7], (.mk (.cons (.same _) (.cons (.same _) (.cons (.lst (by simp)) .nil))))⟩, trivial⟩ (by simp) ?_
       simp only [Option.some.injEq, Prod.mk.injEq] at hF
       obtain ⟨e0, e1, e2, e3⟩ := hF
       subst e0 e1 e2 e3
       refine AW.ret (hQ _ _ _ ?_ (matchO_0 ?_)).1
       ·simp [Try.f26, F7]
       ·simp [F7]
      ·replace hF := ite_f h9 hF
       have h9_ := h9
       try simp at h9_
       by_cases h10 : (!strEq v10 (ByteArray.mk #[])) = true
       ·replace hF := ite_t h10 hF
        have h10_ := h10
        try simp at h10_
        have F8 := And.intro F2 (And.intro h5 (And.intro h5_ (And.intro h6_ (And.intro h6__ (And.intro h6q (And.intro h7_ (And.intro h7__ (And.intro h7q (And.intro h8_ (And.intro h8__ (And.intro h8q (And.intro h9 (And.intro h9_ (And.intro h10 h10_))))))))))))))
        try simp [F8]
        and_intros
        any_goals first | exact g _ (by kernel_rfl) | refine r _ _ _ ?_ | omega | (simp [maxLen, F8] <;> omega)
        refine AW.wk [(2, AV.ptr 1 0), (5, AV.ptr 3 0), (53, AV.bool true)] [(1, .cells [Iz 0, Iz 0, AV.lst true true (List.map (AV.int .i64) ([] : List Int))]), (3, .cells [Iz v0, Iz v5, Lz v18])] 4 (by simp [F8]) (by simp [F8]) (by simp) ?_
        refine AW.condT (by decide) (by simp [F8]) ?_
        refine AW.seqR mixed [] [none, none, none] (by kernel_rfl) fun _ _ g r => ?_
        try simp [F8]
        and_intros
        any_goals first | exact g _ (by kernel_rfl) | refine r _ _ _ ?_ | omega | (simp [maxLen, F8] <;> omega)
        refine AW.wk [(2, AV.ptr 1 0), (3, Iz 47)] [(1, .cells [Iz 0, Iz 0, AV.lst true true (List.map (AV.int .i64) ([] : List Int))])] 4 (by simp [F8]) (by simp [F8]) (by simp) ?_
        refine AW.rnm (m := 0) h0 [(0, 1)] [(2, AV.ptr 0 0), (3, Iz 47)] [(0, .cells [Iz 0, Iz 0, AV.lst true true (List.map (AV.int .i64) ([] : List Int))])] 1 (by decide) (by decide) (by decide) rfl (by simp [F8]) (by simp [F8]) ?_
        refine AW.flg [] [(0, .cells [Iz 0, Iz 0, AV.lst false false (List.map (AV.int .i64) ([] : List Int))])] trivial ⟨⟨AObj.cells [Iz 0, Iz 0, AV.lst true true (List.map (AV.int .i64) ([] : List Int))], by simp [F8], (.mk (.cons (.same _) (.cons (.same _) (.cons (.lst (by simp)) .nil))))⟩, trivial⟩ (by simp) ?_
        simp only [Option.some.injEq, Prod.mk.injEq] at hF
        obtain ⟨e0, e1, e2, e3⟩ := hF
        subst e0 e1 e2 e3
        refine AW.ret (hQ _ _ _ ?_ (matchO_0 ?_)).1
        ·simp [Try.f26, F8]
        ·simp [F8]
       ·replace hF := ite_f h10 hF
        have h10_ := h10
        try simp at h10_
        have F9 := And.intro F2 (And.intro h5 (And.intro h5_ (And.intro h6_ (And.intro h6__ (And.intro h6q (And.intro h7_ (And.intro h7__ (And.intro h7q (And.intro h8_ (And.intro h8__ (And.intro h8q (And.intro h9 (And.intro h9_ (And.intro h10 h10_))))))))))))))
        try simp [F9]
        and_intros
        try any_goals first | omega | (simp [maxLen, F9] <;> omega)
        obtain ⟨v20, h11, hF⟩ := bnd1_elim hF
        refine aCall_l (w_guardian_Valid k _ _ _ _ h11) (by simp) [] [] [] rfl (.cons (.same (by simp [F9])) .nil) (by simp [F9]) (by decide) (by simp) (by simp) (.inl rfl) (by simp) (by simp) ?_
        try simp [F9]
        and_intros
        any_goals first | exact g _ (by kernel_rfl) | refine r _ _ _ ?_ | omega | (simp [maxLen, F9] <;> omega)
        refine AW.wk [(2, AV.ptr 1 0), (5, AV.ptr 3 0), (53, AV.bool (!v20))] [(1, .cells [Iz 0, Iz 0, AV.lst true true (List.map (AV.int .i64) ([] : List Int))]), (3, .cells [Iz v0, Iz v5, Lz v18])] 4 (by simp [F9]) (by simp [F9]) (by simp) ?_
        by_cases h12 : (!v20) = true
        ·replace hF := ite_t h12 hF
         have h12_ := h12
         try simp at h12_
         have F10 := And.intro F9 (And.intro h12 h12_)
         refine AW.condT (by decide) (by first | (simp [F10] <;> omega)) ?_
         refine AW.seqR mixed [] [none, none, none] (by kernel_rfl) fun _ _ g r => ?_
         try simp [F10]
         and_intros
         any_goals first | exact g _ (by kernel_rfl) | refine r _ _ _ ?_ | omega | (simp [maxLen, F10] <;> omega)
         refine AW.wk [(2, AV.ptr 1 0), (3, Iz 47)] [(1, .cells [Iz 0, Iz 0, AV.lst true true (List.map (AV.int .i64) ([] : List Int))])] 4 (by simp [F10]) (by simp [F10]) (by simp) ?_
         refine AW.rnm (m := 0) h0 [(0, 1)] [(2, AV.ptr 0 0), (3, Iz 47)] [(0, .cells [Iz 0, Iz 0, AV.lst true true (List.map (AV.int .i64) ([] : List Int))])] 1 (by decide) (by decide) (by decide) rfl (by simp [F10]) (by simp [F10]) ?_
         refine AW.flg [] [(0, .cells [Iz 0, Iz 0, AV.lst false false (List.map (AV.int .i64) ([] : List Int))])] trivial ⟨⟨AObj.cells [Iz 0, Iz 0, AV.lst true true (List.map (AV.int .i64) ([] : List Int))], by simp [F10], (.mk (.cons (.same _) (.cons (.same _) (.cons (.lst (by simp)) .nil))))⟩, trivial⟩ (by simp) ?_
         simp only [Option.some.injEq, Prod.mk.injEq] at hF
         obtain ⟨e0, e1, e2, e3⟩ := hF
         subst e0 e1 e2 e3
         refine AW.ret (hQ _ _ _ ?_ (matchO_0 ?_)).1
         ·simp [Try.f26, F10]
         ·simp [F10]
        ·replace hF := ite_f h12 hF
         have h12_ := h12
         try simp at h12_
         have F11 := And.intro F9 (And.intro h12 h12_)
         refine AW.condF (by decide) (by first | (simp [F11] <;> omega)) ?_
         refine AW.skip ?_
         refine hK45 _ _ _ ?_
         refine AW.seqR mixed [] [none, none, none] (by kernel_rfl) fun _ _ g r => ?_
         try simp [F11]
         and_intros
         any_goals first | exact g _ (by kernel_rfl) | refine r _ _ _ ?_ | omega | (simp [maxLen, F11] <;> omega)
         refine AW.wk [(2, AV.ptr 1 0), (3, Iz 0)] [(1, .cells [Iz v0, Iz v5, Lz v18])] 4 (by simp [F11]) (by simp [F11]) (by simp) ?_
         refine AW.rnm (m := 0) h0 [(0, 1)] [(2, AV.ptr 0 0), (3, Iz 0)] [(0, .cells [Iz v0, Iz v5, Lz v18])] 1 (by decide) (by decide) (by decide) rfl (by simp [F11]) (by simp [F11]) ?_
         simp only [Option.some.injEq, Prod.mk.injEq] at hF
         obtain ⟨e0, e1, e2, e3⟩ := hF
         subst e0 e1 e2 e3
         refine AW.ret (hQ _ _ _ ?_ (matchO_0 ?_)).1
         ·simp [Try.f26, F11]
         ·simp [F11]
set_option maxHeartbeats 4000000 in
theorem w_ref23_SameInts (k : Nat) (v0 : (List Int)) (v1 : (List Int)) (v2 : Bool) (hF : ref23_SameInts k v0 v1 = some v2) :
  FCall Try.prog 32 [AV.lst false false (List.map (AV.int .i64) v0), AV.lst false false (List.map (AV.int .i64) v1)] [] (AV.bool v2) [] := by
 unfold ref23_SameInts at hF
 refine FCall.enter Try.func32 rfl (by simp) (by decide) (by simp) (by simp) (by simp) (by simp) (by simp) ?_
 intro c0 w0 Q h0 hQ
 refine AW.wk [(0, Lz v0), (1, Lz v1)] [] 0 (by simp) (by simp) (by simp) ?_
 refine AW.seqR mixed [] [none] (by kernel_rfl) fun _ _ g r => ?_
 try simp
 and_intros
 any_goals first | exact g _ (by kernel_rfl) | refine r _ _ _ ?_ | omega | (simp [maxLen] <;> omega)
 refine AW.wk [(0, Lz v0), (1, Lz v1)] [] 0 (by simp) (by simp) (by simp) ?_
 refine AW.seq fun K88 hK88 => ?_
 refine AW.seqR mixed [] [none, none, none, none, none] (by kernel_rfl) fun _ _ g r => ?_
 try simp
 and_intros
 any_goals first | exact g _ (by kernel_rfl) | refine r _ _ _ ?_ | omega | (simp [maxLen] <;> omega)
 refine AW.wk [(0, Lz v0), (1, Lz v1), (10, AV.bool ((v0.length : Int) != (v1.length : Int)))] [] 0 (by simp) (by simp) (by simp) ?_
 by_cases h1 : (v0.length : Int) ≠ (v1.length : Int)
 ·replace hF := ite_t h1 hF
  have h1_ := eqb_f h1
  have h1__ := neb_t h1
  have F1 := And.intro h1 (And.intro h1_ h1__)
  refine AW.condT (by decide) (by first | (simp [F1] <;> omega)) ?_
  refine AW.seqR mixed [] [none] (by kernel_rfl) fun _ _ g r => ?_
  try simp [F1]
  and_intros
  any_goals first | exact g _ (by kernel_rfl) | refine r _ _ _ ?_ | omega | (simp [maxLen, F1] <;> omega)
  refine AW.wk [(4, AV.bool false)] [] 0 (by simp [F1]) (by simp [F1]) (by simp) ?_
  simp only [Option.some.injEq] at hF
  subst hF
  refine AW.ret (hQ _ _ _ ?_ (matchO_0 ?_)).1
  ·simp [Try.f32, F1]
  ·simp [F1]
 ·replace hF := ite_f h1 hF
  have h1q : (v0.length : Int) = (v1.length : Int) := Classical.not_not.1 h1
  have h1_ := eqb_t h1q
  have h1__ := neb_f h1q
  refine AW.condF (by decide) (by first | (simp [h1_, h1__] <;> omega)) ?_
  refine AW.skip ?_
  refine hK88 _ _ _ ?_
  refine AW.seq fun K129 hK129 => ?_
  refine AW.seqR mixed [] [none] (by kernel_rfl) fun _ _ g r => ?_
  try simp [h1_, h1__]
  and_intros
  any_goals first | exact g _ (by kernel_rfl) | refine r _ _ _ ?_ | omega | (simp [h1_, h1__, maxLen] <;> omega)
  refine AW.wk [(0, Lz v0), (1, Lz v1), (5, Iz 0)] [] 0 (by simp [h1_, h1__]) (by simp [h1_, h1__]) (by simp) ?_
  refine AW.block ?_
  refine AW.loopF (α := Int) (fun n v3 => ref23_SameInts.L1 k v0 v1 n v3 = some v2) (fun v3 => [(0, Lz v0), (1, Lz v1), (5, Iz v3)]) (fun v3 => []) 0 k (0) hF (by simp [h1_, h1__]) (by simp [h1_, h1__]) (by simp) ?_
  rintro (_|n1) v3 hF K158 hK158
  ·try dsimp only at hF
   rw [ref23_SameInts.L1] at hF; cases hF
  try dsimp only at hF
  rw [ref23_SameInts.L1] at hF
  refine AW.seq fun K160 hK160 => ?_
  refine AW.seqR mixed [] [none, none, none, none] (by kernel_rfl) fun _ _ g r => ?_
  try simp [h1_, h1__]
  and_intros
  any_goals first | exact g _ (by kernel_rfl) | refine r _ _ _ ?_ | omega | (simp [h1_, h1__, maxLen] <;> omega)
  refine AW.wk [(0, Lz v0), (1, Lz v1), (5, Iz v3), (14, AV.bool (decide (v3 < (v0.length : Int))))] [] 0 (by simp [h1_, h1__]) (by simp [h1_, h1__]) (by simp) ?_
  by_cases h2 : v3 < (v0.length : Int)
  ·replace hF := ite_t h2 hF
   have h2_ := h2
   try simp at h2_
   have F2 := And.intro h1_ (And.intro h1__ (And.intro h2 h2_))
   refine AW.condT (by decide) (by first | (simp [F2] <;> omega)) ?_
   refine AW.skip ?_
   refine hK160 _ _ _ ?_
   refine AW.seq fun K164 hK164 => ?_
   refine AW.block ?_
   refine AW.seqR mixed [] [none, none, none, none, none, none, none, none, none] (by kernel_rfl) fun _ _ g r => ?_
   obtain ⟨v4, h3, h4, h5, hF⟩ := idx_elim hF
   have h5_ := get_of h5
   try simp at h5_
   have h4_ := h4
   try simp at h4_
   obtain ⟨v5, h6, h7, h8, hF⟩ := idx_elim hF
   have h8_ := get_of h8
   try simp at h8_
   have h7_ := h7
   try simp at h7_
   have F3 := And.intro F2 (And.intro h3 (And.intro h4 (And.intro h5 (And.intro h5_ (And.intro h4_ (And.intro h6 (And.intro h7 (And.intro h8 (And.intro h8_ h7_)))))))))
   try simp [F3]
   and_intros
   any_goals first | exact g _ (by kernel_rfl) | refine r _ _ _ ?_ | omega | (simp [maxLen, F3] <;> omega)
   refine AW.wk [(0, Lz v0), (1, Lz v1), (5, Iz v3), (25, AV.bool (v4 != v5))] [] 0 (by simp [F3]) (by simp [F3]) (by simp) ?_
   by_cases h9 : v4 ≠ v5
   ·replace hF := ite_t h9 hF
    have h9_ := eqb_f h9
    have h9__ := neb_t h9
    have F4 := And.intro F3 (And.intro h9 (And.intro h9_ h9__))
    refine AW.condT (by decide) (by first | (simp [F4] <;> omega)) ?_
    refine AW.seqR mixed [] [none] (by kernel_rfl) fun _ _ g r => ?_
    try simp [F4]
    and_intros
    any_goals first | exact g _ (by kernel_rfl) | refine r _ _ _ ?_ | omega | (simp [maxLen, F4] <;> omega)
    refine AW.wk [(4, AV.bool false)] [] 0 (by simp [F4]) (by simp [F4]) (by simp) ?_
    simp only [Option.some.injEq] at hF
    subst hF
    refine AW.ret (hQ _ _ _ ?_ (matchO_0 ?_)).1
    ·simp [Try.f32, F4]
    ·simp [F4]
   ·replace hF := ite_f h9 hF
    have h9q : v4 = v5 := Classical.not_not.1 h9
    have h9_ := eqb_t h9q
    have h9__ := neb_f h9q
    have F5 := And.intro F3 (And.intro h9_ h9__)
    refine AW.condF (by decide) (by first | (simp [F5] <;> omega)) ?_
    refine AW.skip ?_
    refine hK164 _ _ _ ?_
    refine AW.region mixed [] [none, none, none] (by kernel_rfl) fun _ _ g r => ?_
    try simp [F5]
    and_intros
    any_goals first | exact g _ (by kernel_rfl) | refine r _ _ _ ?_ | omega | (simp [maxLen, F5] <;> omega)
    refine hK158 _ _ _ ?_
    refine Can.weak [(0, Lz v0), (1, Lz v1), (5, Iz (IntKind.wrap .i64 (v3 + 1)))] [] 0 (by simp [F5]) (by simp [F5]) (by simp) ?_
    exact Can.next (k' := n1) (IntKind.wrap .i64 (v3 + 1)) (by omega) hF (by simp [F5]) (by simp [F5]) (by simp)
  ·replace hF := ite_f h2 hF
   have h2_ := h2
   try simp at h2_
   have F6 := And.intro h1_ (And.intro h1__ (And.intro h2 h2_))
   refine AW.condF (by decide) (by first | (simp [F6] <;> omega)) ?_
   refine AW.exit ?_
   try simp
   refine hK129 _ _ _ ?_
   refine AW.seqR mixed [] [none] (by kernel_rfl) fun _ _ g r => ?_
   try simp [F6]
   and_intros
   any_goals first | exact g _ (by kernel_rfl) | refine r _ _ _ ?_ | omega | (simp [maxLen, F6] <;> omega)
   refine AW.wk [(4, AV.bool true)] [] 0 (by simp [F6]) (by simp [F6]) (by simp) ?_
   simp only [Option.some.injEq] at hF
   subst hF
   refine AW.ret (hQ _ _ _ ?_ (matchO_0 ?_)).1
   ·simp [Try.f32, F6]
   ·simp [F6]
set_option maxHeartbeats 4000000 in
theorem w_guardian_All (k : Nat) (v0 : (List api_Statement)) (v1 : (List api_Guard)) (hF : guardian_All k v0 = some v1) :
  FCall Try.prog 29 [AV.lst false false (List.map api_Statement.av v0)] [] (AV.slc 0 0 3 v1.length false) [some (.grow (flatA (List.map api_Guard.av v1)))] := by
 unfold guardian_All at hF
 refine FCall.enter Try.func29 rfl (by simp) (by decide) (by simp) (by simp) (by simp) (by simp) (by simp) ?_
 intro c0 w0 Q h0 hQ
 refine AW.wk [(0, AV.lst false false (List.map api_Statement.av v0))] [] 0 (by simp) (by simp) (by simp) ?_
 refine AW.seqR mixed [] [none] (by kernel_rfl) fun _ _ g r => ?_
 try simp
 and_intros
 any_goals first | exact g _ (by kernel_rfl) | refine r _ _ _ ?_ | omega | (simp [maxLen] <;> omega)
 refine AW.wk [(0, AV.lst false false (List.map api_Statement.av v0))] [] 0 (by simp) (by simp) (by simp) ?_
 refine AW.seqR mixed [] [none, none] (by kernel_rfl) fun _ _ g r => ?_
 try simp
 and_intros
 any_goals first | exact g _ (by kernel_rfl) | refine r _ _ _ ?_ | omega | (simp [maxLen] <;> omega)
 refine AW.wk [(0, AV.lst false false (List.map api_Statement.av v0)), (3, AV.map 0)] [(0, .mp (mpA (AV.int .i64) api_Guard.av ([] : (List (Int × api_Guard)))))] 1 (by simp) (by simp) (by simp) ?_
 refine AW.seq fun K275 hK275 => ?_
 refine AW.seqR mixed [] [none, none, none] (by kernel_rfl) fun _ _ g r => ?_
 try simp
 and_intros
 any_goals first | exact g _ (by kernel_rfl) | refine r _ _ _ ?_ | omega | (simp [maxLen] <;> omega)
 refine AW.wk [(3, AV.map 0), (13, AV.lst false false (List.map api_Statement.av v0)), (14, Iz (v0.length : Int)), (15, Iz 0)] [(0, .mp (mpA (AV.int .i64) api_Guard.av ([] : (List (Int × api_Guard)))))] 1 (by simp) (by simp) (by simp) ?_
 refine AW.block ?_
 refine AW.loopF (α := (Int × (List (Int × api_Guard)))) (fun n (v2, v3) => guardian_All.L1 k v0 n v2 v3 = some v1) (fun (v2, v3) => [(3, AV.map 0), (13, AV.lst false false (List.map api_Statement.av v0)), (14, Iz (v0.length : Int)), (15, Iz v2)]) (fun (v2, v3) => [(0, .mp (mpA (AV.int .i64) api_Guard.av v3))]) 1 k ((0, ([] : (List (Int × api_Guard))))) hF (by simp) (by simp) (by simp) ?_
 rintro (_|n1) ⟨v2, v3⟩ hF K313 hK313
 ·try dsimp only at hF
  rw [guardian_All.L1] at hF; cases hF
 try dsimp only at hF
 rw [guardian_All.L1] at hF
 refine AW.seqR mixed [] [none] (by kernel_rfl) fun _ _ g r => ?_
 try simp
 and_intros
 any_goals first | exact g _ (by kernel_rfl) | refine r _ _ _ ?_ | omega | (simp [maxLen] <;> omega)
 refine AW.wk [(3, AV.map 0), (13, AV.lst false false (List.map api_Statement.av v0)), (14, Iz (v0.length : Int)), (15, Iz v2), (16, AV.bool (decide (v2 < (v0.length : Int))))] [(0, .mp (mpA (AV.int .i64) api_Guard.av v3))] 1 (by simp) (by simp) (by simp) ?_
 refine AW.seq fun K315 hK315 => ?_
 by_cases h1 : v2 < (v0.length : Int)
 ·replace hF := ite_t h1 hF
  have h1_ := h1
  try simp at h1_
  refine AW.condT (by decide) (by first | (simp [h1, h1_] <;> omega)) ?_
  refine AW.skip ?_
  refine hK315 _ _ _ ?_
  refine AW.midF (α := (List (Int × api_Guard))) (fun v4 => guardian_All.J2 k v2 (fun v2_ v3_ => guardian_All.L1 k v0 n1 v2_ v3_) v4 = some v1) (fun v4 => [(3, AV.map 0), (13, AV.lst false false (List.map api_Statement.av v0)), (14, Iz (v0.length : Int)), (15, Iz v2)]) (fun v4 => [(0, .mp (mpA (AV.int .i64) api_Guard.av v4))]) 1 (fun K321 hK321 => ?_) ?_
  ·refine AW.block ?_
   refine AW.seqR mixed [] [none, none, none, none] (by kernel_rfl) fun _ _ g r => ?_
   obtain ⟨v5, h2, h3, h4, hF⟩ := idx_elim hF
   have h4_ := get_of h4
   try simp at h4_
   have h3_ := h3
   try simp at h3_
   have F1 := And.intro h1 (And.intro h1_ (And.intro h2 (And.intro h3 (And.intro h4 (And.intro h4_ h3_)))))
   try simp [F1]
   and_intros
   any_goals first | exact g _ (by kernel_rfl) | refine r _ _ _ ?_ | omega | (simp [maxLen, F1] <;> omega)
   refine AW.wk [(3, AV.map 0), (5, AV.ptr 1 0), (13, AV.lst false false (List.map api_Statement.av v0)), (14, Iz (v0.length : Int)), (15, Iz v2)] [(0, .mp (mpA (AV.int .i64) api_Guard.av v3)), (1, .cells [Iz v5.Author, Iz v5.Number, AV.str v5.Prev, Iz v5.Time, Iz v5.Kind, Iz v5.A, Iz v5.B, Iz v5.C, AV.lst false false (List.map (AV.int .i64) v5.Lst), AV.lst false false (List.map api_Pin.av v5.Pins), AV.str v5.Body, Iz v5.Seal_Key, AV.str v5.Seal_Digest])] 2 (by simp [F1]) (by simp [F1]) (by simp) ?_
   refine AW.seqR mixed [] [none, none, none, none, none, none, none, none] (by kernel_rfl) fun _ _ g r => ?_
   try simp [F1]
   and_intros
   try any_goals first | omega | (simp [maxLen, F1] <;> omega)
   obtain ⟨v6, v7, v8, v9, h5, hF⟩ := bnd4_elim hF
   refine aCall_l (w_guardian_Of k _ _ _ _ _ _ _ _ _ _ _ _ _ _ _ _ _ h5) (by simp) [] [] [] rfl (.cons (.same (by simp [F1])) .nil) (by simp [F1]) (by decide) (by simp) (by simp) (.inl rfl) (by simp) (by simp) ?_
   try simp [F1]
   and_intros
   any_goals first | exact g _ (by kernel_rfl) | refine r _ _ _ ?_ | omega | (simp [maxLen, F1] <;> omega)
   refine AW.wk [(3, AV.map 0), (6, AV.ptr 2 0), (7, Iz v9), (13, AV.lst false false (List.map api_Statement.av v0)), (14, Iz (v0.length : Int)), (15, Iz v2)] [(0, .mp (mpA (AV.int .i64) api_Guard.av v3)), (2, .cells [Iz v6, Iz v7, Lz v8])] 3 (by simp [F1]) (by simp [F1]) (by simp) ?_
   refine AW.seqR mixed [] [none, none] (by kernel_rfl) fun _ _ g r => ?_
   try simp [F1]
   and_intros
   any_goals first | exact g _ (by kernel_rfl) | refine r _ _ _ ?_ | omega | (simp [maxLen, F1] <;> omega)
   refine AW.wk [(3, AV.map 0), (6, AV.ptr 2 0), (13, AV.lst false false (List.map api_Statement.av v0)), (14, Iz (v0.length : Int)), (15, Iz v2), (25, AV.bool (v9 == 0))] [(0, .mp (mpA (AV.int .i64) api_Guard.av v3)), (2, .cells [Iz v6, Iz v7, Lz v8])] 3 (by simp [F1]) (by simp [F1]) (by simp) ?_
   by_cases h6 : v9 = 0
   ·replace hF := ite_t h6 hF
    have h6q : v9 = 0 := h6
    have h6_ := eqb_t h6q
    have h6__ := neb_f h6q
    have F2 := And.intro F1 (And.intro h6_ (And.intro h6__ h6q))
    refine AW.condT (by decide) (by first | (simp [F2] <;> omega)) ?_
    refine AW.region mixed [] [none, none, none, none, none] (by kernel_rfl) fun _ _ g r => ?_
    try simp [F2]
    and_intros
    any_goals first | exact g _ (by kernel_rfl) | refine r _ _ _ ?_ | omega | (simp [maxLen, F2] <;> omega)
    refine hK321 _ _ _ ?_
    refine Can.weak [(3, AV.map 0), (13, AV.lst false false (List.map api_Statement.av v0)), (14, Iz (v0.length : Int)), (15, Iz v2)] [(0, .mp (mpA (AV.int .i64) api_Guard.av (mput v3 v6 (api_Guard.mk v6 v7 v8))))] 3 (by simp [F2]) (by simp [F2]) (by simp) ?_
    refine Can.ren (m := 0) h0 [(0, 0)] [(3, AV.map 0), (13, AV.lst false false (List.map api_Statement.av v0)), (14, Iz (v0.length : Int)), (15, Iz v2)] [(0, .mp (mpA (AV.int .i64) api_Guard.av (mput v3 v6 (api_Guard.mk v6 v7 v8))))] 1 (by decide) (by decide) (by decide) rfl (by simp [F2]) (by simp [F2]) ?_
    exact Can.join (mput v3 v6 (api_Guard.mk v6 v7 v8)) hF (by simp [F2]) (by simp [F2]) (by simp)
   ·replace hF := ite_f h6 hF
    have h6_ := eqb_f h6
    have h6__ := neb_t h6
    have F3 := And.intro F1 (And.intro h6 (And.intro h6_ h6__))
    refine AW.condF (by decide) (by first | (simp [F3] <;> omega)) ?_
    refine AW.skip ?_
    refine hK321 _ _ _ ?_
    refine Can.ren (m := 0) h0 [(0, 0)] [(3, AV.map 0), (13, AV.lst false false (List.map api_Statement.av v0)), (14, Iz (v0.length : Int)), (15, Iz v2)] [(0, .mp (mpA (AV.int .i64) api_Guard.av v3))] 1 (by decide) (by decide) (by decide) rfl (by simp [F3]) (by simp [F3]) ?_
    exact Can.join (v3) hF (by simp [F3]) (by simp [F3]) (by simp)
  ·rintro v4 hF
   try dsimp only at hF
   unfold guardian_All.J2 at hF
   refine AW.region mixed [] [none, none] (by kernel_rfl) fun _ _ g r => ?_
   try simp [h1, h1_]
   and_intros
   any_goals first | exact g _ (by kernel_rfl) | refine r _ _ _ ?_ | omega | (simp [h1, h1_, maxLen] <;> omega)
   refine hK313 _ _ _ ?_
   refine Can.weak [(3, AV.map 0), (13, AV.lst false false (List.map api_Statement.av v0)), (14, Iz (v0.length : Int)), (15, Iz (IntKind.wrap .i64 (v2 + 1)))] [(0, .mp (mpA (AV.int .i64) api_Guard.av v4))] 1 (by simp [h1, h1_]) (by simp [h1, h1_]) (by simp) ?_
   exact Can.next (k' := n1) ((IntKind.wrap .i64 (v2 + 1), v4)) (by omega) hF (by simp [h1, h1_]) (by simp [h1, h1_]) (by simp)
 ·replace hF := ite_f h1 hF
  have h1_ := h1
  try simp at h1_
  refine AW.condF (by decide) (by first | (simp [h1, h1_] <;> omega)) ?_
  refine AW.exit ?_
  try simp
  refine hK275 _ _ _ ?_
  refine AW.seqR mixed [] [none] (by kernel_rfl) fun _ _ g r => ?_
  try simp [h1, h1_]
  and_intros
  any_goals first | exact g _ (by kernel_rfl) | refine r _ _ _ ?_ | omega | (simp [h1, h1_, maxLen] <;> omega)
  refine AW.wk [(3, AV.map 0), (8, AV.lst true true (List.map api_Guard.av ([] : List api_Guard)))] [(0, .mp (mpA (AV.int .i64) api_Guard.av v3))] 1 (by simp [h1, h1_]) (by simp [h1, h1_]) (by simp) ?_
  refine AW.seq fun K385 hK385 => ?_
  refine AW.seqR mixed [] [none] (by kernel_rfl) fun _ _ g r => ?_
  try simp [h1, h1_]
  and_intros
  any_goals first | exact g _ (by kernel_rfl) | refine r _ _ _ ?_ | omega | (simp [h1, h1_, maxLen] <;> omega)
  refine AW.wk [(3, AV.map 0), (8, AV.lst true true (List.map api_Guard.av ([] : List api_Guard))), (31, Iz 0)] [(0, .mp (mpA (AV.int .i64) api_Guard.av v3))] 1 (by simp [h1, h1_]) (by simp [h1, h1_]) (by simp) ?_
  refine AW.block ?_
  refine AW.own' 8 3 true (by simp [h1, h1_]) (by decide) ?_
  refine AW.loopF (α := (Int × (List api_Guard))) (fun n (v10, v11) => guardian_All.L3 k v3 n v10 v11 = some v1) (fun (v10, v11) => [(3, AV.map 0), (8, AV.slc 1 0 3 v11.length false), (31, Iz v10)]) (fun (v10, v11) => [(0, .mp (mpA (AV.int .i64) api_Guard.av v3)), (1, .grow (flatA (List.map api_Guard.av v11)))]) 2 k ((0, ([] : List api_Guard))) hF (by simp [h1, h1_]) (by simp [h1, h1_]) (by simp) ?_
  rintro (_|n3) ⟨v10, v11⟩ hF K429 hK429
  ·try dsimp only at hF
   rw [guardian_All.L3] at hF; cases hF
  try dsimp only at hF
  rw [guardian_All.L3] at hF
  refine AW.seqR mixed [] [none] (by kernel_rfl) fun _ _ g r => ?_
  try simp [h1, h1_]
  and_intros
  any_goals first | exact g _ (by kernel_rfl) | refine r _ _ _ ?_ | omega | (simp [h1, h1_, maxLen] <;> omega)
  refine AW.wk [(3, AV.map 0), (8, AV.slc 1 0 3 v11.length false), (31, Iz v10), (32, AV.bool (decide (v10 < 64)))] [(0, .mp (mpA (AV.int .i64) api_Guard.av v3)), (1, .grow (flatA (List.map api_Guard.av v11)))] 2 (by simp [h1, h1_]) (by simp [h1, h1_]) (by simp) ?_
  refine AW.seq fun K431 hK431 => ?_
  by_cases h7 : v10 < 64
  ·replace hF := ite_t h7 hF
   have h7_ := h7
   try simp at h7_
   have F4 := And.intro h1 (And.intro h1_ (And.intro h7 h7_))
   refine AW.condT (by decide) (by first | (simp [F4] <;> omega)) ?_
   refine AW.skip ?_
   refine hK431 _ _ _ ?_
   refine AW.midF (α := (List api_Guard)) (fun v12 => guardian_All.J4 k v10 (fun v10_ v11_ => guardian_All.L3 k v3 n3 v10_ v11_) v12 = some v1) (fun v12 => [(3, AV.map 0), (8, AV.slc 1 0 3 v12.length false), (31, Iz v10)]) (fun v12 => [(0, .mp (mpA (AV.int .i64) api_Guard.av v3)), (1, .grow (flatA (List.map api_Guard.av v12)))]) 2 (fun K438 hK438 => ?_) ?_
   ·refine AW.block ?_
    refine AW.seqR mixed [] [none, none] (by kernel_rfl) fun _ _ g r => ?_
    try simp [F4]
    and_intros
    any_goals first | exact g _ (by kernel_rfl) | refine r _ _ _ ?_ | omega | (simp [maxLen, F4] <;> omega)
    refine AW.wk [(3, AV.map 0), (8, AV.slc 1 0 3 v11.length false), (9, Iz v10), (31, Iz v10)] [(0, .mp (mpA (AV.int .i64) api_Guard.av v3)), (1, .grow (flatA (List.map api_Guard.av v11)))] 2 (by simp [F4]) (by simp [F4]) (by simp) ?_
    refine AW.midF (α := (Int × Int × (List Int) × Bool)) (fun (v13, v14, v15, v16) => guardian_All.J5 k v10 v11 (fun v10_ v11_ => guardian_All.L3 k v3 n3 v10_ v11_) v13 v14 v15 v16 = some v1) (fun (v13, v14, v15, v16) => [(3, AV.map 0), (8, AV.slc 1 0 3 v11.length false), (10, AV.ptr 2 0), (11, AV.bool v16), (31, Iz v10)]) (fun (v13, v14, v15, v16) => [(0, .mp (mpA (AV.int .i64) api_Guard.av v3)), (1, .grow (flatA (List.map api_Guard.av v11))), (2, .cells [Iz v13, Iz v14, Lz v15])]) 3 (fun K443 hK443 => ?_) ?_
    ·refine AW.region mixed [] [none, none, none, none, none, none, none, none, none] (by kernel_rfl) fun _ _ g r => ?_
     rcases opt2_elim hF with ⟨v17, h10, hF⟩ | ⟨h11, hF⟩
     ·have F5 := And.intro F4 h10
      try simp [F5]
      and_intros
      any_goals first | exact g _ (by kernel_rfl) | refine r _ _ _ ?_ | omega | (simp [maxLen, F5] <;> omega)
      refine hK443 _ _ _ ?_
      refine Can.weak [(3, AV.map 0), (8, AV.slc 1 0 3 v11.length false), (10, AV.ptr 2 0), (11, AV.bool true), (31, Iz v10)] [(0, .mp (mpA (AV.int .i64) api_Guard.av v3)), (1, .grow (flatA (List.map api_Guard.av v11))), (2, .cells [Iz v17.Owner, Iz v17.Need, AV.lst false false (List.map (AV.int .i64) v17.Guardians)])] 3 (by simp [F5]) (by simp [F5]) (by simp) ?_
      exact Can.join ((v17.Owner, v17.Need, v17.Guardians, true)) hF (by simp [F5]) (by simp [F5]) (by simp)
     ·have F6 := And.intro F4 h11
      try simp [F6]
      and_intros
      any_goals first | exact g _ (by kernel_rfl) | refine r _ _ _ ?_ | omega | (simp [maxLen, F6] <;> omega)
      refine hK443 _ _ _ ?_
      refine Can.weak [(3, AV.map 0), (8, AV.slc 1 0 3 v11.length false), (10, AV.ptr 2 0), (11, AV.bool false), (31, Iz v10)] [(0, .mp (mpA (AV.int .i64) api_Guard.av v3)), (1, .grow (flatA (List.map api_Guard.av v11))), (2, .cells [Iz 0, Iz 0, AV.lst true true (List.map (AV.int .i64) ([] : List Int))])] 3 (by simp [F6]) (by simp [F6]) (by simp) ?_
      refine Can.flg [] [(2, .cells [Iz 0, Iz 0, AV.lst false false (List.map (AV.int .i64) ([] : List Int))])] trivial ⟨⟨AObj.cells [Iz 0, Iz 0, AV.lst true true (List.map (AV.int .i64) ([] : List Int))], by simp [F6], (.mk (.cons (.same _) (.cons (.same _) (.cons (.lst (by simp)) .nil))))⟩, trivial⟩ (by simp) ?_
      exact Can.join ((0, 0, ([] : List Int), false)) hF (by simp [F6]) (by simp [F6]) (by simp)
    ·rintro ⟨v13, v14, v15, v16⟩ hF
     try dsimp only at hF
     unfold guardian_All.J5 at hF
     refine AW.seqR mixed [] [none] (by kernel_rfl) fun _ _ g r => ?_
     try simp [F4]
     and_intros
     any_goals first | exact g _ (by kernel_rfl) | refine r _ _ _ ?_ | omega | (simp [maxLen, F4] <;> omega)
     refine AW.wk [(3, AV.map 0), (8, AV.slc 1 0 3 v11.length false), (10, AV.ptr 2 0), (31, Iz v10), (40, AV.bool v16)] [(0, .mp (mpA (AV.int .i64) api_Guard.av v3)), (1, .grow (flatA (List.map api_Guard.av v11))), (2, .cells [Iz v13, Iz v14, Lz v15])] 3 (by simp [F4]) (by simp [F4]) (by simp) ?_
     by_cases h8 : v16 = true
     ·replace hF := ite_t h8 hF
      have h8_ := h8
      try simp at h8_
      have F7 := And.intro F4 (And.intro h8 h8_)
      refine AW.condT (by decide) (by first | (simp [F7] <;> omega)) ?_
      refine AW.region mixed [] [none, none, none, none, none] (by kernel_rfl) fun _ _ g r => ?_
      obtain ⟨h9, hF⟩ := chk_elim hF
      have h9_ := h9
      try simp at h9_
      have F8 := And.intro F7 h9
      try simp [F8]
      and_intros
      any_goals first | exact g _ (by kernel_rfl) | refine r _ _ _ ?_ | omega | (simp [maxLen, F8] <;> omega)
      refine hK438 _ _ _ ?_
      refine Can.weak [(3, AV.map 0), (8, AV.slc 3 0 3 ((v11 ++ ([(api_Guard.mk v13 v14 v15)] : List api_Guard)).length) false), (31, Iz v10)] [(0, .mp (mpA (AV.int .i64) api_Guard.av v3)), (3, .grow (flatA (List.map api_Guard.av (v11 ++ ([(api_Guard.mk v13 v14 v15)] : List api_Guard)))))] 4 (by simp [F8] <;> omega) (by simp [F8]) (by simp) ?_
      refine Can.ren (m := 0) h0 [(0, 0), (1, 3)] [(3, AV.map 0), (8, AV.slc 1 0 3 ((v11 ++ ([(api_Guard.mk v13 v14 v15)] : List api_Guard)).length) false), (31, Iz v10)] [(0, .mp (mpA (AV.int .i64) api_Guard.av v3)), (1, .grow (flatA (List.map api_Guard.av (v11 ++ ([(api_Guard.mk v13 v14 v15)] : List api_Guard)))))] 2 (by decide) (by decide) (by decide) rfl (by simp [F8]) (by simp [F8]) ?_
      exact Can.join (v11 ++ ([(api_Guard.mk v13 v14 v15)] : List api_Guard)) hF (by simp [F8]) (by simp [F8]) (by simp)
     ·replace hF := ite_f h8 hF
      have h8_ := h8
      try simp at h8_
      have F9 := And.intro F4 (And.intro h8 h8_)
      refine AW.condF (by decide) (by first | (simp [F9] <;> omega)) ?_
      refine AW.skip ?_
      refine hK438 _ _ _ ?_
      refine Can.ren (m := 0) h0 [(0, 0), (1, 1)] [(3, AV.map 0), (8, AV.slc 1 0 3 v11.length false), (31, Iz v10)] [(0, .mp (mpA (AV.int .i64) api_Guard.av v3)), (1, .grow (flatA (List.map api_Guard.av v11)))] 2 (by decide) (by decide) (by decide) rfl (by simp [F9]) (by simp [F9]) ?_
      exact Can.join (v11) hF (by simp [F9]) (by simp [F9]) (by simp)
   ·rintro v12 hF
    try dsimp only at hF
    unfold guardian_All.J4 at hF
    refine AW.region mixed [] [none, none] (by kernel_rfl) fun _ _ g r => ?_
    try simp [F4]
    and_intros
    any_goals first | exact g _ (by kernel_rfl) | refine r _ _ _ ?_ | omega | (simp [maxLen, F4] <;> omega)
    refine hK429 _ _ _ ?_
    refine Can.weak [(3, AV.map 0), (8, AV.slc 1 0 3 v12.length false), (31, Iz (IntKind.wrap .i64 (v10 + 1)))] [(0, .mp (mpA (AV.int .i64) api_Guard.av v3)), (1, .grow (flatA (List.map api_Guard.av v12)))] 2 (by simp [F4]) (by simp [F4]) (by simp) ?_
    exact Can.next (k' := n3) ((IntKind.wrap .i64 (v10 + 1), v12)) (by omega) hF (by simp [F4]) (by simp [F4]) (by simp)
  ·replace hF := ite_f h7 hF
   have h7_ := h7
   try simp at h7_
   have F10 := And.intro h1 (And.intro h1_ (And.intro h7 h7_))
   refine AW.condF (by decide) (by first | (simp [F10] <;> omega)) ?_
   refine AW.exit ?_
   try simp
   refine hK385 _ _ _ ?_
   refine AW.seqR mixed [] [none, none] (by kernel_rfl) fun _ _ g r => ?_
   try simp [F10]
   and_intros
   any_goals first | exact g _ (by kernel_rfl) | refine r _ _ _ ?_ | omega | (simp [maxLen, F10] <;> omega)
   refine AW.wk [(2, AV.slc 1 0 3 v11.length false)] [(1, .grow (flatA (List.map api_Guard.av v11)))] 2 (by simp [F10]) (by simp [F10]) (by simp) ?_
   refine AW.rnm (m := 0) h0 [(0, 1)] [(2, AV.slc 0 0 3 v11.length false)] [(0, .grow (flatA (List.map api_Guard.av v11)))] 1 (by decide) (by decide) (by decide) rfl (by simp [F10]) (by simp [F10]) ?_
   simp only [Option.some.injEq] at hF
   subst hF
   refine AW.ret (hQ _ _ _ ?_ (matchO_0 ?_)).1
   ·simp [Try.f29, F10]
   ·simp [F10]
set_option maxHeartbeats 4000000 in
theorem w_law34_GuardianBack (k : Nat) (v0 : (List Int)) (v1 : Int) (v2 : Bool) (hF : law34_GuardianBack k v0 v1 = some v2) :
  FCall Try.prog 7 [AV.lst false false (List.map (AV.int .i64) v0), AV.int .u8 v1] [] (AV.bool v2) [] := by
 unfold law34_GuardianBack at hF
 refine FCall.enter Try.func7 rfl (by simp) (by decide) (by simp) (by simp) (by simp) (by simp) (by simp) ?_
 intro c0 w0 Q h0 hQ
 refine AW.wk [(0, Lz v0), (1, AV.int .u8 v1)] [] 0 (by simp) (by simp) (by simp) ?_
 refine AW.seqR mixed [] [none] (by kernel_rfl) fun _ _ g r => ?_
 try simp
 and_intros
 any_goals first | exact g _ (by kernel_rfl) | refine r _ _ _ ?_ | omega | (simp [maxLen] <;> omega)
 refine AW.wk [(0, Lz v0), (1, AV.int .u8 v1)] [] 0 (by simp) (by simp) (by simp) ?_
 refine AW.seq fun K23 hK23 => ?_
 refine AW.seqR mixed [] [none, none, none] (by kernel_rfl) fun _ _ g r => ?_
 try simp
 and_intros
 try any_goals first | omega | (simp [maxLen] <;> omega)
 obtain ⟨v3, h1, hF⟩ := bnd1_elim hF
 refine aCall_l (w_mill_Light k _ _ h1) (by simp) [] [] [] rfl (.cons (.same (by simp)) .nil) (by simp) (by decide) (by simp) (by simp) (.inl rfl) (by simp) (by simp) ?_
 try simp
 and_intros
 any_goals first | exact g _ (by kernel_rfl) | refine r _ _ _ ?_ | omega | (simp [maxLen] <;> omega)
 refine AW.wk [(0, Lz v0), (1, AV.int .u8 v1), (16, AV.bool (!v3))] [] 0 (by simp) (by simp) (by simp) ?_
 by_cases h2 : (!v3) = true
 ·replace hF := ite_t h2 hF
  have h2_ := h2
  try simp at h2_
  refine AW.condT (by decide) (by first | (simp [h2, h2_] <;> omega)) ?_
  refine AW.seqR mixed [] [none, none] (by kernel_rfl) fun _ _ g r => ?_
  try simp [h2, h2_]
  and_intros
  try any_goals first | omega | (simp [h2, h2_, maxLen] <;> omega)
  obtain ⟨v4, h3, hF⟩ := bnd1_elim hF
  refine aCall_l (w_law34_awake k _ h3) (by simp) [] [] [] rfl .nil (by simp [h2, h2_]) (by decide) (by simp) (by simp) (.inl rfl) (by simp) (by simp) ?_
  try simp [h2, h2_]
  and_intros
  any_goals first | exact g _ (by kernel_rfl) | refine r _ _ _ ?_ | omega | (simp [h2, h2_, maxLen] <;> omega)
  refine AW.wk [(4, AV.bool v4)] [] 0 (by simp [h2, h2_]) (by simp [h2, h2_]) (by simp) ?_
  simp only [Option.some.injEq] at hF
  subst hF
  refine AW.ret (hQ _ _ _ ?_ (matchO_0 ?_)).1
  ·simp [Try.f7, h2, h2_]
  ·simp [h2, h2_]
 ·replace hF := ite_f h2 hF
  have h2_ := h2
  try simp at h2_
  refine AW.condF (by decide) (by first | (simp [h2, h2_] <;> omega)) ?_
  refine AW.skip ?_
  refine hK23 _ _ _ ?_
  refine AW.seqR mixed [] [none, none, none] (by kernel_rfl) fun _ _ g r => ?_
  try simp [h2, h2_]
  and_intros
  try any_goals first | omega | (simp [h2, h2_, maxLen] <;> omega)
  obtain ⟨v5, v6, h4, hF⟩ := bnd2_elim hF
  refine aCall_l (w_mill_Roll k _ _ _ h4) (by simp) [] [] [] rfl (.cons (.same (by simp [h2, h2_])) .nil) (by simp [h2, h2_]) (by decide) (by simp) (by simp) (.inl rfl) (by simp) (by simp) ?_
  try simp [h2, h2_]
  and_intros
  any_goals first | exact g _ (by kernel_rfl) | refine r _ _ _ ?_ | omega | (simp [h2, h2_, maxLen] <;> omega)
  refine AW.wk [(1, AV.int .u8 v1), (5, AV.ptr 0 0)] [(0, .cells [Lz v5, Iz v6])] 1 (by simp [h2, h2_]) (by simp [h2, h2_]) (by simp) ?_
  refine AW.seqR mixed [] [none, none, none, none] (by kernel_rfl) fun _ _ g r => ?_
  try simp [h2, h2_]
  and_intros
  try any_goals first | omega | (simp [h2, h2_, maxLen] <;> omega)
  obtain ⟨v7, v8, v9, v10, h5, hF⟩ := bnd4_elim hF
  refine aCall_l (w_law34_guard k _ _ _ _ _ _ h5) (by simp) [0] [] [0] rfl (.cons (.same (by simp [h2, h2_])) .nil) (by simp [h2, h2_]) (by decide) (by simp) (by simp) (.inl rfl) (by simp) (by simp) ?_
  try simp [h2, h2_]
  and_intros
  any_goals first | exact g _ (by kernel_rfl) | refine r _ _ _ ?_ | omega | (simp [h2, h2_, maxLen] <;> omega)
  refine AW.wk [(1, AV.int .u8 v1), (6, AV.ptr 1 0)] [(1, .cells [Iz v7, Iz v8, Lz v9])] 2 (by simp [h2, h2_]) (by simp [h2, h2_]) (by simp) ?_
  refine AW.seqR mixed [] [none, none, none, none, none, none, none, none] (by kernel_rfl) fun _ _ g r => ?_
  try simp [h2, h2_]
  and_intros
  try any_goals first | omega | (simp [h2, h2_, maxLen] <;> omega)
  obtain ⟨v11, v12, v13, v14, v15, v16, v17, h6, hF⟩ := bnd7_elim hF
  refine aCall_l (w_guardian_Draft k _ _ _ _ _ _ _ _ _ _ h6) (by simp) [] [] [] rfl (.cons (.same (by simp [h2, h2_])) .nil) (by simp [h2, h2_]) (by decide) (by simp) (by simp) (.inl rfl) (by simp) (by simp) ?_
  try simp [h2, h2_]
  and_intros
  any_goals first | exact g _ (by kernel_rfl) | refine r _ _ _ ?_ | omega | (simp [h2, h2_, maxLen] <;> omega)
  refine AW.wk [(1, AV.int .u8 v1), (6, AV.ptr 1 0), (7, AV.ptr 2 0), (8, Iz v17)] [(1, .cells [Iz v7, Iz v8, Lz v9]), (2, .cells [Iz v11, Iz v12, Iz v13, Iz v14, Lz v15, AV.lst false false (List.map api_Pin.av v16)])] 3 (by simp [h2, h2_]) (by simp [h2, h2_]) (by simp) ?_
  refine AW.seq fun K31 hK31 => ?_
  refine AW.seqR mixed [] [none, none, none] (by kernel_rfl) fun _ _ g r => ?_
  try simp [h2, h2_]
  and_intros
  try any_goals first | omega | (simp [h2, h2_, maxLen] <;> omega)
  obtain ⟨v18, h7, hF⟩ := bnd1_elim hF
  refine aCall_l (w_guardian_Valid k _ _ _ _ h7) (by simp) [] [] [] rfl (.cons (.same (by simp [h2, h2_])) .nil) (by simp [h2, h2_]) (by decide) (by simp) (by simp) (.inl rfl) (by simp) (by simp) ?_
  try simp [h2, h2_]
  and_intros
  any_goals first | exact g _ (by kernel_rfl) | refine r _ _ _ ?_ | omega | (simp [h2, h2_, maxLen] <;> omega)
  refine AW.wk [(1, AV.int .u8 v1), (6, AV.ptr 1 0), (7, AV.ptr 2 0), (8, Iz v17), (29, AV.bool (!v18))] [(1, .cells [Iz v7, Iz v8, Lz v9]), (2, .cells [Iz v11, Iz v12, Iz v13, Iz v14, Lz v15, AV.lst false false (List.map api_Pin.av v16)])] 3 (by simp [h2, h2_]) (by simp [h2, h2_]) (by simp) ?_
  by_cases h8 : (!v18) = true
  ·replace hF := ite_t h8 hF
   have h8_ := h8
   try simp at h8_
   have F1 := And.intro h2 (And.intro h2_ (And.intro h8 h8_))
   refine AW.condT (by decide) (by first | (simp [F1] <;> omega)) ?_
   refine AW.seqR mixed [] [none, none, none, some (32, true), none, none] (by kernel_rfl) fun _ _ g r => ?_
   by_cases h9 : v17 = 47
   ·replace hF := ite_t h9 hF
    have h9q : v17 = 47 := h9
    have h9_ := eqb_t h9q
    have h9__ := neb_f h9q
    have F2 := And.intro F1 (And.intro h9_ (And.intro h9__ h9q))
    try simp [F2]
    and_intros
    try any_goals first | omega | (simp [maxLen, F2] <;> omega)
    obtain ⟨v19, h10, hF⟩ := bnd1_elim hF
    refine aCall_l (w_law34_awake k _ h10) (by simp) [] [] [] rfl .nil (by simp [F2]) (by decide) (by simp) (by simp) (.inl rfl) (by simp) (by simp) ?_
    try simp [F2]
    and_intros
    any_goals first | exact g _ (by kernel_rfl) | refine r _ _ _ ?_ | omega | (simp [maxLen, F2] <;> omega)
    refine AW.wk [(4, AV.bool v19)] [] 3 (by simp [F2]) (by simp [F2]) (by simp) ?_
    simp only [Option.some.injEq] at hF
    subst hF
    refine AW.ret (hQ _ _ _ ?_ (matchO_0 ?_)).1
    ·simp [Try.f7, F2]
    ·simp [F2]
   ·replace hF := ite_f h9 hF
    have h9_ := eqb_f h9
    have h9__ := neb_t h9
    have F3 := And.intro F1 (And.intro h9 (And.intro h9_ h9__))
    try simp [F3]
    and_intros
    any_goals first | exact g _ (by kernel_rfl) | refine r _ _ _ ?_ | omega | (simp [maxLen, F3] <;> omega)
    refine AW.wk [(4, AV.bool false)] [] 3 (by simp [F3]) (by simp [F3]) (by simp) ?_
    simp only [Option.some.injEq] at hF
    subst hF
    refine AW.ret (hQ _ _ _ ?_ (matchO_0 ?_)).1
    ·simp [Try.f7, F3]
    ·simp [F3]
  ·replace hF := ite_f h8 hF
   have h8_ := h8
   try simp at h8_
   have F4 := And.intro h2 (And.intro h2_ (And.intro h8 h8_))
   refine AW.condF (by decide) (by first | (simp [F4] <;> omega)) ?_
   refine AW.skip ?_
   refine hK31 _ _ _ ?_
   refine AW.seqR mixed [] [none, none, none, none, none, none] (by kernel_rfl) fun _ _ g r => ?_
   try simp [F4]
   and_intros
   try any_goals first | omega | (simp [maxLen, F4] <;> omega)
   obtain ⟨v20, h11, hF⟩ := bnd1_elim hF
   refine aCall_l (w_mill_Statement k _ _ _ _ _ _ _ _ _ _ h11) (by simp) [] [] [] rfl (.cons (.same (by simp [F4])) (.cons (.same (by simp [F4])) (.cons (.same (by simp [F4])) (.cons (.same (by simp [F4])) .nil)))) (by simp [F4]) (by decide) (by simp) (by simp) (.inl rfl) (by simp) (by simp) ?_
   try simp [F4]
   and_intros
   any_goals first | exact g _ (by kernel_rfl) | refine r _ _ _ ?_ | omega | (simp [maxLen, F4] <;> omega)
   refine AW.wk [(1, AV.int .u8 v1), (6, AV.ptr 1 0), (8, Iz v17), (9, AV.ptr 3 0)] [(1, .cells [Iz v7, Iz v8, Lz v9]), (3, .cells [Iz v20.Author, Iz v20.Number, AV.str v20.Prev, Iz v20.Time, Iz v20.Kind, Iz v20.A, Iz v20.B, Iz v20.C, AV.lst false false (List.map (AV.int .i64) v20.Lst), AV.lst false false (List.map api_Pin.av v20.Pins), AV.str v20.Body, Iz v20.Seal_Key, AV.str v20.Seal_Digest])] 4 (by simp [F4]) (by simp [F4]) (by simp) ?_
   refine AW.seqR mixed [] [none, none, none, none, none, none, none, none] (by kernel_rfl) fun _ _ g r => ?_
   try simp [F4]
   and_intros
   try any_goals first | omega | (simp [maxLen, F4] <;> omega)
   obtain ⟨v21, v22, v23, v24, h12, hF⟩ := bnd4_elim hF
   refine aCall_l (w_guardian_Of k _ _ _ _ _ _ _ _ _ _ _ _ _ _ _ _ _ h12) (by simp) [] [] [] rfl (.cons (.same (by simp [F4])) .nil) (by simp [F4]) (by decide) (by simp) (by simp) (.inl rfl) (by simp) (by simp) ?_
   try simp [F4]
   and_intros
   any_goals first | exact g _ (by kernel_rfl) | refine r _ _ _ ?_ | omega | (simp [maxLen, F4] <;> omega)
   refine AW.wk [(1, AV.int .u8 v1), (6, AV.ptr 1 0), (8, Iz v17), (9, AV.ptr 3 0), (10, AV.ptr 4 0), (11, Iz v24)] [(1, .cells [Iz v7, Iz v8, Lz v9]), (3, .cells [Iz v20.Author, Iz v20.Number, AV.str v20.Prev, Iz v20.Time, Iz v20.Kind, Iz v20.A, Iz v20.B, Iz v20.C, AV.lst false false (List.map (AV.int .i64) v20.Lst), AV.lst false false (List.map api_Pin.av v20.Pins), AV.str v20.Body, Iz v20.Seal_Key, AV.str v20.Seal_Digest]), (4, .cells [Iz v21, Iz v22, Lz v23])] 5 (by simp [F4]) (by simp [F4]) (by simp) ?_
   refine AW.seqR mixed [] [none, none, none, none, none, none, none, none, none, none, none] (by kernel_rfl) fun _ _ g r => ?_
   try simp [F4]
   and_intros
   any_goals first | exact g _ (by kernel_rfl) | refine r _ _ _ ?_ | omega | (simp [maxLen, F4] <;> omega)
   refine AW.wk [(6, AV.ptr 1 0), (8, Iz v17), (9, AV.ptr 3 0), (10, AV.ptr 4 0), (11, Iz v24)] [(1, .cells [Iz v7, Iz v8, Lz v9]), (3, .cells [Iz v20.Author, Iz v20.Number, AV.str v20.Prev, Iz v20.Time, Iz v20.Kind, Iz v20.A, Iz v20.B, Iz v20.C, AV.lst false false (List.map (AV.int .i64) v20.Lst), AV.lst false false (List.map api_Pin.av v20.Pins), AV.str v20.Body, Iz (Int.tmod (IntKind.wrap .i64 (IntKind.wrap .i64 (v7 + 1) + Int.tmod (IntKind.wrap .i64 v1) 60)) 64), AV.str v20.Seal_Digest]), (4, .cells [Iz v21, Iz v22, Lz v23])] 5 (by simp [F4]) (by simp [F4]) (by simp) ?_
   refine AW.seqR mixed [] [none, none, none, none, none, none, none, none] (by kernel_rfl) fun _ _ g r => ?_
   try simp [F4]
   and_intros
   try any_goals first | omega | (simp [maxLen, F4] <;> omega)
   obtain ⟨v25, v26, v27, v28, h13, hF⟩ := bnd4_elim hF
   refine aCall_l (w_guardian_Of k _ _ _ _ _ _ _ _ _ _ _ _ _ _ _ _ _ h13) (by simp) [] [] [] rfl (.cons (.same (by simp [F4])) .nil) (by simp [F4]) (by decide) (by simp) (by simp) (.inl rfl) (by simp) (by simp) ?_
   try simp [F4]
   and_intros
   any_goals first | exact g _ (by kernel_rfl) | refine r _ _ _ ?_ | omega | (simp [maxLen, F4] <;> omega)
   refine AW.wk [(6, AV.ptr 1 0), (8, Iz v17), (9, AV.ptr 3 0), (10, AV.ptr 4 0), (11, Iz v24), (13, Iz v28)] [(1, .cells [Iz v7, Iz v8, Lz v9]), (3, .cells [Iz v20.Author, Iz v20.Number, AV.str v20.Prev, Iz v20.Time, Iz v20.Kind, Iz v20.A, Iz v20.B, Iz v20.C, AV.lst false false (List.map (AV.int .i64) v20.Lst), AV.lst false false (List.map api_Pin.av v20.Pins), AV.str v20.Body, Iz (Int.tmod (IntKind.wrap .i64 (IntKind.wrap .i64 (v7 + 1) + Int.tmod (IntKind.wrap .i64 v1) 60)) 64), AV.str v20.Seal_Digest]), (4, .cells [Iz v21, Iz v22, Lz v23])] 6 (by simp [F4]) (by simp [F4]) (by simp) ?_
   refine AW.seqR mixed [] [none, none, none, some (61, true), some (61, true), none, none, some (65, true), some (65, true), none, none, some (69, true), some (69, true), some (69, true), some (69, true), some (69, true), none, none, some (76, true), some (76, true), some (76, true), some (76, true), some (76, true), none, none, some (83, true), some (83, true), some (83, true), some (83, true), some (83, true), none, none, some (90, true), some (90, true), some (90, true), some (90, true), some (90, true), none, none, some (97, true), none, none] (by kernel_rfl) fun _ _ g r => ?_
   by_cases h14 : v17 = 0
   ·replace hF := ite_t h14 hF
    have h14q : v17 = 0 := h14
    have h14_ := eqb_t h14q
    have h14__ := neb_f h14q
    by_cases h15 : v24 = 0
    ·replace hF := ite_t h15 hF
     have h15q : v24 = 0 := h15
     have h15_ := eqb_t h15q
     have h15__ := neb_f h15q
     by_cases h16 : v28 = 47
     ·replace hF := ite_t h16 hF
      have h16q : v28 = 47 := h16
      have h16_ := eqb_t h16q
      have h16__ := neb_f h16q
      by_cases h17 : v21 = v7
      ·replace hF := ite_t h17 hF
       have h17q : v21 = v7 := h17
       have h17_ := eqb_t h17q
       have h17__ := neb_f h17q
       by_cases h18 : v22 = v8
       ·replace hF := ite_t h18 hF
        have h18q : v22 = v8 := h18
        have h18_ := eqb_t h18q
        have h18__ := neb_f h18q
        have F5 := And.intro F4 (And.intro h14_ (And.intro h14__ (And.intro h14q (And.intro h15_ (And.intro h15__ (And.intro h15q (And.intro h16_ (And.intro h16__ (And.intro h16q (And.intro h17_ (And.intro h17__ (And.intro h18_ h18__))))))))))))
        try simp [F5]
        and_intros
        try any_goals first | omega | (simp [maxLen, F5] <;> omega)
        obtain ⟨v29, h19, hF⟩ := bnd1_elim hF
        refine aCall_l (w_ref23_SameInts k _ _ _ h19) (by simp) [] [] [] rfl (.cons (.same (by simp [F5])) (.cons (.same (by simp [F5])) .nil)) (by simp [F5]) (by decide) (by simp) (by simp) (.inl rfl) (by simp) (by simp) ?_
        by_cases h20 : v29 = true
        ·replace hF := ite_t h20 hF
         have h20_ := h20
         try simp at h20_
         have F6 := And.intro F5 (And.intro h20 h20_)
         try simp [F6]
         and_intros
         try any_goals first | omega | (simp [maxLen, F6] <;> omega)
         obtain ⟨v30, h21, hF⟩ := bnd1_elim hF
         refine aCall_l (w_guardian_All k _ _ h21) (by simp) [] [] [] rfl (.cons (Coe.fl (by simp [F6])) .nil) (by simp [F6]) (by decide) (by simp) (by simp) (.inl rfl) (by simp) (by simp) ?_
         by_cases h22 : (v30.length : Int) = 0
         ·replace hF := ite_t h22 hF
          have h22q : (v30.length : Int) = 0 := h22
          have h22_ := eqb_t h22q
          have h22__ := neb_f h22q
          have F7 := And.intro F6 (And.intro h22_ (And.intro h22__ h22q))
          try simp [F7]
          and_intros
          try any_goals first | omega | (simp [maxLen, F7] <;> omega)
          obtain ⟨v31, h23, hF⟩ := bnd1_elim hF
          refine aCall_l (w_law34_awake k _ h23) (by simp) [] [] [] rfl .nil (by simp [F7]) (by decide) (by simp) (by simp) (.inl rfl) (by simp) (by simp) ?_
          try simp [F7]
          and_intros
          any_goals first | exact g _ (by kernel_rfl) | refine r _ _ _ ?_ | omega | (simp [maxLen, F7] <;> omega)
          refine AW.wk [(4, AV.bool v31)] [] 7 (by simp [F7]) (by simp [F7]) (by simp) ?_
          simp only [Option.some.injEq] at hF
          subst hF
          refine AW.ret (hQ _ _ _ ?_ (matchO_0 ?_)).1
          ·simp [Try.f7, F7]
          ·simp [F7]
         ·replace hF := ite_f h22 hF
          have h22_ := eqb_f h22
          have h22__ := neb_t h22
          have F8 := And.intro F6 (And.intro h22 (And.intro h22_ h22__))
          try simp [F8]
          and_intros
          any_goals first | exact g _ (by kernel_rfl) | refine r _ _ _ ?_ | omega | (simp [maxLen, F8] <;> omega)
          refine AW.wk [(4, AV.bool false)] [] 7 (by simp [F8]) (by simp [F8]) (by simp) ?_
          simp only [Option.some.injEq] at hF
          subst hF
          refine AW.ret (hQ _ _ _ ?_ (matchO_0 ?_)).1
          ·simp [Try.f7, F8]
          ·simp [F8]
        ·replace hF := ite_f h20 hF
         have h20_ := h20
         try simp at h20_
         have F9 := And.intro F5 (And.intro h20 h20_)
         try simp [F9]
         and_intros
         any_goals first | exact g _ (by kernel_rfl) | refine r _ _ _ ?_ | omega | (simp [maxLen, F9] <;> omega)
         refine AW.wk [(4, AV.bool false)] [] 6 (by simp [F9]) (by simp [F9]) (by simp) ?_
         simp only [Option.some.injEq] at hF
         subst hF
         refine AW.ret (hQ _ _ _ ?_ (matchO_0 ?_)).1
         ·simp [Try.f7, F9]
         ·simp [F9]
       ·replace hF := ite_f h18 hF
        have h18_ := eqb_f h18
        have h18__ := neb_t h18
        have F10 := And.intro F4 (And.intro h14_ (And.intro h14__ (And.intro h14q (And.intro h15_ (And.intro h15__ (And.intro h15q (And.intro h16_ (And.intro h16__ (And.intro h16q (And.intro h17_ (And.intro h17__ (And.intro h18 (And.intro h18_ h18__)))))))))))))
        try simp [F10]
        and_intros
        any_goals first | exact g _ (by kernel_rfl) | refine r _ _ _ ?_ | omega | (simp [maxLen, F10] <;> omega)
        refine AW.wk [(4, AV.bool false)] [] 6 (by simp [F10]) (by simp [F10]) (by simp) ?_
        simp only [Option.some.injEq] at hF
        subst hF
        refine AW.ret (hQ _ _ _ ?_ (matchO_0 ?_)).1
        ·simp [Try.f7, F10]
        ·simp [F10]
      ·replace hF := ite_f h17 hF
       have h17_ := eqb_f h17
       have h17__ := neb_t h17
       have F11 := And.intro F4 (And.intro h14_ (And.intro h14__ (And.intro h14q (And.intro h15_ (And.intro h15__ (And.intro h15q (And.intro h16_ (And.intro h16__ (And.intro h16q (And.intro h17 (And.intro h17_ h17__)))))))))))
       try simp [F11]
       and_intros
       any_goals first | exact g _ (by kernel_rfl) | refine r _ _ _ ?_ | omega | (simp [maxLen, F11] <;> omega)
       refine AW.wk [(4, AV.bool false)] [] 6 (by simp [F11]) (by simp [F11]) (by simp) ?_
       simp only [Option.some.injEq] at hF
       subst hF
       refine AW.ret (hQ _ _ _ ?_ (matchO_0 ?_)).1
       ·simp [Try.f7, F11]
       ·simp [F11]
     ·replace hF := ite_f h16 hF
      have h16_ := eqb_f h16
      have h16__ := neb_t h16
      have F12 := And.intro F4 (And.intro h14_ (And.intro h14__ (And.intro h14q (And.intro h15_ (And.intro h15__ (And.intro h15q (And.intro h16 (And.intro h16_ h16__))))))))
      try simp [F12]
      and_intros
      any_goals first | exact g _ (by kernel_rfl) | refine r _ _ _ ?_ | omega | (simp [maxLen, F12] <;> omega)
      refine AW.wk [(4, AV.bool false)] [] 6 (by simp [F12]) (by simp [F12]) (by simp) ?_
      simp only [Option.some.injEq] at hF
      subst hF
      refine AW.ret (hQ _ _ _ ?_ (matchO_0 ?_)).1
      ·simp [Try.f7, F12]
      ·simp [F12]
    ·replace hF := ite_f h15 hF
     have h15_ := eqb_f h15
     have h15__ := neb_t h15
     have F13 := And.intro F4 (And.intro h14_ (And.intro h14__ (And.intro h14q (And.intro h15 (And.intro h15_ h15__)))))
     try simp [F13]
     and_intros
     any_goals first | exact g _ (by kernel_rfl) | refine r _ _ _ ?_ | omega | (simp [maxLen, F13] <;> omega)
     refine AW.wk [(4, AV.bool false)] [] 6 (by simp [F13]) (by simp [F13]) (by simp) ?_
     simp only [Option.some.injEq] at hF
     subst hF
     refine AW.ret (hQ _ _ _ ?_ (matchO_0 ?_)).1
     ·simp [Try.f7, F13]
     ·simp [F13]
   ·replace hF := ite_f h14 hF
    have h14_ := eqb_f h14
    have h14__ := neb_t h14
    have F14 := And.intro F4 (And.intro h14 (And.intro h14_ h14__))
    try simp [F14]
    and_intros
    any_goals first | exact g _ (by kernel_rfl) | refine r _ _ _ ?_ | omega | (simp [maxLen, F14] <;> omega)
    refine AW.wk [(4, AV.bool false)] [] 6 (by simp [F14]) (by simp [F14]) (by simp) ?_
    simp only [Option.some.injEq] at hF
    subst hF
    refine AW.ret (hQ _ _ _ ?_ (matchO_0 ?_)).1
    ·simp [Try.f7, F14]
    ·simp [F14]
end Go.TF
