/- Walks: the Go text computes the Lean functions (printed by a program of our own). -/
import Derived.Test.YtjmcidiplbkmpaaNaPu
import Derived.Test.YtjmcidiplbkmpaaNaAbsT
import Derived.Test.YtjmcidiplbkmpaaNaWa0
import Derived.Test.YtjmcidiplbkmpaaNaWa1
set_option linter.unusedVariables false
set_option linter.unusedSimpArgs false
set_option maxRecDepth 100000
set_option maxHeartbeats 4000000
namespace Go.TF
open Go Go.Abs Go.Proofs Go.Proofs.YtjmcidiplbkmpaaNaT
theorem w_flow_Grow (k : Nat) (v0 : Int) (v1 : (List api_Arc)) (v2 : (List Int)) (v3 : (List Int)) (hF : flow_Grow k v0 v1 v2 = some v3) :
  FCall Try.prog 43 [AV.agg [AV.int .i64 v0, AV.lst false false (List.map api_Arc.av v1)], AV.lst false false (List.map (AV.int .i64) v2)] [] (AV.slc 0 0 1 v3.length false) [some (.grow (List.map (AV.int .i64) v3))] := by
 unfold flow_Grow at hF
 refine EN Try.func43 ?_
 intro c0 w0 Q h0 hQ
 refine WK [(0, AV.agg [Iz v0, AV.lst false false (List.map api_Arc.av v1)]), (1, Lz v2)] [] 0 (by simp) (by simp) ?_
 refine SQ [] [none, none] fun _ _ g r => ?_
 try simp
 and_intros <;> first | exact g _ (by kernel_rfl) | refine r _ _ _ ?_ | omega | (simp [maxLen] <;> omega)
 refine WK [(1, Lz v2), (2, AV.ptr 0 0)] [(0, .cells [Iz v0, AV.lst false false (List.map api_Arc.av v1)])] 1 (by simp) (by simp) ?_
 refine SQ [] [none, none, none, none, none, none] fun _ _ g r => ?_
 try simp
 and_intros
 try any_goals first | omega | (simp [maxLen] <;> omega)
 obtain ⟨v4, h1, hF⟩ := bnd1_elim hF
 refine AC (w_slices_Clone_int_int k _ _ h1) (.cons (.same (by simp)) .nil) ?_
 try simp
 and_intros
 try any_goals first | omega | (simp [maxLen] <;> omega)
 obtain ⟨v5, h2, hF⟩ := bnd1_elim hF
 refine aCall_l (w_flow_open k _ _ _ _ h2) (by simp) [1] [] [] rfl (.cons (.same (by simp)) (.cons (.same (by simp)) .nil)) (by simp) (by decide) (by simp) (by simp) (.inl rfl) (by simp) (by simp) ?_
 try simp
 and_intros <;> first | exact g _ (by kernel_rfl) | refine r _ _ _ ?_ | omega | (simp [maxLen] <;> omega)
 refine WK [(5, AV.ptr 2 0)] [(1, .grow (List.map (AV.int .i64) v4)), (2, .cells [Iz v0, AV.lst false false (List.map api_Arc.av v1), AV.slc 1 0 1 v4.length false, AV.lst false false (List.map (sl flow_step.av) v5)])] 3 (by simp) (by simp) ?_
 refine AW.seq fun K46 hK46 => ?_
 refine AW.block ?_
 refine RM h0 [(0, 2), (1, 1)] [(5, AV.ptr 0 0)] [(0, .cells [Iz v0, AV.lst false false (List.map api_Arc.av v1), AV.slc 1 0 1 v4.length false, AV.lst false false (List.map (sl flow_step.av) v5)]), (1, .grow (List.map (AV.int .i64) v4))] 2 (by simp) (by simp) ?_
 refine AW.loopF (α := (List Int)) (fun n v6 => flow_Grow.L1 k v0 v1 v5 n v6 = some v3) (fun v6 => [(5, AV.ptr 0 0)]) (fun v6 => [(0, .cells [Iz v0, AV.lst false false (List.map api_Arc.av v1), AV.slc 1 0 1 v6.length false, AV.lst false false (List.map (sl flow_step.av) v5)]), (1, .grow (List.map (AV.int .i64) v6))]) 2 k (v4) hF (by simp) (by simp) (by simp) ?_
 rintro (_|n1) v6 hF K56 hK56
 ·try dsimp only at hF
  rw [flow_Grow.L1] at hF; cases hF
 try dsimp only at hF
 rw [flow_Grow.L1] at hF
 refine AW.seq fun K58 hK58 => ?_
 refine SQ [] [none, none] fun _ _ g r => ?_
 try simp
 and_intros
 try any_goals first | omega | (simp [maxLen] <;> omega)
 obtain ⟨v7, v8, h3, hF⟩ := bnd2_elim hF
 obtain ⟨h4, hF⟩ := chk_elim hF
 refine aCall_l (w_flow_residual_push k _ _ _ _ _ _ h3) (by simp) [1] [] [1] rfl (.cons (.same (by simp)) .nil) (by simp) (by decide) (by simp) (by simp) (.inl rfl) (by simp) (by simp) ?_
 try simp [h4]
 and_intros <;> first | exact g _ (by kernel_rfl) | refine r _ _ _ ?_ | omega | (simp [h4, maxLen] <;> omega)
 refine WK [(5, AV.ptr 0 0), (11, AV.bool v7)] [(0, .cells [Iz v0, AV.lst false false (List.map api_Arc.av v1), AV.slc 1 0 1 v8.length false, AV.lst false false (List.map (sl flow_step.av) v5)]), (1, .grow (List.map (AV.int .i64) v8))] 2 (by simp [h4]) (by simp [h4]) ?_
 by_cases h5 : v7 = true
 ·replace hF := ite_t h5 hF
  have h5_ := h5
  try simp at h5_
  have F1 := And.intro h4 (And.intro h5 h5_)
  refine CT (by simp [F1] <;> omega) ?_
  refine AW.skip ?_
  refine hK58 _ _ _ ?_
  refine AW.block ?_
  refine AW.skip ?_
  refine hK56 _ _ _ ?_
  exact NX (k' := n1) (v8) hF (by simp [F1]) (by simp [F1])
 ·replace hF := ite_f h5 hF
  have h5_ := h5
  try simp at h5_
  have F2 := And.intro h4 (And.intro h5 h5_)
  refine CF (by simp [F2] <;> omega) ?_
  refine AW.exit ?_
  try simp
  refine hK46 _ _ _ ?_
  refine SQ [] [none, none, none] fun _ _ g r => ?_
  try simp [F2]
  and_intros <;> first | exact g _ (by kernel_rfl) | refine r _ _ _ ?_ | omega | (simp [maxLen, F2] <;> omega)
  refine RM h0 [(0, 1)] [(4, AV.slc 0 0 1 v8.length false)] [(0, .grow (List.map (AV.int .i64) v8))] 1 (by simp [F2]) (by simp [F2]) ?_
  simp only [Option.some.injEq] at hF
  subst hF
  refine AW.ret (hQ _ _ _ ?_ (matchO_0 ?_)).1
  ·simp [Try.f43, F2]
  ·simp [F2]
theorem w_flow_Max (k : Nat) (v0 : Int) (v1 : (List api_Arc)) (v2 : (List Int)) (v3 : Int) (hF : flow_Max k v0 v1 = some (v2, v3)) :
  FCall Try.prog 23 [AV.agg [AV.int .i64 v0, AV.lst false false (List.map api_Arc.av v1)]] [] (AV.tup [AV.slc 0 0 1 v2.length false, AV.int .i64 v3]) [some (.grow (List.map (AV.int .i64) v2))] := by
 unfold flow_Max at hF
 refine EN Try.func23 ?_
 intro c0 w0 Q h0 hQ
 refine WK [(0, AV.agg [Iz v0, AV.lst false false (List.map api_Arc.av v1)])] [] 0 (by simp [-List.reduceReplicate, sOf_set, ofI_set, allU8_set]) (by simp [-List.reduceReplicate, sOf_set, ofI_set, allU8_set]) ?_
 refine SQ [] [none, none, none] fun _ _ g r => ?_
 try simp [-List.reduceReplicate, sOf_set, ofI_set, allU8_set]
 and_intros <;> first | exact g _ (by kernel_rfl) | refine r _ _ _ ?_ | omega | (simp [-List.reduceReplicate, sOf_set, ofI_set, allU8_set, maxLen] <;> omega)
 refine WK [(1, AV.ptr 0 0)] [(0, .cells [Iz v0, AV.lst false false (List.map api_Arc.av v1)])] 1 (by simp [-List.reduceReplicate, sOf_set, ofI_set, allU8_set]) (by simp [-List.reduceReplicate, sOf_set, ofI_set, allU8_set]) ?_
 refine AW.seq fun K14 hK14 => ?_
 refine SQ [] [none, none, none] fun _ _ g r => ?_
 try simp [-List.reduceReplicate, sOf_set, ofI_set, allU8_set]
 and_intros
 try any_goals first | omega | (simp [-List.reduceReplicate, sOf_set, ofI_set, allU8_set, maxLen] <;> omega)
 obtain ⟨v4, h1, hF⟩ := bnd1_elim hF
 refine AC (w_flow_Check k _ _ _ h1) (.cons (.same (by simp)) .nil) ?_
 try simp [-List.reduceReplicate, sOf_set, ofI_set, allU8_set]
 and_intros <;> first | exact g _ (by kernel_rfl) | refine r _ _ _ ?_ | omega | (simp [-List.reduceReplicate, sOf_set, ofI_set, allU8_set, maxLen] <;> omega)
 refine WK [(1, AV.ptr 0 0), (4, Iz v4)] [(0, .cells [Iz v0, AV.lst false false (List.map api_Arc.av v1)])] 1 (by simp [-List.reduceReplicate, sOf_set, ofI_set, allU8_set]) (by simp [-List.reduceReplicate, sOf_set, ofI_set, allU8_set]) ?_
 refine SQ [] [none, none] fun _ _ g r => ?_
 try simp [-List.reduceReplicate, sOf_set, ofI_set, allU8_set]
 and_intros <;> first | exact g _ (by kernel_rfl) | refine r _ _ _ ?_ | omega | (simp [-List.reduceReplicate, sOf_set, ofI_set, allU8_set, maxLen] <;> omega)
 refine WK [(1, AV.ptr 0 0), (4, Iz v4), (8, AV.bool (v4 != 0))] [(0, .cells [Iz v0, AV.lst false false (List.map api_Arc.av v1)])] 1 (by simp [-List.reduceReplicate, sOf_set, ofI_set, allU8_set]) (by simp [-List.reduceReplicate, sOf_set, ofI_set, allU8_set]) ?_
 by_cases h2 : v4 ≠ 0
 ·replace hF := ite_t h2 hF
  have h2_ := eqb_f h2
  have h2__ := neb_t h2
  have F1 := And.intro h2 (And.intro h2_ h2__)
  refine CT (by simp [-List.reduceReplicate, sOf_set, ofI_set, allU8_set, F1] <;> omega) ?_
  refine SQ [] [none, none, none] fun _ _ g r => ?_
  try simp [-List.reduceReplicate, sOf_set, ofI_set, allU8_set, F1]
  and_intros <;> first | exact g _ (by kernel_rfl) | refine r _ _ _ ?_ | omega | (simp [-List.reduceReplicate, sOf_set, ofI_set, allU8_set, maxLen, F1] <;> omega)
  refine WK [(2, AV.lst true true (List.map (AV.int .i64) ([] : List Int))), (3, Iz v4)] [] 1 (by simp [-List.reduceReplicate, sOf_set, ofI_set, allU8_set, F1]) (by simp [-List.reduceReplicate, sOf_set, ofI_set, allU8_set, F1]) ?_
  refine AW.own' 2 1 true (by simp [-List.reduceReplicate, sOf_set, ofI_set, allU8_set, F1]) (by decide) ?_
  refine RM h0 [(0, 1)] [(2, AV.slc 0 0 1 (([] : List Int).length) false), (3, Iz v4)] [(0, .grow (List.map (AV.int .i64) ([] : List Int)))] 1 (by simp [-List.reduceReplicate, sOf_set, ofI_set, allU8_set, F1]) (by simp [-List.reduceReplicate, sOf_set, ofI_set, allU8_set, F1]) ?_
  simp only [Option.some.injEq, Prod.mk.injEq] at hF
  obtain ⟨e0, e1⟩ := hF
  subst e0 e1
  refine AW.ret (hQ _ _ _ ?_ (matchO_0 ?_)).1
  ·simp [Try.f23, F1]
  ·simp [F1]
 ·replace hF := ite_f h2 hF
  have h2q : v4 = 0 := Classical.not_not.1 h2
  have h2_ := eqb_t h2q
  have h2__ := neb_f h2q
  refine CF (by simp [-List.reduceReplicate, sOf_set, ofI_set, allU8_set, h2_, h2__, h2q] <;> omega) ?_
  refine AW.skip ?_
  refine hK14 _ _ _ ?_
  refine SQ [] [none, none, none, none, none, none, none, none] fun _ _ g r => ?_
  obtain ⟨h3, hF⟩ := chk_elim hF
  have F2 := And.intro h2_ (And.intro h2__ (And.intro h2q h3))
  try simp [-List.reduceReplicate, sOf_set, ofI_set, allU8_set, F2]
  and_intros
  try any_goals first | omega | (simp [-List.reduceReplicate, sOf_set, ofI_set, allU8_set, maxLen, F2] <;> omega)
  obtain ⟨v5, h4, hF⟩ := bnd1_elim hF
  refine AC (w_flow_Grow k _ _ _ _ h4) (.cons (.same (by simp [-List.reduceReplicate, sOf_set, ofI_set, allU8_set, F2])) (.cons (Coe.fl (by simp [-List.reduceReplicate, sOf_set, ofI_set, allU8_set, F2])) .nil)) ?_
  try simp [-List.reduceReplicate, sOf_set, ofI_set, allU8_set, F2]
  and_intros <;> first | exact g _ (by kernel_rfl) | refine r _ _ _ ?_ | omega | (simp [-List.reduceReplicate, sOf_set, ofI_set, allU8_set, maxLen, F2] <;> omega)
  refine RM h0 [(0, 1)] [(2, AV.slc 0 0 1 v5.length false), (3, Iz 0)] [(0, .grow (List.map (AV.int .i64) v5))] 1 (by simp [-List.reduceReplicate, sOf_set, ofI_set, allU8_set, F2]) (by simp [-List.reduceReplicate, sOf_set, ofI_set, allU8_set, F2]) ?_
  simp only [Option.some.injEq, Prod.mk.injEq] at hF
  obtain ⟨e0, e1⟩ := hF
  subst e0 e1
  refine AW.ret (hQ _ _ _ ?_ (matchO_0 ?_)).1
  ·simp [Try.f23, F2]
  ·simp [F2]
abbrev c_flow_open_v2 (v0 : Int) (v1 : (List api_Arc)) (v2 : (List Int)) : AObj := .cells [Iz v0, AV.lst false false (List.map api_Arc.av v1), Lz v2, AV.slc 2 0 1 v0.toNat true]
theorem w_flow_open_v2 (k : Nat) (v0 : Int) (v1 : (List api_Arc)) (v2 : (List Int)) (v3 : (List (List flow_step))) (hF : flow_open_v2 k v0 v1 v2 = some v3) :
  FCall Try.prog 60 [AV.agg [AV.int .i64 v0, AV.lst false false (List.map api_Arc.av v1)], AV.lst false false (List.map (AV.int .i64) v2)] [] (AV.agg [AV.int .i64 v0, AV.lst false false (List.map api_Arc.av v1), AV.lst false false (List.map (AV.int .i64) v2), AV.lst false false (List.map (sl flow_step.av) v3)]) [] := by
 unfold flow_open_v2 at hF
 try unfold flow_open at hF
 obtain ⟨⟨h1, h2⟩, hF⟩ := chk_elim hF
 refine EN Try.func60 ?_
 intro c0 w0 Q h0 hQ
 refine WK [(0, AV.agg [Iz v0, AV.lst false false (List.map api_Arc.av v1)]), (1, Lz v2)] [] 0 (by simp) (by simp) ?_
 refine SQ [] [none, none] fun _ _ g r => ?_
 try simp
 and_intros <;> first | exact g _ (by kernel_rfl) | refine r _ _ _ ?_ | omega
 refine WK [(1, Lz v2), (2, AV.ptr 0 0), (4, AV.ptr 1 0)] [(0, .cells [Iz v0, AV.lst false false (List.map api_Arc.av v1)]), (1, .cells [Iz 0, AV.lst true true [], AV.lst true true [], AV.lst true true []])] 2 (by simp) (by simp) ?_
 refine SQ [12] [none, none, none, none, none, none, none, none] fun _ _ g r => ?_
 try simp
 refine ⟨h1, by omega, by unfold maxLen; omega, g _ (by kernel_rfl), r _ _ _ ?_⟩
 refine WK [(2, AV.ptr 0 0), (4, AV.ptr 1 0), (5, AV.ptr 3 0)] [(2, .cells (List.replicate v0.toNat (AV.lst true true []))), (0, .cells [Iz v0, AV.lst false false (List.map api_Arc.av v1)]), (1, .cells [Iz 0, AV.lst true true [], AV.lst true true [], AV.lst true true []]), (3, c_flow_open_v2 v0 v1 v2)] 4 (by simp) (by simp [flatA_nils]) ?_
 refine AW.ownAll [(2, AV.ptr 0 0), (4, AV.ptr 1 0), (5, AV.ptr 3 0)] [(0, .cells [Iz v0, AV.lst false false (List.map api_Arc.av v1)]), (1, .cells [Iz 0, AV.lst true true [], AV.lst true true [], AV.lst true true []]), (3, c_flow_open_v2 v0 v1 v2)] 2 2 v0.toNat 4 (by simp) (by decide) ?_ (by simp)
 refine AW.seq fun K4 hK4 => ?_
 refine SQ [] [none, none, none, none] fun _ _ g r => ?_
 try simp
 and_intros <;> first | exact g _ (by kernel_rfl) | refine r _ _ _ ?_ | omega
 have ec : (List.map (List.map flow_step.av) (List.replicate v0.toNat ([] : List flow_step))) = List.replicate v0.toNat ([] : List AV) := by simp
 rw [← ec]
 refine AW.wkF [(4, AV.ptr 1 0), (5, AV.ptr 3 0), (15, AV.lst false false (List.map api_Arc.av v1)), (16, Iz (v1.length : Int)), (17, Iz 0)] [(2, .cells (famC 2 (newI 4 v0.toNat) (List.map (List.map flow_step.av) (List.replicate v0.toNat ([] : List flow_step))))), (0, .cells [Iz v0, AV.lst false false (List.map api_Arc.av v1)]), (1, .cells [Iz 0, AV.lst true true [], AV.lst true true [], AV.lst true true []]), (3, c_flow_open_v2 v0 v1 v2)] (newI 4 v0.toNat) (List.map (List.map flow_step.av) (List.replicate v0.toNat ([] : List flow_step))) (4 + v0.toNat) (by simp) (by simp) ?_ (by simp) ?_
 ·exact (show Fam (mkH ([(2, .cells (famC 2 (newI 4 v0.toNat) (List.map (List.map flow_step.av) (List.replicate v0.toNat ([] : List flow_step))))), (0, .cells [Iz v0, AV.lst false false (List.map api_Arc.av v1)]), (1, .cells [Iz 0, AV.lst true true [], AV.lst true true [], AV.lst true true []]), (3, c_flow_open_v2 v0 v1 v2)] ++ famO (newI 4 v0.toNat) (List.map (List.map flow_step.av) (List.replicate v0.toNat ([] : List flow_step))))) (newI 4 v0.toNat) (List.map (List.map flow_step.av) (List.replicate v0.toNat ([] : List flow_step))) from fam_mkH (by simp [newI_len]) (newI_nodup _ _) (by simp [newI_mem]))
 refine AW.lenFact 15 (by decide) (nl := false) (fl := false) (xs := List.map api_Arc.av v1) (by simp) fun hlen => ?_
 simp only [List.length_map] at hlen
 refine AW.block ?_
 refine AW.loopV (α := Int × List Nat × List (List flow_step)) (fun n (i, ids, at_) => flow_open.L1 k v1 n i at_ = some v3 ∧ 0 ≤ i ∧ ids.length = at_.length ∧ ids.Nodup ∧ (∀ z ∈ ids, 4 ≤ z ∧ z < 4 + v0.toNat + 3 * i.toNat) ∧ at_.length = v0.toNat) (fun (i, ids, at_) => [(4, AV.ptr 1 0), (5, AV.ptr 3 0), (15, AV.lst false false (List.map api_Arc.av v1)), (16, Iz (v1.length : Int)), (17, Iz i)])
  (fun (i, ids, at_) => [(2, .cells (famC 2 ids (List.map (List.map flow_step.av) at_))), (0, .cells [Iz v0, AV.lst false false (List.map api_Arc.av v1)]), (1, .cells [Iz 0, AV.lst true true [], AV.lst true true [], AV.lst true true []]), (3, c_flow_open_v2 v0 v1 v2)] ++ famO ids (List.map (List.map flow_step.av) at_)) (fun (i, ids, at_) => 4 + v0.toNat + 3 * i.toNat) k (0, newI 4 v0.toNat, List.replicate v0.toNat []) ⟨hF, by omega, by simp [newI_len], newI_nodup _ _, fun z hz => by have := newI_mem.1 hz; simp; omega, by simp⟩ (by simp) ?_ (by simp) ?_
 ·exact fam_self (by simp [newI_len]) (newI_nodup _ _) (by simp [newI_mem]) (by simp)
 rintro (_|n1) ⟨i, ids, at_⟩ ⟨hF, g1, g2, g3, g4, g5⟩ K5 hK5
 ·rw [flow_open.L1] at hF; cases hF
 rw [flow_open.L1] at hF
 dsimp only
 obtain ⟨m0, hm0⟩ : ∃ m, m = 4 + v0.toNat + 3 * i.toNat := ⟨_, rfl⟩
 rw [← hm0] at g4 ⊢
 refine SQ [] [none] fun _ _ g r => ?_
 try simp
 and_intros <;> first | exact g _ (by kernel_rfl) | refine r _ _ _ ?_ | omega
 have hd0 : ∀ p ∈ ([(2, .cells (famC 2 ids (List.map (List.map flow_step.av) at_))), (0, .cells [Iz v0, AV.lst false false (List.map api_Arc.av v1)]), (1, .cells [Iz 0, AV.lst true true [], AV.lst true true [], AV.lst true true []]), (3, c_flow_open_v2 v0 v1 v2)] : List (Nat × AObj)), p.1 ∉ ids := by
  simp only [List.forall_mem_cons, List.not_mem_nil, false_implies, implies_true, and_true]
  and_intros <;> (intro z; have := g4 _ z; omega)
 have F0 : Fam (mkH ([(2, .cells (famC 2 ids (List.map (List.map flow_step.av) at_))), (0, .cells [Iz v0, AV.lst false false (List.map api_Arc.av v1)]), (1, .cells [Iz 0, AV.lst true true [], AV.lst true true [], AV.lst true true []]), (3, c_flow_open_v2 v0 v1 v2)] ++ famO ids (List.map (List.map flow_step.av) at_))) ids (List.map (List.map flow_step.av) at_) := fam_mkH (by simp [g2]) g3 hd0
 by_cases q : i < (v1.length : Int)
 ·replace hF := ite_t q hF
  refine AW.wkF [(4, AV.ptr 1 0), (5, AV.ptr 3 0), (15, AV.lst false false (List.map api_Arc.av v1)), (16, Iz (v1.length : Int)), (17, Iz i), (18, AV.bool true)] [(2, .cells (famC 2 ids (List.map (List.map flow_step.av) at_))), (0, .cells [Iz v0, AV.lst false false (List.map api_Arc.av v1)]), (1, .cells [Iz 0, AV.lst true true [], AV.lst true true [], AV.lst true true []]), (3, c_flow_open_v2 v0 v1 v2)] ids (List.map (List.map flow_step.av) at_) m0 (by simp [q]) (by simp) F0 (by simp) ?_
  refine AW.seq fun K7 hK7 => ?_
  refine CT (by simp) ?_
  refine AW.skip ?_
  refine hK7 _ _ _ ?_
  refine AW.seq fun K8 hK8 => ?_
  refine AW.block ?_
  obtain ⟨v5, c1, c2, c3, hF⟩ := idx_elim hF
  have c3_ := get_of c3
  refine SQ [] [none, none, none, none, none, none] fun _ _ g r => ?_
  try simp [c1, c2, c3, c3_]
  and_intros <;> first | exact g _ (by kernel_rfl) | refine r _ _ _ ?_ | omega
  have z0 : 0 ≠ m0 ∧ 0 ≠ m0 ∧ 1 ≠ m0 ∧ 2 ≠ m0 ∧ 3 ≠ m0 ∧ m0 ≠ 0 ∧ m0 ≠ 0 ∧ m0 ≠ 1 ∧ m0 ≠ 2 ∧ m0 ≠ 3 := by omega
  refine AW.wkF [(4, AV.ptr 1 0), (5, AV.ptr 3 0), (15, AV.lst false false (List.map api_Arc.av v1)), (16, Iz (v1.length : Int)), (6, Iz i), (7, AV.ptr m0 0), (17, Iz i)] [(m0, .cells [Iz v5.From, Iz v5.To, Iz v5.Cap]), (2, .cells (famC 2 ids (List.map (List.map flow_step.av) at_))), (0, .cells [Iz v0, AV.lst false false (List.map api_Arc.av v1)]), (1, .cells [Iz 0, AV.lst true true [], AV.lst true true [], AV.lst true true []]), (3, c_flow_open_v2 v0 v1 v2)] ids (List.map (List.map flow_step.av) at_) (m0 + 1) (by simp [z0]) (by simp [z0]) (F0.congr fun z hz => by have := g4 z hz; simp [upd, show z ≠ m0 by omega]) (by simp) ?_
  have g4 : ∀ z ∈ ids, 4 ≤ z ∧ z ≠ m0 ∧ z < m0 + 1 := fun z hz => by have := g4 z hz; omega
  have zi : i + 1 ≤ 9223372036854775807 ∧ v1.length ≤ 9223372036854775807 := by unfold maxLen at hlen; omega
  unfold flow_open.S at hF
  obtain ⟨⟨a1p, a2p⟩, hF⟩ := chk_elim hF
  obtain ⟨lp, b1p, b2p, b3p, hF⟩ := idx_elim hF
  obtain ⟨b4p, hF⟩ := chk_elim hF
  have l1p : at_[v5.From.toNat]'a2p = lp := by have := get_of b3p; simpa using this
  obtain ⟨dp, hdp⟩ : ∃ d, ids[v5.From.toNat]'(by rw [g2]; exact a2p) = d := ⟨_, rfl⟩
  have drp := g4 dp (hdp ▸ List.getElem_mem _)
  have fcp := famC_get (es := 2) (ids := ids) (css := (List.map (List.map flow_step.av) at_)) (x := v5.From.toNat) (by rw [g2]; exact a2p) (by simpa using a2p)
  simp only [hdp, List.getElem_map, l1p, List.length_map] at fcp
  have fnp : ¬ famC 2 ids (List.map (List.map flow_step.av) at_) = [] := by intro z; rw [z] at fcp; simp at fcp
  have hd1p : ∀ p ∈ ([(m0, .cells [Iz v5.From, Iz v5.To, Iz v5.Cap]), (2, .cells (famC 2 ids (List.map (List.map flow_step.av) at_))), (0, .cells [Iz v0, AV.lst false false (List.map api_Arc.av v1)]), (1, .cells [Iz 0, AV.lst true true [], AV.lst true true [], AV.lst true true []]), (3, c_flow_open_v2 v0 v1 v2)] : List (Nat × AObj)), p.1 ∉ ids := by
   simp only [List.forall_mem_cons, List.not_mem_nil, false_implies, implies_true, and_true]
   and_intros <;> (intro z; have := g4 _ z; omega)
  have hclp : (ids).length = ((List.map (List.map flow_step.av) at_)).length := by rw [List.length_map]; exact g2
  have F1p : Fam (mkH ([(m0, .cells [Iz v5.From, Iz v5.To, Iz v5.Cap]), (2, .cells (famC 2 ids (List.map (List.map flow_step.av) at_))), (0, .cells [Iz v0, AV.lst false false (List.map api_Arc.av v1)]), (1, .cells [Iz 0, AV.lst true true [], AV.lst true true [], AV.lst true true []]), (3, c_flow_open_v2 v0 v1 v2)] ++ famO ids (List.map (List.map flow_step.av) at_))) ids (List.map (List.map flow_step.av) at_) := fam_mkH hclp g3 hd1p
  have F2p : Fam (mkH (((dp, .grow (flatA (List.map flow_step.av lp))) :: [(m0, .cells [Iz v5.From, Iz v5.To, Iz v5.Cap]), (2, .cells (famC 2 ids (List.map (List.map flow_step.av) at_))), (0, .cells [Iz v0, AV.lst false false (List.map api_Arc.av v1)]), (1, .cells [Iz 0, AV.lst true true [], AV.lst true true [], AV.lst true true []]), (3, c_flow_open_v2 v0 v1 v2)]) ++ famO ids (List.map (List.map flow_step.av) at_))) ids (List.map (List.map flow_step.av) at_) := fam_mkF hclp g3 hd1p (by rw [g2]; exact a2p) (by simpa using a2p) hdp (by rw [List.getElem_map, l1p])
  have hgdp := F1p.get v5.From.toNat (by rw [g2]; exact a2p) (by simpa using a2p)
  simp only [hdp, List.getElem_map, l1p] at hgdp
  have zdp : 0 ≠ dp ∧ 0 ≠ dp ∧ 1 ≠ dp ∧ 2 ≠ dp ∧ 3 ≠ dp ∧ m0 ≠ dp ∧ dp ≠ 0 ∧ dp ≠ 0 ∧ dp ≠ 1 ∧ dp ≠ 2 ∧ dp ≠ 3 ∧ dp ≠ m0 ∧ m0 + 1 ≠ dp ∧ dp ≠ m0 + 1 := by omega
  have zmp : 0 ≠ m0 + 1 ∧ 0 ≠ m0 + 1 ∧ 1 ≠ m0 + 1 ∧ 2 ≠ m0 + 1 ∧ 3 ≠ m0 + 1 ∧ m0 ≠ m0 + 1 ∧ m0 + 1 ≠ 0 ∧ m0 + 1 ≠ 0 ∧ m0 + 1 ≠ 1 ∧ m0 + 1 ≠ 2 ∧ m0 + 1 ≠ 3 ∧ m0 + 1 ≠ m0 := by omega
  refine AW.wkF [(4, AV.ptr 1 0), (5, AV.ptr 3 0), (15, AV.lst false false (List.map api_Arc.av v1)), (16, Iz (v1.length : Int)), (6, Iz i), (7, AV.ptr m0 0), (17, Iz i)] ((dp, .grow (flatA (List.map flow_step.av lp))) :: [(m0, .cells [Iz v5.From, Iz v5.To, Iz v5.Cap]), (2, .cells (famC 2 ids (List.map (List.map flow_step.av) at_))), (0, .cells [Iz v0, AV.lst false false (List.map api_Arc.av v1)]), (1, .cells [Iz 0, AV.lst true true [], AV.lst true true [], AV.lst true true []]), (3, c_flow_open_v2 v0 v1 v2)]) ids (List.map (List.map flow_step.av) at_) (m0 + 1) (by simp [z0]) (List.forall_mem_cons.2 ⟨hgdp, by simp [z0]⟩) F1p (by omega) ?_
  refine SQ [] [none, none, none, none, none, none, none, none, none, none, none, none, none, none, none, none] fun _ _ g r => ?_
  have hcxp : (List.map (List.map flow_step.av) (at_.set v5.From.toNat (lp ++ [(flow_step.mk i false)]))) = ((List.map (List.map flow_step.av) at_)).set v5.From.toNat (List.map flow_step.av lp ++ [AV.agg [Iz i, AV.bool false]]) := by rw [List.map_set]; simp
  have efp : famC 2 (ids.set v5.From.toNat (m0 + 1)) (List.map (List.map flow_step.av) (at_.set v5.From.toNat (lp ++ [(flow_step.mk i false)]))) = (famC 2 ids (List.map (List.map flow_step.av) at_)).set v5.From.toNat (AV.slc (m0 + 1) 0 2 (lp.length + 1) false) := by rw [hcxp, famC_set]; simp
  have egp : famC 2 (ids.set v5.From.toNat (m0 + 1)) (((List.map (List.map flow_step.av) at_)).set v5.From.toNat (List.map flow_step.av lp ++ [AV.agg [Iz i, AV.bool false]])) = (famC 2 ids (List.map (List.map flow_step.av) at_)).set v5.From.toNat (AV.slc (m0 + 1) 0 2 (lp.length + 1) false) := by rw [famC_set]; simp
  have hflp : flatA (List.map flow_step.av lp ++ [AV.agg [Iz i, AV.bool false]]) = flatA (List.map flow_step.av lp) ++ [Iz i, AV.bool false] := by simp [flatA, AV.cells]
  try simp [z0, zdp, fcp, a1p, a2p, b4p, famC_len, g2, g5]
  and_intros <;> first | exact g _ (by rw [Bool.not_true, Bool.false_or]; exact idOrder_map [([3], []), ([3], []), ([101], []), ([101], []), ([3], []), ([3], []), ([101], []), ([101], []), ([2], []), ([2], []), ([], []), ([], []), ([], []), ([100], [100, 102]), ([2], []), ([2], [2])] (fun z => if z = 100 then dp else if z = 101 then m0 else if z = 102 then m0 + 1 else z) [2, 3, 100, 101, 102] (by simp only [List.forall_mem_cons, List.not_mem_nil, false_implies, implies_true, and_true]; and_intros <;> first | trivial | (intro h; first | rfl | (exfalso; simp at h; done) | (exfalso; simp at h; omega))) (by decide) (by kernel_rfl)) | refine r _ _ _ ?_ | exact fnp | omega | (unfold maxLen; simp only [List.length_cons, List.length_nil] at b4p; omega) | (simp only [List.length_cons, List.length_nil] at b4p; omega)
  refine AW.wkF [(4, AV.ptr 1 0), (5, AV.ptr 3 0), (15, AV.lst false false (List.map api_Arc.av v1)), (16, Iz (v1.length : Int)), (6, Iz i), (7, AV.ptr m0 0), (17, Iz i)] [(m0, .cells [Iz v5.From, Iz v5.To, Iz v5.Cap]), (2, .cells (famC 2 (ids.set v5.From.toNat (m0 + 1)) (List.map (List.map flow_step.av) (at_.set v5.From.toNat (lp ++ [(flow_step.mk i false)]))))), (0, .cells [Iz v0, AV.lst false false (List.map api_Arc.av v1)]), (1, .cells [Iz 0, AV.lst true true [], AV.lst true true [], AV.lst true true []]), (3, c_flow_open_v2 v0 v1 v2)] (ids.set v5.From.toNat (m0 + 1)) (List.map (List.map flow_step.av) (at_.set v5.From.toNat (lp ++ [(flow_step.mk i false)]))) (m0 + 1 + 1) (by simp [z0, zmp]) (by simp [z0, zdp, zmp, egp]) ?_ (by omega) ?_
  ·rw [hcxp]
   exact F2p.put (fun z => by have := g4 _ z; omega) (by simp [zmp, zdp, hflp]) (fun z hz hne => by
    have z1 := g4 z hz
    have z2 := hne (by rw [g2]; exact a2p)
    rw [hdp] at z2
    rw [upd_ne _ _ (by omega), upd_ne _ _ (by omega), upd_ne _ _ z2]; rfl)
  have g2p : (ids.set v5.From.toNat (m0 + 1)).length = (at_.set v5.From.toNat (lp ++ [(flow_step.mk i false)])).length := by rw [List.length_set, List.length_set]; exact g2
  have g3p : (ids.set v5.From.toNat (m0 + 1)).Nodup := (F2p.put (H' := fun j => if j = m0 + 1 then some (.grow (flatA [])) else mkH (((dp, .grow (flatA (List.map flow_step.av lp))) :: [(m0, .cells [Iz v5.From, Iz v5.To, Iz v5.Cap]), (2, .cells (famC 2 ids (List.map (List.map flow_step.av) at_))), (0, .cells [Iz v0, AV.lst false false (List.map api_Arc.av v1)]), (1, .cells [Iz 0, AV.lst true true [], AV.lst true true [], AV.lst true true []]), (3, c_flow_open_v2 v0 v1 v2)]) ++ famO ids (List.map (List.map flow_step.av) at_)) j) (x := v5.From.toNat) (c := []) (M := m0 + 1) (fun z => by have := g4 _ z; omega) (by simp) (fun z hz _ => by have := g4 z hz; exact if_neg (by omega))).nd
  have g4p : ∀ z ∈ (ids.set v5.From.toNat (m0 + 1)), 4 ≤ z ∧ z ≠ m0 ∧ z < m0 + 1 + 1 := fun z hz => by
   rcases List.mem_or_eq_of_mem_set hz with h | rfl
   ·have := g4 z h; omega
   ·omega
  have g5p : (at_.set v5.From.toNat (lp ++ [(flow_step.mk i false)])).length = v0.toNat := by rw [List.length_set]; exact g5
  generalize (at_.set v5.From.toNat (lp ++ [(flow_step.mk i false)])) = at1 at hF g2p g5p ⊢
  generalize (ids.set v5.From.toNat (m0 + 1)) = ids1 at g2p g3p g4p ⊢
  obtain ⟨⟨a1r, a2r⟩, hF⟩ := chk_elim hF
  obtain ⟨lr, b1r, b2r, b3r, hF⟩ := idx_elim hF
  obtain ⟨b4r, hF⟩ := chk_elim hF
  have l1r : at1[v5.To.toNat]'a2r = lr := by have := get_of b3r; simpa using this
  obtain ⟨dr, hdr⟩ : ∃ d, ids1[v5.To.toNat]'(by rw [g2p]; exact a2r) = d := ⟨_, rfl⟩
  have drr := g4p dr (hdr ▸ List.getElem_mem _)
  have fcr := famC_get (es := 2) (ids := ids1) (css := (List.map (List.map flow_step.av) at1)) (x := v5.To.toNat) (by rw [g2p]; exact a2r) (by simpa using a2r)
  simp only [hdr, List.getElem_map, l1r, List.length_map] at fcr
  have fnr : ¬ famC 2 ids1 (List.map (List.map flow_step.av) at1) = [] := by intro z; rw [z] at fcr; simp at fcr
  have hd1r : ∀ p ∈ ([(m0, .cells [Iz v5.From, Iz v5.To, Iz v5.Cap]), (2, .cells (famC 2 ids1 (List.map (List.map flow_step.av) at1))), (0, .cells [Iz v0, AV.lst false false (List.map api_Arc.av v1)]), (1, .cells [Iz 0, AV.lst true true [], AV.lst true true [], AV.lst true true []]), (3, c_flow_open_v2 v0 v1 v2)] : List (Nat × AObj)), p.1 ∉ ids1 := by
   simp only [List.forall_mem_cons, List.not_mem_nil, false_implies, implies_true, and_true]
   and_intros <;> (intro z; have := g4p _ z; omega)
  have hclr : (ids1).length = ((List.map (List.map flow_step.av) at1)).length := by rw [List.length_map]; exact g2p
  have F1r : Fam (mkH ([(m0, .cells [Iz v5.From, Iz v5.To, Iz v5.Cap]), (2, .cells (famC 2 ids1 (List.map (List.map flow_step.av) at1))), (0, .cells [Iz v0, AV.lst false false (List.map api_Arc.av v1)]), (1, .cells [Iz 0, AV.lst true true [], AV.lst true true [], AV.lst true true []]), (3, c_flow_open_v2 v0 v1 v2)] ++ famO ids1 (List.map (List.map flow_step.av) at1))) ids1 (List.map (List.map flow_step.av) at1) := fam_mkH hclr g3p hd1r
  have F2r : Fam (mkH (((dr, .grow (flatA (List.map flow_step.av lr))) :: [(m0, .cells [Iz v5.From, Iz v5.To, Iz v5.Cap]), (2, .cells (famC 2 ids1 (List.map (List.map flow_step.av) at1))), (0, .cells [Iz v0, AV.lst false false (List.map api_Arc.av v1)]), (1, .cells [Iz 0, AV.lst true true [], AV.lst true true [], AV.lst true true []]), (3, c_flow_open_v2 v0 v1 v2)]) ++ famO ids1 (List.map (List.map flow_step.av) at1))) ids1 (List.map (List.map flow_step.av) at1) := fam_mkF hclr g3p hd1r (by rw [g2p]; exact a2r) (by simpa using a2r) hdr (by rw [List.getElem_map, l1r])
  have hgdr := F1r.get v5.To.toNat (by rw [g2p]; exact a2r) (by simpa using a2r)
  simp only [hdr, List.getElem_map, l1r] at hgdr
  have zdr : 0 ≠ dr ∧ 0 ≠ dr ∧ 1 ≠ dr ∧ 2 ≠ dr ∧ 3 ≠ dr ∧ m0 ≠ dr ∧ dr ≠ 0 ∧ dr ≠ 0 ∧ dr ≠ 1 ∧ dr ≠ 2 ∧ dr ≠ 3 ∧ dr ≠ m0 ∧ m0 + 1 + 1 ≠ dr ∧ dr ≠ m0 + 1 + 1 := by omega
  have zmr : 0 ≠ m0 + 1 + 1 ∧ 0 ≠ m0 + 1 + 1 ∧ 1 ≠ m0 + 1 + 1 ∧ 2 ≠ m0 + 1 + 1 ∧ 3 ≠ m0 + 1 + 1 ∧ m0 ≠ m0 + 1 + 1 ∧ m0 + 1 + 1 ≠ 0 ∧ m0 + 1 + 1 ≠ 0 ∧ m0 + 1 + 1 ≠ 1 ∧ m0 + 1 + 1 ≠ 2 ∧ m0 + 1 + 1 ≠ 3 ∧ m0 + 1 + 1 ≠ m0 := by omega
  refine AW.wkF [(4, AV.ptr 1 0), (5, AV.ptr 3 0), (15, AV.lst false false (List.map api_Arc.av v1)), (16, Iz (v1.length : Int)), (6, Iz i), (7, AV.ptr m0 0), (17, Iz i)] ((dr, .grow (flatA (List.map flow_step.av lr))) :: [(m0, .cells [Iz v5.From, Iz v5.To, Iz v5.Cap]), (2, .cells (famC 2 ids1 (List.map (List.map flow_step.av) at1))), (0, .cells [Iz v0, AV.lst false false (List.map api_Arc.av v1)]), (1, .cells [Iz 0, AV.lst true true [], AV.lst true true [], AV.lst true true []]), (3, c_flow_open_v2 v0 v1 v2)]) ids1 (List.map (List.map flow_step.av) at1) (m0 + 1 + 1) (by simp [z0]) (List.forall_mem_cons.2 ⟨hgdr, by simp [z0]⟩) F1r (by omega) ?_
  refine RG [] [none, none, none, none, none, none, none, none, none, none, none, none, none, none, none, none] fun _ _ g r => ?_
  have hcxr : (List.map (List.map flow_step.av) (at1.set v5.To.toNat (lr ++ [(flow_step.mk i true)]))) = ((List.map (List.map flow_step.av) at1)).set v5.To.toNat (List.map flow_step.av lr ++ [AV.agg [Iz i, AV.bool true]]) := by rw [List.map_set]; simp
  have efr : famC 2 (ids1.set v5.To.toNat (m0 + 1 + 1)) (List.map (List.map flow_step.av) (at1.set v5.To.toNat (lr ++ [(flow_step.mk i true)]))) = (famC 2 ids1 (List.map (List.map flow_step.av) at1)).set v5.To.toNat (AV.slc (m0 + 1 + 1) 0 2 (lr.length + 1) false) := by rw [hcxr, famC_set]; simp
  have egr : famC 2 (ids1.set v5.To.toNat (m0 + 1 + 1)) (((List.map (List.map flow_step.av) at1)).set v5.To.toNat (List.map flow_step.av lr ++ [AV.agg [Iz i, AV.bool true]])) = (famC 2 ids1 (List.map (List.map flow_step.av) at1)).set v5.To.toNat (AV.slc (m0 + 1 + 1) 0 2 (lr.length + 1) false) := by rw [famC_set]; simp
  have hflr : flatA (List.map flow_step.av lr ++ [AV.agg [Iz i, AV.bool true]]) = flatA (List.map flow_step.av lr) ++ [Iz i, AV.bool true] := by simp [flatA, AV.cells]
  try simp [z0, zdr, fcr, a1r, a2r, b4r, famC_len, g2p, g5p]
  and_intros <;> first | exact g _ (by rw [Bool.not_true, Bool.false_or]; exact idOrder_map [([3], []), ([3], []), ([101], []), ([101], []), ([3], []), ([3], []), ([101], []), ([101], []), ([2], []), ([2], []), ([], []), ([], []), ([], []), ([100], [100, 102]), ([2], []), ([2], [2])] (fun z => if z = 100 then dr else if z = 101 then m0 else if z = 102 then m0 + 1 + 1 else z) [2, 3, 100, 101, 102] (by simp only [List.forall_mem_cons, List.not_mem_nil, false_implies, implies_true, and_true]; and_intros <;> first | trivial | (intro h; first | rfl | (exfalso; simp at h; done) | (exfalso; simp at h; omega))) (by decide) (by kernel_rfl)) | refine r _ _ _ ?_ | exact fnr | omega | (unfold maxLen; simp only [List.length_cons, List.length_nil] at b4r; omega) | (simp only [List.length_cons, List.length_nil] at b4r; omega)
  refine hK8 _ _ _ ?_
  refine AW.wkF [(4, AV.ptr 1 0), (5, AV.ptr 3 0), (15, AV.lst false false (List.map api_Arc.av v1)), (16, Iz (v1.length : Int)), (6, Iz i), (7, AV.ptr m0 0), (17, Iz i)] [(m0, .cells [Iz v5.From, Iz v5.To, Iz v5.Cap]), (2, .cells (famC 2 (ids1.set v5.To.toNat (m0 + 1 + 1)) (List.map (List.map flow_step.av) (at1.set v5.To.toNat (lr ++ [(flow_step.mk i true)]))))), (0, .cells [Iz v0, AV.lst false false (List.map api_Arc.av v1)]), (1, .cells [Iz 0, AV.lst true true [], AV.lst true true [], AV.lst true true []]), (3, c_flow_open_v2 v0 v1 v2)] (ids1.set v5.To.toNat (m0 + 1 + 1)) (List.map (List.map flow_step.av) (at1.set v5.To.toNat (lr ++ [(flow_step.mk i true)]))) (m0 + 1 + 1 + 1) (by simp [z0, zmr]) (by simp [z0, zdr, zmr, egr]) ?_ (by omega) ?_
  ·rw [hcxr]
   exact F2r.put (fun z => by have := g4p _ z; omega) (by simp [zmr, zdr, hflr]) (fun z hz hne => by
    have z1 := g4p z hz
    have z2 := hne (by rw [g2p]; exact a2r)
    rw [hdr] at z2
    rw [upd_ne _ _ (by omega), upd_ne _ _ (by omega), upd_ne _ _ z2]; rfl)
  have g2r : (ids1.set v5.To.toNat (m0 + 1 + 1)).length = (at1.set v5.To.toNat (lr ++ [(flow_step.mk i true)])).length := by rw [List.length_set, List.length_set]; exact g2p
  have g3r : (ids1.set v5.To.toNat (m0 + 1 + 1)).Nodup := (F2r.put (H' := fun j => if j = m0 + 1 + 1 then some (.grow (flatA [])) else mkH (((dr, .grow (flatA (List.map flow_step.av lr))) :: [(m0, .cells [Iz v5.From, Iz v5.To, Iz v5.Cap]), (2, .cells (famC 2 ids1 (List.map (List.map flow_step.av) at1))), (0, .cells [Iz v0, AV.lst false false (List.map api_Arc.av v1)]), (1, .cells [Iz 0, AV.lst true true [], AV.lst true true [], AV.lst true true []]), (3, c_flow_open_v2 v0 v1 v2)]) ++ famO ids1 (List.map (List.map flow_step.av) at1)) j) (x := v5.To.toNat) (c := []) (M := m0 + 1 + 1) (fun z => by have := g4p _ z; omega) (by simp) (fun z hz _ => by have := g4p z hz; exact if_neg (by omega))).nd
  have g4r : ∀ z ∈ (ids1.set v5.To.toNat (m0 + 1 + 1)), 4 ≤ z ∧ z ≠ m0 ∧ z < m0 + 1 + 1 + 1 := fun z hz => by
   rcases List.mem_or_eq_of_mem_set hz with h | rfl
   ·have := g4p z h; omega
   ·omega
  have g5r : (at1.set v5.To.toNat (lr ++ [(flow_step.mk i true)])).length = v0.toNat := by rw [List.length_set]; exact g5p
  generalize (at1.set v5.To.toNat (lr ++ [(flow_step.mk i true)])) = at2 at hF g2r g5r ⊢
  generalize (ids1.set v5.To.toNat (m0 + 1 + 1)) = ids2 at g2r g3r g4r ⊢
  refine RG [] [none, none] fun _ _ g r => ?_
  try simp
  and_intros <;> first | exact g _ (by kernel_rfl) | refine r _ _ _ ?_ | omega
  refine hK5 _ _ _ ?_
  have ew : IntKind.wrap .i64 (i + 1) = i + 1 := wrap64 (by omega) (by omega)
  rw [ew] at hF ⊢
  have hd9 : ∀ p ∈ ([(m0, .cells [Iz v5.From, Iz v5.To, Iz v5.Cap]), (2, .cells (famC 2 ids2 (List.map (List.map flow_step.av) at2))), (0, .cells [Iz v0, AV.lst false false (List.map api_Arc.av v1)]), (1, .cells [Iz 0, AV.lst true true [], AV.lst true true [], AV.lst true true []]), (3, c_flow_open_v2 v0 v1 v2)] : List (Nat × AObj)), p.1 ∉ ids2 := by
   simp only [List.forall_mem_cons, List.not_mem_nil, false_implies, implies_true, and_true]
   and_intros <;> (intro z; have := g4r _ z; omega)
  have F9 : Fam (mkH ([(m0, .cells [Iz v5.From, Iz v5.To, Iz v5.Cap]), (2, .cells (famC 2 ids2 (List.map (List.map flow_step.av) at2))), (0, .cells [Iz v0, AV.lst false false (List.map api_Arc.av v1)]), (1, .cells [Iz 0, AV.lst true true [], AV.lst true true [], AV.lst true true []]), (3, c_flow_open_v2 v0 v1 v2)] ++ famO ids2 (List.map (List.map flow_step.av) at2))) ids2 (List.map (List.map flow_step.av) at2) := fam_mkH (by rw [List.length_map]; exact g2r) g3r hd9
  refine Can.nextV (k' := n1) (i + 1, ids2, at2) (by omega) ⟨hF, by omega, g2r, g3r, fun z hz => by have := g4r z hz; omega, g5r⟩ ?_ ?_ (show _ ≤ 4 + v0.toNat + 3 * (i + 1).toNat by omega)
  ·show ∀ p ∈ [(4, AV.ptr 1 0), (5, AV.ptr 3 0), (15, AV.lst false false (List.map api_Arc.av v1)), (16, Iz (v1.length : Int)), (17, Iz (i + 1))], _
   simp [ew]
  ·intro p hp
   rcases List.mem_append.1 hp with hp | hp
   ·exact (show ∀ p ∈ ([(2, .cells (famC 2 ids2 (List.map (List.map flow_step.av) at2))), (0, .cells [Iz v0, AV.lst false false (List.map api_Arc.av v1)]), (1, .cells [Iz 0, AV.lst true true [], AV.lst true true [], AV.lst true true []]), (3, c_flow_open_v2 v0 v1 v2)] : List (Nat × AObj)), mkH ([(m0, .cells [Iz v5.From, Iz v5.To, Iz v5.Cap]), (2, .cells (famC 2 ids2 (List.map (List.map flow_step.av) at2))), (0, .cells [Iz v0, AV.lst false false (List.map api_Arc.av v1)]), (1, .cells [Iz 0, AV.lst true true [], AV.lst true true [], AV.lst true true []]), (3, c_flow_open_v2 v0 v1 v2)] ++ famO ids2 (List.map (List.map flow_step.av) at2)) p.1 = some p.2 by simp [z0]) p hp
   ·exact F9.mem p hp
 ·replace hF := ite_f q hF
  simp only [Option.some.injEq] at hF
  subst hF
  refine AW.wkF [(4, AV.ptr 1 0), (5, AV.ptr 3 0), (15, AV.lst false false (List.map api_Arc.av v1)), (16, Iz (v1.length : Int)), (17, Iz i), (18, AV.bool false)] [(2, .cells (famC 2 ids (List.map (List.map flow_step.av) at_))), (0, .cells [Iz v0, AV.lst false false (List.map api_Arc.av v1)]), (1, .cells [Iz 0, AV.lst true true [], AV.lst true true [], AV.lst true true []]), (3, c_flow_open_v2 v0 v1 v2)] ids (List.map (List.map flow_step.av) at_) m0 (by simp [q]) (by simp) F0 (by simp) ?_
  refine AW.seq fun K7 hK7 => ?_
  refine CF (by simp) ?_
  refine AW.exit ?_
  try simp
  refine hK4 _ _ _ ?_
  refine AW.wkF [(4, AV.ptr 1 0), (5, AV.ptr 3 0)] [(2, .cells (famC 2 ids (List.map (List.map flow_step.av) at_))), (0, .cells [Iz v0, AV.lst false false (List.map api_Arc.av v1)]), (1, .cells [Iz 0, AV.lst true true [], AV.lst true true [], AV.lst true true []]), (3, c_flow_open_v2 v0 v1 v2)] ids (List.map (List.map flow_step.av) at_) m0 (by simp) (by simp) F0 (by simp) ?_
  refine AW.frzAll [(4, AV.ptr 1 0), (5, AV.ptr 3 0)] [(0, .cells [Iz v0, AV.lst false false (List.map api_Arc.av v1)]), (1, .cells [Iz 0, AV.lst true true [], AV.lst true true [], AV.lst true true []]), (3, c_flow_open_v2 v0 v1 v2)] 2 2 m0 (by simp) (by simp) ids (List.map (List.map flow_step.av) at_) [] (by rw [List.length_map]; exact g2) g3 (fun z => by have := g4 _ z; omega) (by
   simp only [List.forall_mem_cons, List.not_mem_nil, false_implies, implies_true, and_true]
   and_intros <;> (intro z; have := g4 _ z; omega)) (by simp) ?_
  refine AW.frz 2 (o := .cells (List.map (AV.lst false false) (List.map (List.map flow_step.av) at_))) (by simp) rfl [] [(3, .cells [Iz v0, AV.lst false false (List.map api_Arc.av v1), Lz v2, AV.lst false false (List.map (sl flow_step.av) at_)])] trivial ⟨⟨by simp, c_flow_open_v2 v0 v1 v2, by simp, FrzO.mk (.cons (.same _) (.cons (.same _) (.cons (.same _) (.cons (.lst (by simp) (by simp) (by simp [g5]) (flat_sl _ _ g5) rfl) .nil))))⟩, trivial⟩ ?_
  refine SQ [] [none, none] fun _ _ g r => ?_
  try simp
  and_intros <;> first | exact g _ (by kernel_rfl) | refine r _ _ _ ?_ | omega
  refine AW.ret (hQ _ _ _ ?_ (matchO_0 ?_)).1
  ·simp [Try.f60]
  ·simp
theorem w_flow_Reached_1 (k : Nat) (v0 : Int) (v1 : (List (Int × flow_step))) (v2 : Bool) (hF : flow_Reached_1 k v0 v1 = some v2) :
  FCall Try.prog 64 [AV.int .i64 v0, AV.ptr 0 0] [.cells [AV.map 1], .mp (mpA (AV.int .i64) flow_step.av v1)] (AV.bool v2) [some (.cells [AV.map 1]), some (.mp (mpA (AV.int .i64) flow_step.av v1))] := by
 unfold flow_Reached_1 at hF
 refine EN Try.func64 ?_
 intro c0 w0 Q h0 hQ
 refine WK [(0, Iz v0), (1, AV.ptr 0 0)] [(0, .cells [AV.map 1]), (1, .mp (mpA (AV.int .i64) flow_step.av v1))] 2 (by simp) (by simp) ?_
 refine SQ [] [none] fun _ _ g r => ?_
 try simp
 and_intros <;> first | exact g _ (by kernel_rfl) | refine r _ _ _ ?_ | omega | (simp [maxLen] <;> omega)
 refine WK [(0, Iz v0), (1, AV.ptr 0 0)] [(0, .cells [AV.map 1]), (1, .mp (mpA (AV.int .i64) flow_step.av v1))] 2 (by simp) (by simp) ?_
 refine SQ [] [none, none, none, none, none, none, none, none, none] fun _ _ g r => ?_
 rcases opt2_elim hF with ⟨v3, h1, hF⟩ | ⟨h2, hF⟩
 ·try simp [h1]
  and_intros <;> first | exact g _ (by kernel_rfl) | refine r _ _ _ ?_ | omega | (simp [h1, maxLen] <;> omega)
  refine WK [(5, AV.bool true)] [(0, .cells [AV.map 1]), (1, .mp (mpA (AV.int .i64) flow_step.av v1))] 3 (by simp [h1]) (by simp [h1]) ?_
  refine SQ [] [none, none] fun _ _ g r => ?_
  try simp [h1]
  and_intros <;> first | exact g _ (by kernel_rfl) | refine r _ _ _ ?_ | omega | (simp [h1, maxLen] <;> omega)
  refine WK [(3, AV.bool true)] [(0, .cells [AV.map 1]), (1, .mp (mpA (AV.int .i64) flow_step.av v1))] 3 (by simp [h1]) (by simp [h1]) ?_
  simp only [Option.some.injEq] at hF
  subst hF
  refine AW.ret (hQ _ _ _ ?_ (matchO_0 ?_)).1
  ·simp [Try.f64, h1]
  ·simp [h1]
 ·try simp [h2]
  and_intros <;> first | exact g _ (by kernel_rfl) | refine r _ _ _ ?_ | omega | (simp [h2, maxLen] <;> omega)
  refine WK [(5, AV.bool false)] [(0, .cells [AV.map 1]), (1, .mp (mpA (AV.int .i64) flow_step.av v1))] 3 (by simp [h2]) (by simp [h2]) ?_
  refine SQ [] [none, none] fun _ _ g r => ?_
  try simp [h2]
  and_intros <;> first | exact g _ (by kernel_rfl) | refine r _ _ _ ?_ | omega | (simp [h2, maxLen] <;> omega)
  refine WK [(3, AV.bool false)] [(0, .cells [AV.map 1]), (1, .mp (mpA (AV.int .i64) flow_step.av v1))] 3 (by simp [h2]) (by simp [h2]) ?_
  simp only [Option.some.injEq] at hF
  subst hF
  refine AW.ret (hQ _ _ _ ?_ (matchO_0 ?_)).1
  ·simp [Try.f64, h2]
  ·simp [h2]
theorem w_lists_Where_Reached_1 (k : Nat) (v0 : Int) (v1 : (List (Int × flow_step))) (v2 : (List Int)) (hF : lists_Where_Reached_1 k v0 v1 = some v2) :
  FCall Try.prog 63 [AV.int .i64 v0, AV.fn 64 [AV.ptr 0 0]] [.cells [AV.map 1], .mp (mpA (AV.int .i64) flow_step.av v1)] (AV.slc 2 0 1 v2.length false) [some (.cells [AV.map 1]), some (.mp (mpA (AV.int .i64) flow_step.av v1)), some (.grow (List.map (AV.int .i64) v2))] := by
 unfold lists_Where_Reached_1 at hF
 refine EN Try.func63 ?_
 intro c0 w0 Q h0 hQ
 refine WK [(0, Iz v0), (1, AV.fn 64 [AV.ptr 0 0])] [(0, .cells [AV.map 1]), (1, .mp (mpA (AV.int .i64) flow_step.av v1))] 2 (by simp) (by simp) ?_
 refine SQ [] [none] fun _ _ g r => ?_
 try simp
 and_intros <;> first | exact g _ (by kernel_rfl) | refine r _ _ _ ?_ | omega | (simp [maxLen] <;> omega)
 refine WK [(0, Iz v0), (1, AV.fn 64 [AV.ptr 0 0])] [(0, .cells [AV.map 1]), (1, .mp (mpA (AV.int .i64) flow_step.av v1))] 2 (by simp) (by simp) ?_
 refine SQ [] [none] fun _ _ g r => ?_
 try simp
 and_intros <;> first | exact g _ (by kernel_rfl) | refine r _ _ _ ?_ | omega | (simp [maxLen] <;> omega)
 refine WK [(0, Iz v0), (1, AV.fn 64 [AV.ptr 0 0]), (5, AV.lst true true (List.map (AV.int .i64) ([] : List Int)))] [(0, .cells [AV.map 1]), (1, .mp (mpA (AV.int .i64) flow_step.av v1))] 2 (by simp) (by simp) ?_
 refine AW.seq fun K133 hK133 => ?_
 refine SQ [] [none, none] fun _ _ g r => ?_
 try simp
 and_intros <;> first | exact g _ (by kernel_rfl) | refine r _ _ _ ?_ | omega | (simp [maxLen] <;> omega)
 refine WK [(1, AV.fn 64 [AV.ptr 0 0]), (5, AV.lst true true (List.map (AV.int .i64) ([] : List Int))), (7, Iz v0), (8, Iz 0)] [(0, .cells [AV.map 1]), (1, .mp (mpA (AV.int .i64) flow_step.av v1))] 2 (by simp) (by simp) ?_
 refine AW.block ?_
 refine AW.own' 5 1 true (by simp) (by decide) ?_
 refine AW.loopF (α := (Int × (List Int))) (fun n (v3, v4) => lists_Where_Reached_1.L1 k v0 v1 n v3 v4 = some v2) (fun (v3, v4) => [(1, AV.fn 64 [AV.ptr 0 0]), (5, AV.slc 2 0 1 v4.length false), (7, Iz v0), (8, Iz v3)]) (fun (v3, v4) => [(0, .cells [AV.map 1]), (1, .mp (mpA (AV.int .i64) flow_step.av v1)), (2, .grow (List.map (AV.int .i64) v4))]) 3 k ((0, ([] : List Int))) hF (by simp) (by simp) (by simp) ?_
 rintro (_|n1) ⟨v3, v4⟩ hF K165 hK165
 ·try dsimp only at hF
  rw [lists_Where_Reached_1.L1] at hF; cases hF
 try dsimp only at hF
 rw [lists_Where_Reached_1.L1] at hF
 refine SQ [] [none] fun _ _ g r => ?_
 try simp
 and_intros <;> first | exact g _ (by kernel_rfl) | refine r _ _ _ ?_ | omega | (simp [maxLen] <;> omega)
 refine WK [(1, AV.fn 64 [AV.ptr 0 0]), (5, AV.slc 2 0 1 v4.length false), (7, Iz v0), (8, Iz v3), (9, AV.bool (decide (v3 < v0)))] [(0, .cells [AV.map 1]), (1, .mp (mpA (AV.int .i64) flow_step.av v1)), (2, .grow (List.map (AV.int .i64) v4))] 3 (by simp) (by simp) ?_
 refine AW.seq fun K167 hK167 => ?_
 by_cases h1 : v3 < v0
 ·replace hF := ite_t h1 hF
  have h1_ := h1
  try simp at h1_
  refine CT (by simp [h1, h1_] <;> omega) ?_
  refine AW.skip ?_
  refine hK167 _ _ _ ?_
  refine AW.midF (α := (List Int)) (fun v5 => lists_Where_Reached_1.J2 k v3 (fun v3_ v4_ => lists_Where_Reached_1.L1 k v0 v1 n1 v3_ v4_) v5 = some v2) (fun v5 => [(1, AV.fn 64 [AV.ptr 0 0]), (5, AV.slc 2 0 1 v5.length false), (7, Iz v0), (8, Iz v3)]) (fun v5 => [(0, .cells [AV.map 1]), (1, .mp (mpA (AV.int .i64) flow_step.av v1)), (2, .grow (List.map (AV.int .i64) v5))]) 3 (fun K172 hK172 => ?_) ?_
  ·refine AW.block ?_
   refine SQ [] [none, none] fun _ _ g r => ?_
   try simp [h1, h1_]
   and_intros <;> first | exact g _ (by kernel_rfl) | refine r _ _ _ ?_ | omega | (simp [h1, h1_, maxLen] <;> omega)
   refine WK [(1, AV.fn 64 [AV.ptr 0 0]), (5, AV.slc 2 0 1 v4.length false), (6, Iz v3), (7, Iz v0), (8, Iz v3)] [(0, .cells [AV.map 1]), (1, .mp (mpA (AV.int .i64) flow_step.av v1)), (2, .grow (List.map (AV.int .i64) v4))] 3 (by simp [h1, h1_]) (by simp [h1, h1_]) ?_
   refine SQ [] [none, none, none] fun _ _ g r => ?_
   try simp [h1, h1_]
   and_intros
   try any_goals first | omega | (simp [h1, h1_, maxLen] <;> omega)
   obtain ⟨v6, h2, hF⟩ := bnd1_elim hF
   refine aCall_l (w_flow_Reached_1 k _ _ _ h2) (by simp) [0, 1] [] [] rfl (.cons (.same (by simp [h1, h1_])) (.cons (.same (by simp [h1, h1_])) .nil)) (by simp [h1, h1_]) (by decide) (by simp) (by simp) (.inl rfl) (by simp) (by simp) ?_
   try simp [h1, h1_]
   and_intros <;> first | exact g _ (by kernel_rfl) | refine r _ _ _ ?_ | omega | (simp [h1, h1_, maxLen] <;> omega)
   refine WK [(1, AV.fn 64 [AV.ptr 0 0]), (5, AV.slc 2 0 1 v4.length false), (6, Iz v3), (7, Iz v0), (8, Iz v3), (13, AV.bool v6)] [(0, .cells [AV.map 1]), (1, .mp (mpA (AV.int .i64) flow_step.av v1)), (2, .grow (List.map (AV.int .i64) v4))] 3 (by simp [h1, h1_]) (by simp [h1, h1_]) ?_
   by_cases h3 : v6 = true
   ·replace hF := ite_t h3 hF
    have h3_ := h3
    try simp at h3_
    have F1 := And.intro h1 (And.intro h1_ (And.intro h3 h3_))
    refine CT (by simp [F1] <;> omega) ?_
    refine RG [] [none, none, none, none, none] fun _ _ g r => ?_
    obtain ⟨h4, hF⟩ := chk_elim hF
    have h4_ := h4
    try simp at h4_
    have F2 := And.intro F1 h4
    try simp [F2]
    and_intros <;> first | exact g _ (by kernel_rfl) | refine r _ _ _ ?_ | omega | (simp [maxLen, F2] <;> omega)
    refine hK172 _ _ _ ?_
    refine Can.weak [(1, AV.fn 64 [AV.ptr 0 0]), (5, AV.slc 3 0 1 ((v4 ++ ([v3] : List Int)).length) false), (7, Iz v0), (8, Iz v3)] [(0, .cells [AV.map 1]), (1, .mp (mpA (AV.int .i64) flow_step.av v1)), (3, .grow (List.map (AV.int .i64) (v4 ++ ([v3] : List Int))))] 4 (by simp [F2] <;> omega) (by simp [F2]) (by simp) ?_
    refine Can.ren (m := 2) h0 [(0, 0), (1, 1), (2, 3)] [(1, AV.fn 64 [AV.ptr 0 0]), (5, AV.slc 2 0 1 ((v4 ++ ([v3] : List Int)).length) false), (7, Iz v0), (8, Iz v3)] [(0, .cells [AV.map 1]), (1, .mp (mpA (AV.int .i64) flow_step.av v1)), (2, .grow (List.map (AV.int .i64) (v4 ++ ([v3] : List Int))))] 3 (by decide) (by decide) (by decide) rfl (by simp [F2]) (by simp [F2]) ?_
    exact JN (v4 ++ ([v3] : List Int)) hF (by simp [F2]) (by simp [F2])
   ·replace hF := ite_f h3 hF
    have h3_ := h3
    try simp at h3_
    have F3 := And.intro h1 (And.intro h1_ (And.intro h3 h3_))
    refine CF (by simp [F3] <;> omega) ?_
    refine AW.skip ?_
    refine hK172 _ _ _ ?_
    exact JN (v4) hF (by simp [F3]) (by simp [F3])
  ·rintro v5 hF
   try dsimp only at hF
   unfold lists_Where_Reached_1.J2 at hF
   refine RG [] [none, none] fun _ _ g r => ?_
   try simp [h1, h1_]
   and_intros <;> first | exact g _ (by kernel_rfl) | refine r _ _ _ ?_ | omega | (simp [h1, h1_, maxLen] <;> omega)
   refine hK165 _ _ _ ?_
   exact NX (k' := n1) ((IntKind.wrap .i64 (v3 + 1), v5)) hF (by simp [h1, h1_]) (by simp [h1, h1_])
 ·replace hF := ite_f h1 hF
  have h1_ := h1
  try simp at h1_
  refine CF (by simp [h1, h1_] <;> omega) ?_
  refine AW.exit ?_
  try simp
  refine hK133 _ _ _ ?_
  refine SQ [] [none, none] fun _ _ g r => ?_
  try simp [h1, h1_]
  and_intros <;> first | exact g _ (by kernel_rfl) | refine r _ _ _ ?_ | omega | (simp [h1, h1_, maxLen] <;> omega)
  refine WK [(4, AV.slc 2 0 1 v4.length false)] [(0, .cells [AV.map 1]), (1, .mp (mpA (AV.int .i64) flow_step.av v1)), (2, .grow (List.map (AV.int .i64) v4))] 3 (by simp [h1, h1_]) (by simp [h1, h1_]) ?_
  simp only [Option.some.injEq] at hF
  subst hF
  refine AW.ret (hQ _ _ _ ?_ (matchO_0 ?_)).1
  ·simp [Try.f63, h1, h1_]
  ·simp [h1, h1_]
theorem w_flow_Reached (k : Nat) (v0 : Int) (v1 : (List api_Arc)) (v2 : (List Int)) (v3 : (List Int)) (hF : flow_Reached k v0 v1 v2 = some v3) :
  FCall Try.prog 48 [AV.agg [AV.int .i64 v0, AV.lst false false (List.map api_Arc.av v1)], AV.lst false false (List.map (AV.int .i64) v2)] [] (AV.slc 0 0 1 v3.length false) [some (.grow (List.map (AV.int .i64) v3))] := by
 unfold flow_Reached at hF
 refine EN Try.func48 ?_
 intro c0 w0 Q h0 hQ
 refine WK [(0, AV.agg [Iz v0, AV.lst false false (List.map api_Arc.av v1)]), (1, Lz v2)] [] 0 (by simp) (by simp) ?_
 refine SQ [] [none, none] fun _ _ g r => ?_
 try simp
 and_intros <;> first | exact g _ (by kernel_rfl) | refine r _ _ _ ?_ | omega | (simp [maxLen] <;> omega)
 refine WK [(1, Lz v2), (2, AV.ptr 0 0)] [(0, .cells [Iz v0, AV.lst false false (List.map api_Arc.av v1)])] 1 (by simp) (by simp) ?_
 refine SQ [] [none, none, none, none, none, none] fun _ _ g r => ?_
 try simp
 and_intros
 try any_goals first | omega | (simp [maxLen] <;> omega)
 obtain ⟨v4, h1, hF⟩ := bnd1_elim hF
 refine AC (w_flow_open_v2 k _ _ _ _ h1) (.cons (.same (by simp)) (.cons (.same (by simp)) .nil)) ?_
 try simp
 and_intros
 try any_goals first | omega | (simp [maxLen] <;> omega)
 obtain ⟨v5, h2, hF⟩ := bnd1_elim hF
 refine AC (w_flow_residual_search k _ _ _ _ _ h2) (.cons (.same (by simp)) .nil) ?_
 try simp
 and_intros <;> first | exact g _ (by kernel_rfl) | refine r _ _ _ ?_ | omega | (simp [maxLen] <;> omega)
 refine WK [(2, AV.ptr 0 0), (5, AV.ptr 2 0)] [(0, .cells [Iz v0, AV.lst false false (List.map api_Arc.av v1)]), (1, .mp (mpA (AV.int .i64) flow_step.av v5)), (2, .cells [AV.map 1])] 3 (by simp) (by simp) ?_
 refine SQ [] [none, none, none, none, none] fun _ _ g r => ?_
 try simp
 and_intros
 try any_goals first | omega | (simp [maxLen] <;> omega)
 obtain ⟨v6, h3, hF⟩ := bnd1_elim hF
 refine aCall_l (w_lists_Where_Reached_1 k _ _ _ h3) (by simp) [2, 1] [] [] rfl (.cons (.same (by simp)) (.cons (.same (by simp)) .nil)) (by simp) (by decide) (by simp) (by simp) (.inl rfl) (by simp) (by simp) ?_
 try simp
 and_intros <;> first | exact g _ (by kernel_rfl) | refine r _ _ _ ?_ | omega | (simp [maxLen] <;> omega)
 refine RM h0 [(0, 3)] [(4, AV.slc 0 0 1 v6.length false)] [(0, .grow (List.map (AV.int .i64) v6))] 1 (by simp) (by simp) ?_
 simp only [Option.some.injEq] at hF
 subst hF
 refine AW.ret (hQ _ _ _ ?_ (matchO_0 ?_)).1
 ·simp [Try.f48]
 ·simp
theorem w_cut_Nearest (k : Nat) (v0 : Int) (v1 : (List api_Arc)) (v2 : (List Int)) (v3 : Int) (hF : cut_Nearest k v0 v1 = some (v2, v3)) :
  FCall Try.prog 31 [AV.agg [AV.int .i64 v0, AV.lst false false (List.map api_Arc.av v1)]] [] (AV.tup [AV.slc 0 0 1 v2.length false, AV.int .i64 v3]) [some (.grow (List.map (AV.int .i64) v2))] := by
 unfold cut_Nearest at hF
 refine EN Try.func31 ?_
 intro c0 w0 Q h0 hQ
 refine WK [(0, AV.agg [Iz v0, AV.lst false false (List.map api_Arc.av v1)])] [] 0 (by simp) (by simp) ?_
 refine SQ [] [none, none, none] fun _ _ g r => ?_
 try simp
 and_intros <;> first | exact g _ (by kernel_rfl) | refine r _ _ _ ?_ | omega | (simp [maxLen] <;> omega)
 refine WK [(1, AV.ptr 0 0)] [(0, .cells [Iz v0, AV.lst false false (List.map api_Arc.av v1)])] 1 (by simp) (by simp) ?_
 refine SQ [] [none, none, none, none, none, none, none] fun _ _ g r => ?_
 try simp
 and_intros
 try any_goals first | omega | (simp [maxLen] <;> omega)
 obtain ⟨v4, v5, h1, hF⟩ := bnd2_elim hF
 refine AC (w_flow_Max k _ _ _ _ h1) (.cons (.same (by simp)) .nil) ?_
 try simp
 and_intros <;> first | exact g _ (by kernel_rfl) | refine r _ _ _ ?_ | omega | (simp [maxLen] <;> omega)
 refine WK [(1, AV.ptr 0 0), (4, AV.slc 1 0 1 v4.length false), (5, Iz v5)] [(0, .cells [Iz v0, AV.lst false false (List.map api_Arc.av v1)]), (1, .grow (List.map (AV.int .i64) v4))] 2 (by simp) (by simp) ?_
 refine AW.frz 1 (o := .grow (List.map (AV.int .i64) v4)) (by simp) rfl [(4, Lz v4)] [] ⟨(.l (by simp) (by simp) (by simp) (by simp)), trivial⟩ trivial ?_
 refine WK [(1, AV.ptr 0 0), (4, Lz v4), (5, Iz v5)] [(0, .cells [Iz v0, AV.lst false false (List.map api_Arc.av v1)])] 2 (by simp) (by simp) ?_
 refine AW.seq fun K13 hK13 => ?_
 refine SQ [] [none, none] fun _ _ g r => ?_
 try simp
 and_intros <;> first | exact g _ (by kernel_rfl) | refine r _ _ _ ?_ | omega | (simp [maxLen] <;> omega)
 refine WK [(1, AV.ptr 0 0), (4, Lz v4), (5, Iz v5), (12, AV.bool (v5 != 0))] [(0, .cells [Iz v0, AV.lst false false (List.map api_Arc.av v1)])] 2 (by simp) (by simp) ?_
 by_cases h2 : v5 ≠ 0
 ·replace hF := ite_t h2 hF
  have h2_ := eqb_f h2
  have h2__ := neb_t h2
  have F1 := And.intro h2 (And.intro h2_ h2__)
  refine CT (by simp [F1] <;> omega) ?_
  refine SQ [] [none, none, none] fun _ _ g r => ?_
  try simp [F1]
  and_intros <;> first | exact g _ (by kernel_rfl) | refine r _ _ _ ?_ | omega | (simp [maxLen, F1] <;> omega)
  refine WK [(2, AV.lst true true (List.map (AV.int .i64) ([] : List Int))), (3, Iz v5)] [] 2 (by simp [F1]) (by simp [F1]) ?_
  refine AW.own' 2 1 true (by simp [F1]) (by decide) ?_
  refine RM h0 [(0, 2)] [(2, AV.slc 0 0 1 (([] : List Int).length) false), (3, Iz v5)] [(0, .grow (List.map (AV.int .i64) ([] : List Int)))] 1 (by simp [F1]) (by simp [F1]) ?_
  simp only [Option.some.injEq, Prod.mk.injEq] at hF
  obtain ⟨e0, e1⟩ := hF
  subst e0 e1
  refine AW.ret (hQ _ _ _ ?_ (matchO_0 ?_)).1
  ·simp [Try.f31, F1]
  ·simp [F1]
 ·replace hF := ite_f h2 hF
  have h2q : v5 = 0 := Classical.not_not.1 h2
  have h2_ := eqb_t h2q
  have h2__ := neb_f h2q
  have F2 := And.intro h2_ (And.intro h2__ h2q)
  refine CF (by simp [F2] <;> omega) ?_
  refine AW.skip ?_
  refine hK13 _ _ _ ?_
  refine SQ [] [none, none, none, none, none] fun _ _ g r => ?_
  try simp [F2]
  and_intros
  try any_goals first | omega | (simp [maxLen, F2] <;> omega)
  obtain ⟨v6, h3, hF⟩ := bnd1_elim hF
  refine AC (w_flow_Reached k _ _ _ _ h3) (.cons (.same (by simp [F2])) (.cons (.same (by simp [F2])) .nil)) ?_
  try simp [F2]
  and_intros <;> first | exact g _ (by kernel_rfl) | refine r _ _ _ ?_ | omega | (simp [maxLen, F2] <;> omega)
  refine RM h0 [(0, 2)] [(2, AV.slc 0 0 1 v6.length false), (3, Iz 0)] [(0, .grow (List.map (AV.int .i64) v6))] 1 (by simp [F2]) (by simp [F2]) ?_
  simp only [Option.some.injEq, Prod.mk.injEq] at hF
  obtain ⟨e0, e1⟩ := hF
  subst e0 e1
  refine AW.ret (hQ _ _ _ ?_ (matchO_0 ?_)).1
  ·simp [Try.f31, F2]
  ·simp [F2]
theorem w_lists_Rising (k : Nat) (v0 : (List Int)) (v1 : Int) (v2 : Int) (v3 : Bool) (hF : lists_Rising k v0 v1 v2 = some v3) :
  FCall Try.prog 50 [AV.lst false false (List.map (AV.int .i64) v0), AV.int .i64 v1, AV.int .i64 v2] [] (AV.bool v3) [] := by
 unfold lists_Rising at hF
 refine EN Try.func50 ?_
 intro c0 w0 Q h0 hQ
 refine WK [(0, Lz v0), (1, Iz v1), (2, Iz v2)] [] 0 (by simp) (by simp) ?_
 refine SQ [] [none] fun _ _ g r => ?_
 try simp
 and_intros <;> first | exact g _ (by kernel_rfl) | refine r _ _ _ ?_ | omega | (simp [maxLen] <;> omega)
 refine WK [(0, Lz v0), (1, Iz v1), (2, Iz v2)] [] 0 (by simp) (by simp) ?_
 refine AW.seq fun K167 hK167 => ?_
 refine SQ [] [none, none, none] fun _ _ g r => ?_
 try simp
 and_intros <;> first | exact g _ (by kernel_rfl) | refine r _ _ _ ?_ | omega | (simp [maxLen] <;> omega)
 refine WK [(0, Lz v0), (1, Iz v1), (2, Iz v2), (9, Lz v0), (10, Iz (v0.length : Int)), (11, Iz 0)] [] 0 (by simp) (by simp) ?_
 refine AW.block ?_
 refine AW.loopF (α := Int) (fun n v4 => lists_Rising.L1 k v0 v1 v2 n v4 = some v3) (fun v4 => [(0, Lz v0), (1, Iz v1), (2, Iz v2), (9, Lz v0), (10, Iz (v0.length : Int)), (11, Iz v4)]) (fun v4 => []) 0 k (0) hF (by simp) (by simp) (by simp) ?_
 rintro (_|n1) v4 hF K207 hK207
 ·try dsimp only at hF
  rw [lists_Rising.L1] at hF; cases hF
 try dsimp only at hF
 rw [lists_Rising.L1] at hF
 refine SQ [] [none] fun _ _ g r => ?_
 try simp
 and_intros <;> first | exact g _ (by kernel_rfl) | refine r _ _ _ ?_ | omega | (simp [maxLen] <;> omega)
 refine WK [(0, Lz v0), (1, Iz v1), (2, Iz v2), (9, Lz v0), (10, Iz (v0.length : Int)), (11, Iz v4), (12, AV.bool (decide (v4 < (v0.length : Int))))] [] 0 (by simp) (by simp) ?_
 refine AW.seq fun K209 hK209 => ?_
 by_cases h1 : v4 < (v0.length : Int)
 ·replace hF := ite_t h1 hF
  have h1_ := h1
  try simp at h1_
  refine CT (by simp [h1, h1_] <;> omega) ?_
  refine AW.skip ?_
  refine hK209 _ _ _ ?_
  refine AW.midF (α := Unit) (fun _ => lists_Rising.J2 k v4 (fun v4_ => lists_Rising.L1 k v0 v1 v2 n1 v4_) = some v3) (fun _ => [(0, Lz v0), (1, Iz v1), (2, Iz v2), (9, Lz v0), (10, Iz (v0.length : Int)), (11, Iz v4)]) (fun _ => []) 0 (fun K216 hK216 => ?_) ?_
  ·refine AW.block ?_
   refine SQ [] [none, none, none, none, none] fun _ _ g r => ?_
   obtain ⟨v5, h2, h3, h4, hF⟩ := idx_elim hF
   have h4_ := get_of h4
   try simp at h4_
   have h3_ := h3
   try simp at h3_
   have F1 := And.intro h1 (And.intro h1_ (And.intro h2 (And.intro h3 (And.intro h4 (And.intro h4_ h3_)))))
   try simp [F1]
   and_intros <;> first | exact g _ (by kernel_rfl) | refine r _ _ _ ?_ | omega | (simp [maxLen, F1] <;> omega)
   refine WK [(0, Lz v0), (1, Iz v1), (2, Iz v2), (7, Iz v4), (8, Iz v5), (9, Lz v0), (10, Iz (v0.length : Int)), (11, Iz v4)] [] 0 (by simp [F1]) (by simp [F1]) ?_
   refine SQ [] [none, none, none, none, some (19, false), some (19, false), some (19, false), none, none, some (24, false), some (24, false), some (24, false), some (27, true), some (27, true), some (27, true), some (27, true), some (27, true), some (27, true), some (27, true), some (24, false), none] fun _ _ g r => ?_
   by_cases h5 : v5 < v1
   ·replace hF := ite_t h5 hF
    have h5_ := h5
    try simp at h5_
    have F2 := And.intro F1 (And.intro h5 h5_)
    try simp [F2]
    and_intros <;> first | exact g _ (by kernel_rfl) | refine r _ _ _ ?_ | omega | (simp [maxLen, F2] <;> omega)
    refine WK [(0, Lz v0), (1, Iz v1), (2, Iz v2), (9, Lz v0), (10, Iz (v0.length : Int)), (11, Iz v4), (36, AV.bool true)] [] 0 (by simp [F2]) (by simp [F2]) ?_
    refine CT (by simp [F2]) ?_
    refine SQ [] [none] fun _ _ g r => ?_
    try simp [F2]
    and_intros <;> first | exact g _ (by kernel_rfl) | refine r _ _ _ ?_ | omega | (simp [maxLen, F2] <;> omega)
    refine WK [(6, AV.bool false)] [] 0 (by simp [F2]) (by simp [F2]) ?_
    simp only [Option.some.injEq] at hF
    subst hF
    refine AW.ret (hQ _ _ _ ?_ (matchO_0 ?_)).1
    ·simp [Try.f50, F2]
    ·simp [F2]
   ·replace hF := ite_f h5 hF
    have h5_ := h5
    try simp at h5_
    by_cases h6 : v2 < v5
    ·replace hF := ite_t h6 hF
     have h6_ := h6
     try simp at h6_
     have F3 := And.intro F1 (And.intro h5 (And.intro h5_ (And.intro h6 h6_)))
     try simp [F3]
     and_intros <;> first | exact g _ (by kernel_rfl) | refine r _ _ _ ?_ | omega | (simp [maxLen, F3] <;> omega)
     refine WK [(0, Lz v0), (1, Iz v1), (2, Iz v2), (9, Lz v0), (10, Iz (v0.length : Int)), (11, Iz v4), (36, AV.bool true)] [] 0 (by simp [F3]) (by simp [F3]) ?_
     refine CT (by simp [F3]) ?_
     refine SQ [] [none] fun _ _ g r => ?_
     try simp [F3]
     and_intros <;> first | exact g _ (by kernel_rfl) | refine r _ _ _ ?_ | omega | (simp [maxLen, F3] <;> omega)
     refine WK [(6, AV.bool false)] [] 0 (by simp [F3]) (by simp [F3]) ?_
     simp only [Option.some.injEq] at hF
     subst hF
     refine AW.ret (hQ _ _ _ ?_ (matchO_0 ?_)).1
     ·simp [Try.f50, F3]
     ·simp [F3]
    ·replace hF := ite_f h6 hF
     have h6_ := h6
     try simp at h6_
     by_cases h7 : 0 < v4
     ·replace hF := ite_t h7 hF
      have h7_ := h7
      try simp at h7_
      obtain ⟨v6, h8, h9, h10, hF⟩ := idx_elim hF
      have h10_ := get_of h10
      try simp at h10_
      have h9_ := h9
      try simp at h9_
      have F4 := And.intro F1 (And.intro h5 (And.intro h5_ (And.intro h6 (And.intro h6_ (And.intro h7 (And.intro h7_ (And.intro h8 (And.intro h9 (And.intro h10 (And.intro h10_ h9_))))))))))
      try simp [F4]
      and_intros <;> first | exact g _ (by kernel_rfl) | refine r _ _ _ ?_ | omega | (simp [maxLen, F4] <;> omega)
      refine WK [(0, Lz v0), (1, Iz v1), (2, Iz v2), (9, Lz v0), (10, Iz (v0.length : Int)), (11, Iz v4), (36, AV.bool (decide (v5 ≤ v6)))] [] 0 (by simp [F4]) (by simp [F4]) ?_
      by_cases h11 : v5 ≤ v6
      ·replace hF := ite_t h11 hF
       have h11_ := h11
       try simp at h11_
       have F5 := And.intro F4 (And.intro h11 h11_)
       refine CT (by simp [F5] <;> omega) ?_
       refine SQ [] [none] fun _ _ g r => ?_
       try simp [F5]
       and_intros <;> first | exact g _ (by kernel_rfl) | refine r _ _ _ ?_ | omega | (simp [maxLen, F5] <;> omega)
       refine WK [(6, AV.bool false)] [] 0 (by simp [F5]) (by simp [F5]) ?_
       simp only [Option.some.injEq] at hF
       subst hF
       refine AW.ret (hQ _ _ _ ?_ (matchO_0 ?_)).1
       ·simp [Try.f50, F5]
       ·simp [F5]
      ·replace hF := ite_f h11 hF
       have h11_ := h11
       try simp at h11_
       have F6 := And.intro F4 (And.intro h11 h11_)
       refine CF (by simp [F6] <;> omega) ?_
       refine AW.skip ?_
       refine hK216 _ _ _ ?_
       exact JN (()) hF (by simp [F6]) (by simp [F6])
     ·replace hF := ite_f h7 hF
      have h7_ := h7
      try simp at h7_
      have F7 := And.intro F1 (And.intro h5 (And.intro h5_ (And.intro h6 (And.intro h6_ (And.intro h7 h7_)))))
      try simp [F7]
      and_intros <;> first | exact g _ (by kernel_rfl) | refine r _ _ _ ?_ | omega | (simp [maxLen, F7] <;> omega)
      refine WK [(0, Lz v0), (1, Iz v1), (2, Iz v2), (9, Lz v0), (10, Iz (v0.length : Int)), (11, Iz v4), (36, AV.bool false)] [] 0 (by simp [F7]) (by simp [F7]) ?_
      refine CF (by simp [F7]) ?_
      refine AW.skip ?_
      refine hK216 _ _ _ ?_
      exact JN (()) hF (by simp [F7]) (by simp [F7])
  ·rintro ⟨⟩ hF
   try dsimp only at hF
   unfold lists_Rising.J2 at hF
   refine RG [] [none, none] fun _ _ g r => ?_
   try simp [h1, h1_]
   and_intros <;> first | exact g _ (by kernel_rfl) | refine r _ _ _ ?_ | omega | (simp [h1, h1_, maxLen] <;> omega)
   refine hK207 _ _ _ ?_
   exact NX (k' := n1) (IntKind.wrap .i64 (v4 + 1)) hF (by simp [h1, h1_]) (by simp [h1, h1_])
 ·replace hF := ite_f h1 hF
  have h1_ := h1
  try simp at h1_
  refine CF (by simp [h1, h1_] <;> omega) ?_
  refine AW.exit ?_
  try simp
  refine hK167 _ _ _ ?_
  refine SQ [] [none] fun _ _ g r => ?_
  try simp [h1, h1_]
  and_intros <;> first | exact g _ (by kernel_rfl) | refine r _ _ _ ?_ | omega | (simp [h1, h1_, maxLen] <;> omega)
  refine WK [(6, AV.bool true)] [] 0 (by simp [h1, h1_]) (by simp [h1, h1_]) ?_
  simp only [Option.some.injEq] at hF
  subst hF
  refine AW.ret (hQ _ _ _ ?_ (matchO_0 ?_)).1
  ·simp [Try.f50, h1, h1_]
  ·simp [h1, h1_]
theorem w_slices_Index_int_int (k : Nat) (v0 : (List Int)) (v1 : Int) (v2 : Int) (hF : slices_Index_int_int k v0 v1 = some v2) :
  FCall Try.prog 65 [AV.lst false false (List.map (AV.int .i64) v0), AV.int .i64 v1] [] (AV.int .i64 v2) [] := by
 unfold slices_Index_int_int at hF
 refine EN Try.func65 ?_
 intro c0 w0 Q h0 hQ
 refine WK [(0, Lz v0), (1, Iz v1)] [] 0 (by simp) (by simp) ?_
 refine SQ [] [none] fun _ _ g r => ?_
 try simp
 and_intros <;> first | exact g _ (by kernel_rfl) | refine r _ _ _ ?_ | omega | (simp [maxLen] <;> omega)
 refine WK [(0, Lz v0), (1, Iz v1)] [] 0 (by simp) (by simp) ?_
 refine AW.seq fun K131 hK131 => ?_
 refine SQ [] [none, none, none] fun _ _ g r => ?_
 try simp
 and_intros <;> first | exact g _ (by kernel_rfl) | refine r _ _ _ ?_ | omega | (simp [maxLen] <;> omega)
 refine WK [(0, Lz v0), (1, Iz v1), (7, Iz (v0.length : Int)), (8, Iz 0)] [] 0 (by simp) (by simp) ?_
 refine AW.block ?_
 refine AW.loopF (α := Int) (fun n v3 => slices_Index_int_int.L1 k v0 v1 n v3 = some v2) (fun v3 => [(0, Lz v0), (1, Iz v1), (7, Iz (v0.length : Int)), (8, Iz v3)]) (fun v3 => []) 0 k (0) hF (by simp) (by simp) (by simp) ?_
 rintro (_|n1) v3 hF K163 hK163
 ·try dsimp only at hF
  rw [slices_Index_int_int.L1] at hF; cases hF
 try dsimp only at hF
 rw [slices_Index_int_int.L1] at hF
 refine SQ [] [none] fun _ _ g r => ?_
 try simp
 and_intros <;> first | exact g _ (by kernel_rfl) | refine r _ _ _ ?_ | omega | (simp [maxLen] <;> omega)
 refine WK [(0, Lz v0), (1, Iz v1), (7, Iz (v0.length : Int)), (8, Iz v3), (9, AV.bool (decide (v3 < (v0.length : Int))))] [] 0 (by simp) (by simp) ?_
 refine AW.seq fun K165 hK165 => ?_
 by_cases h1 : v3 < (v0.length : Int)
 ·replace hF := ite_t h1 hF
  have h1_ := h1
  try simp at h1_
  refine CT (by simp [h1, h1_] <;> omega) ?_
  refine AW.skip ?_
  refine hK165 _ _ _ ?_
  refine AW.seq fun K169 hK169 => ?_
  refine AW.block ?_
  refine SQ [] [none, none] fun _ _ g r => ?_
  try simp [h1, h1_]
  and_intros <;> first | exact g _ (by kernel_rfl) | refine r _ _ _ ?_ | omega | (simp [h1, h1_, maxLen] <;> omega)
  refine WK [(0, Lz v0), (1, Iz v1), (5, Iz v3), (7, Iz (v0.length : Int)), (8, Iz v3)] [] 0 (by simp [h1, h1_]) (by simp [h1, h1_]) ?_
  refine SQ [] [none, none, none, none, none, none] fun _ _ g r => ?_
  obtain ⟨v4, h2, h3, h4, hF⟩ := idx_elim hF
  have h4_ := get_of h4
  try simp at h4_
  have h3_ := h3
  try simp at h3_
  have F1 := And.intro h1 (And.intro h1_ (And.intro h2 (And.intro h3 (And.intro h4 (And.intro h4_ h3_)))))
  try simp [F1]
  and_intros <;> first | exact g _ (by kernel_rfl) | refine r _ _ _ ?_ | omega | (simp [maxLen, F1] <;> omega)
  refine WK [(0, Lz v0), (1, Iz v1), (5, Iz v3), (7, Iz (v0.length : Int)), (8, Iz v3), (16, AV.bool (v1 == v4))] [] 0 (by simp [F1]) (by simp [F1]) ?_
  by_cases h5 : v1 = v4
  ·replace hF := ite_t h5 hF
   have h5q : v1 = v4 := h5
   have h5_ := eqb_t h5q
   have h5__ := neb_f h5q
   have F2 := And.intro F1 (And.intro h5_ h5__)
   refine CT (by simp [F2] <;> omega) ?_
   refine SQ [] [none, none] fun _ _ g r => ?_
   try simp [F2]
   and_intros <;> first | exact g _ (by kernel_rfl) | refine r _ _ _ ?_ | omega | (simp [maxLen, F2] <;> omega)
   refine WK [(4, Iz v3)] [] 0 (by simp [F2]) (by simp [F2]) ?_
   simp only [Option.some.injEq] at hF
   subst hF
   refine AW.ret (hQ _ _ _ ?_ (matchO_0 ?_)).1
   ·simp [Try.f65, F2]
   ·simp [F2]
  ·replace hF := ite_f h5 hF
   have h5_ := eqb_f h5
   have h5__ := neb_t h5
   have F3 := And.intro F1 (And.intro h5 (And.intro h5_ h5__))
   refine CF (by simp [F3] <;> omega) ?_
   refine AW.skip ?_
   refine hK169 _ _ _ ?_
   refine RG [] [none, none] fun _ _ g r => ?_
   try simp [F3]
   and_intros <;> first | exact g _ (by kernel_rfl) | refine r _ _ _ ?_ | omega | (simp [maxLen, F3] <;> omega)
   refine hK163 _ _ _ ?_
   exact NX (k' := n1) (IntKind.wrap .i64 (v3 + 1)) hF (by simp [F3]) (by simp [F3])
 ·replace hF := ite_f h1 hF
  have h1_ := h1
  try simp at h1_
  refine CF (by simp [h1, h1_] <;> omega) ?_
  refine AW.exit ?_
  try simp
  refine hK131 _ _ _ ?_
  refine SQ [] [none] fun _ _ g r => ?_
  try simp [h1, h1_]
  and_intros <;> first | exact g _ (by kernel_rfl) | refine r _ _ _ ?_ | omega | (simp [h1, h1_, maxLen] <;> omega)
  refine WK [(4, Iz (-1))] [] 0 (by simp [h1, h1_]) (by simp [h1, h1_]) ?_
  simp only [Option.some.injEq] at hF
  subst hF
  refine AW.ret (hQ _ _ _ ?_ (matchO_0 ?_)).1
  ·simp [Try.f65, h1, h1_]
  ·simp [h1, h1_]
theorem w_slices_Contains_int_int (k : Nat) (v0 : (List Int)) (v1 : Int) (v2 : Bool) (hF : slices_Contains_int_int k v0 v1 = some v2) :
  FCall Try.prog 51 [AV.lst false false (List.map (AV.int .i64) v0), AV.int .i64 v1] [] (AV.bool v2) [] := by
 unfold slices_Contains_int_int at hF
 refine EN Try.func51 ?_
 intro c0 w0 Q h0 hQ
 refine WK [(0, Lz v0), (1, Iz v1)] [] 0 (by simp) (by simp) ?_
 refine SQ [] [none] fun _ _ g r => ?_
 try simp
 and_intros <;> first | exact g _ (by kernel_rfl) | refine r _ _ _ ?_ | omega | (simp [maxLen] <;> omega)
 refine WK [(0, Lz v0), (1, Iz v1)] [] 0 (by simp) (by simp) ?_
 refine SQ [] [none, none, none, none, none] fun _ _ g r => ?_
 try simp
 and_intros
 try any_goals first | omega | (simp [maxLen] <;> omega)
 obtain ⟨v3, h1, hF⟩ := bnd1_elim hF
 refine AC (w_slices_Index_int_int k _ _ _ h1) (.cons (.same (by simp)) (.cons (.same (by simp)) .nil)) ?_
 try simp
 and_intros <;> first | exact g _ (by kernel_rfl) | refine r _ _ _ ?_ | omega | (simp [maxLen] <;> omega)
 refine WK [(4, AV.bool (decide (0 ≤ v3)))] [] 0 (by simp) (by simp) ?_
 simp only [Option.some.injEq] at hF
 subst hF
 refine AW.ret (hQ _ _ _ ?_ (matchO_0 ?_)).1
 ·simp [Try.f51]
 ·simp
theorem w_cut_Valid (k : Nat) (v0 : Int) (v1 : (List api_Arc)) (v2 : (List Int)) (v3 : Bool) (hF : cut_Valid k v0 v1 v2 = some v3) :
  FCall Try.prog 37 [AV.agg [AV.int .i64 v0, AV.lst false false (List.map api_Arc.av v1)], AV.lst false false (List.map (AV.int .i64) v2)] [] (AV.bool v3) [] := by
 unfold cut_Valid at hF
 refine EN Try.func37 ?_
 intro c0 w0 Q h0 hQ
 refine WK [(0, AV.agg [Iz v0, AV.lst false false (List.map api_Arc.av v1)]), (1, Lz v2)] [] 0 (by simp) (by simp) ?_
 refine SQ [] [none, none] fun _ _ g r => ?_
 try simp
 and_intros <;> first | exact g _ (by kernel_rfl) | refine r _ _ _ ?_ | omega | (simp [maxLen] <;> omega)
 refine WK [(1, Lz v2), (2, AV.ptr 0 0)] [(0, .cells [Iz v0, AV.lst false false (List.map api_Arc.av v1)])] 1 (by simp) (by simp) ?_
 refine SQ [] [none, none, none, none, some (8, true), some (8, true), some (8, true), some (8, true), some (8, true), none, none, some (15, true), some (15, true), none, none, some (19, true), some (19, true), some (19, true), none, none] fun _ _ g r => ?_
 try simp
 and_intros
 try any_goals first | omega | (simp [maxLen] <;> omega)
 obtain ⟨v4, h1, hF⟩ := bnd1_elim hF
 refine AC (w_flow_Check k _ _ _ h1) (.cons (.same (by simp)) .nil) ?_
 by_cases h2 : v4 = 0
 ·replace hF := ite_t h2 hF
  have h2q : v4 = 0 := h2
  have h2_ := eqb_t h2q
  have h2__ := neb_f h2q
  have F1 := And.intro h2_ (And.intro h2__ h2q)
  try simp [F1]
  and_intros
  try any_goals first | omega | (simp [maxLen, F1] <;> omega)
  obtain ⟨v5, h3, hF⟩ := bnd1_elim hF
  refine AC (w_lists_Rising k _ _ _ _ h3) (.cons (.same (by simp [F1])) (.cons (.same (by simp [F1])) (.cons (.same (by simp [F1])) .nil))) ?_
  by_cases h4 : v5 = true
  ·replace hF := ite_t h4 hF
   have h4_ := h4
   try simp at h4_
   have F2 := And.intro F1 (And.intro h4 h4_)
   try simp [F2]
   and_intros
   try any_goals first | omega | (simp [maxLen, F2] <;> omega)
   obtain ⟨v6, h5, hF⟩ := bnd1_elim hF
   refine AC (w_slices_Contains_int_int k _ _ _ h5) (.cons (.same (by simp [F2])) (.cons (.same (by simp [F2])) .nil)) ?_
   by_cases h6 : v6 = true
   ·replace hF := ite_t h6 hF
    have h6_ := h6
    try simp at h6_
    have F3 := And.intro F2 (And.intro h6 h6_)
    try simp [F3]
    and_intros
    try any_goals first | omega | (simp [maxLen, F3] <;> omega)
    obtain ⟨v7, h7, hF⟩ := bnd1_elim hF
    refine AC (w_slices_Contains_int_int k _ _ _ h7) (.cons (.same (by simp [F3])) (.cons (.same (by simp [F3])) .nil)) ?_
    try simp [F3]
    and_intros <;> first | exact g _ (by kernel_rfl) | refine r _ _ _ ?_ | omega | (simp [maxLen, F3] <;> omega)
    refine WK [(4, AV.bool (!v7))] [] 1 (by simp [F3]) (by simp [F3]) ?_
    simp only [Option.some.injEq] at hF
    subst hF
    refine AW.ret (hQ _ _ _ ?_ (matchO_0 ?_)).1
    ·simp [Try.f37, F3]
    ·simp [F3]
   ·replace hF := ite_f h6 hF
    have h6_ := h6
    try simp at h6_
    have F4 := And.intro F2 (And.intro h6 h6_)
    try simp [F4]
    and_intros <;> first | exact g _ (by kernel_rfl) | refine r _ _ _ ?_ | omega | (simp [maxLen, F4] <;> omega)
    refine WK [(4, AV.bool false)] [] 1 (by simp [F4]) (by simp [F4]) ?_
    simp only [Option.some.injEq] at hF
    subst hF
    refine AW.ret (hQ _ _ _ ?_ (matchO_0 ?_)).1
    ·simp [Try.f37, F4]
    ·simp [F4]
  ·replace hF := ite_f h4 hF
   have h4_ := h4
   try simp at h4_
   have F5 := And.intro F1 (And.intro h4 h4_)
   try simp [F5]
   and_intros <;> first | exact g _ (by kernel_rfl) | refine r _ _ _ ?_ | omega | (simp [maxLen, F5] <;> omega)
   refine WK [(4, AV.bool false)] [] 1 (by simp [F5]) (by simp [F5]) ?_
   simp only [Option.some.injEq] at hF
   subst hF
   refine AW.ret (hQ _ _ _ ?_ (matchO_0 ?_)).1
   ·simp [Try.f37, F5]
   ·simp [F5]
 ·replace hF := ite_f h2 hF
  have h2_ := eqb_f h2
  have h2__ := neb_t h2
  have F6 := And.intro h2 (And.intro h2_ h2__)
  try simp [F6]
  and_intros <;> first | exact g _ (by kernel_rfl) | refine r _ _ _ ?_ | omega | (simp [maxLen, F6] <;> omega)
  refine WK [(4, AV.bool false)] [] 1 (by simp [F6]) (by simp [F6]) ?_
  simp only [Option.some.injEq] at hF
  subst hF
  refine AW.ret (hQ _ _ _ ?_ (matchO_0 ?_)).1
  ·simp [Try.f37, F6]
  ·simp [F6]
theorem w_cut_Capacity (k : Nat) (v0 : Int) (v1 : (List api_Arc)) (v2 : (List Int)) (v3 : Int) (hF : cut_Capacity k v0 v1 v2 = some v3) :
  FCall Try.prog 36 [AV.agg [AV.int .i64 v0, AV.lst false false (List.map api_Arc.av v1)], AV.lst false false (List.map (AV.int .i64) v2)] [] (AV.int .i64 v3) [] := by
 unfold cut_Capacity at hF
 refine EN Try.func36 ?_
 intro c0 w0 Q h0 hQ
 refine WK [(0, AV.agg [Iz v0, AV.lst false false (List.map api_Arc.av v1)]), (1, Lz v2)] [] 0 (by simp [-List.reduceReplicate, sOf_set, ofI_set, allU8_set]) (by simp [-List.reduceReplicate, sOf_set, ofI_set, allU8_set]) ?_
 refine SQ [] [none, none] fun _ _ g r => ?_
 try simp [-List.reduceReplicate, sOf_set, ofI_set, allU8_set]
 and_intros <;> first | exact g _ (by kernel_rfl) | refine r _ _ _ ?_ | omega | (simp [-List.reduceReplicate, sOf_set, ofI_set, allU8_set, maxLen] <;> omega)
 refine WK [(1, Lz v2), (2, AV.ptr 0 0)] [(0, .cells [Iz v0, AV.lst false false (List.map api_Arc.av v1)])] 1 (by simp [-List.reduceReplicate, sOf_set, ofI_set, allU8_set]) (by simp [-List.reduceReplicate, sOf_set, ofI_set, allU8_set]) ?_
 refine AW.seq fun K167 hK167 => ?_
 refine SQ [] [none, none, none, none] fun _ _ g r => ?_
 try simp [-List.reduceReplicate, sOf_set, ofI_set, allU8_set]
 and_intros
 try any_goals first | omega | (simp [-List.reduceReplicate, sOf_set, ofI_set, allU8_set, maxLen] <;> omega)
 obtain ⟨v4, h1, hF⟩ := bnd1_elim hF
 refine AC (w_cut_Valid k _ _ _ _ h1) (.cons (.same (by simp)) (.cons (.same (by simp)) .nil)) ?_
 try simp [-List.reduceReplicate, sOf_set, ofI_set, allU8_set]
 and_intros <;> first | exact g _ (by kernel_rfl) | refine r _ _ _ ?_ | omega | (simp [-List.reduceReplicate, sOf_set, ofI_set, allU8_set, maxLen] <;> omega)
 refine WK [(1, Lz v2), (2, AV.ptr 0 0), (14, AV.bool (!v4))] [(0, .cells [Iz v0, AV.lst false false (List.map api_Arc.av v1)])] 1 (by simp [-List.reduceReplicate, sOf_set, ofI_set, allU8_set]) (by simp [-List.reduceReplicate, sOf_set, ofI_set, allU8_set]) ?_
 by_cases h2 : (!v4) = true
 ·replace hF := ite_t h2 hF
  have h2_ := h2
  try simp [-List.reduceReplicate] at h2_
  refine CT (by simp [-List.reduceReplicate, sOf_set, ofI_set, allU8_set, h2, h2_] <;> omega) ?_
  refine SQ [] [none] fun _ _ g r => ?_
  try simp [-List.reduceReplicate, sOf_set, ofI_set, allU8_set, h2, h2_]
  and_intros <;> first | exact g _ (by kernel_rfl) | refine r _ _ _ ?_ | omega | (simp [-List.reduceReplicate, sOf_set, ofI_set, allU8_set, h2, h2_, maxLen] <;> omega)
  refine WK [(4, Iz 0)] [] 1 (by simp [-List.reduceReplicate, sOf_set, ofI_set, allU8_set, h2, h2_]) (by simp [-List.reduceReplicate, sOf_set, ofI_set, allU8_set, h2, h2_]) ?_
  simp only [Option.some.injEq] at hF
  subst hF
  refine AW.ret (hQ _ _ _ ?_ (matchO_0 ?_)).1
  ·simp [Try.f36, h2, h2_]
  ·simp [h2, h2_]
 ·replace hF := ite_f h2 hF
  have h2_ := h2
  try simp [-List.reduceReplicate] at h2_
  refine CF (by simp [-List.reduceReplicate, sOf_set, ofI_set, allU8_set, h2, h2_] <;> omega) ?_
  refine AW.skip ?_
  refine hK167 _ _ _ ?_
  refine SQ [17] [none, none, none, none] fun _ _ g r => ?_
  obtain ⟨h3, hF⟩ := chk_elim hF
  have F1 := And.intro h2 (And.intro h2_ h3)
  try simp [-List.reduceReplicate, sOf_set, ofI_set, allU8_set, F1]
  and_intros <;> first | exact g _ (by kernel_rfl) | refine r _ _ _ ?_ | omega | (simp [-List.reduceReplicate, sOf_set, ofI_set, allU8_set, maxLen, F1] <;> omega)
  refine WK [(1, Lz v2), (2, AV.ptr 0 0), (5, AV.slc 1 0 1 ((List.replicate (v0).toNat false).length) true)] [(0, .cells [Iz v0, AV.lst false false (List.map api_Arc.av v1)]), (1, .cells (List.map AV.bool (List.replicate (v0).toNat false)))] 2 (by simp [-List.reduceReplicate, sOf_set, ofI_set, allU8_set, F1]) (by simp [-List.reduceReplicate, sOf_set, ofI_set, allU8_set, F1]) ?_
  refine AW.seq fun K205 hK205 => ?_
  refine SQ [] [none, none, none] fun _ _ g r => ?_
  try simp [-List.reduceReplicate, sOf_set, ofI_set, allU8_set, F1]
  and_intros <;> first | exact g _ (by kernel_rfl) | refine r _ _ _ ?_ | omega | (simp [-List.reduceReplicate, sOf_set, ofI_set, allU8_set, maxLen, F1] <;> omega)
  refine WK [(2, AV.ptr 0 0), (5, AV.slc 1 0 1 ((List.replicate (v0).toNat false).length) true), (18, Lz v2), (19, Iz (v2.length : Int)), (20, Iz 0)] [(0, .cells [Iz v0, AV.lst false false (List.map api_Arc.av v1)]), (1, .cells (List.map AV.bool (List.replicate (v0).toNat false)))] 2 (by simp [-List.reduceReplicate, sOf_set, ofI_set, allU8_set, F1]) (by simp [-List.reduceReplicate, sOf_set, ofI_set, allU8_set, F1]) ?_
  refine AW.block ?_
  refine AW.loopF (α := (Int × (List Bool))) (fun n (v5, v6) => cut_Capacity.L1 k v1 v2 n v5 v6 = some v3) (fun (v5, v6) => [(2, AV.ptr 0 0), (5, AV.slc 1 0 1 v6.length true), (18, Lz v2), (19, Iz (v2.length : Int)), (20, Iz v5)]) (fun (v5, v6) => [(0, .cells [Iz v0, AV.lst false false (List.map api_Arc.av v1)]), (1, .cells (List.map AV.bool v6))]) 2 k ((0, (List.replicate (v0).toNat false))) hF (by simp [-List.reduceReplicate, sOf_set, ofI_set, allU8_set, F1]) (by simp [-List.reduceReplicate, sOf_set, ofI_set, allU8_set, F1]) (by simp) ?_
  rintro (_|n1) ⟨v5, v6⟩ hF K231 hK231
  ·try dsimp only at hF
   rw [cut_Capacity.L1] at hF; cases hF
  try dsimp only at hF
  rw [cut_Capacity.L1] at hF
  refine SQ [] [none] fun _ _ g r => ?_
  try simp [-List.reduceReplicate, sOf_set, ofI_set, allU8_set, F1]
  and_intros <;> first | exact g _ (by kernel_rfl) | refine r _ _ _ ?_ | omega | (simp [-List.reduceReplicate, sOf_set, ofI_set, allU8_set, maxLen, F1] <;> omega)
  refine WK [(2, AV.ptr 0 0), (5, AV.slc 1 0 1 v6.length true), (18, Lz v2), (19, Iz (v2.length : Int)), (20, Iz v5), (21, AV.bool (decide (v5 < (v2.length : Int))))] [(0, .cells [Iz v0, AV.lst false false (List.map api_Arc.av v1)]), (1, .cells (List.map AV.bool v6))] 2 (by simp [-List.reduceReplicate, sOf_set, ofI_set, allU8_set, F1]) (by simp [-List.reduceReplicate, sOf_set, ofI_set, allU8_set, F1]) ?_
  refine AW.seq fun K233 hK233 => ?_
  by_cases h4 : v5 < (v2.length : Int)
  ·replace hF := ite_t h4 hF
   have h4_ := h4
   try simp [-List.reduceReplicate] at h4_
   have F2 := And.intro F1 (And.intro h4 h4_)
   refine CT (by simp [-List.reduceReplicate, sOf_set, ofI_set, allU8_set, F2] <;> omega) ?_
   refine AW.skip ?_
   refine hK233 _ _ _ ?_
   refine AW.seq fun K236 hK236 => ?_
   refine AW.block ?_
   refine SQ [] [none, none, none] fun _ _ g r => ?_
   obtain ⟨v7, h5, h6, h7, hF⟩ := idx_elim hF
   have h7_ := get_of h7
   try simp [-List.reduceReplicate] at h7_
   have h6_ := h6
   try simp [-List.reduceReplicate] at h6_
   have F3 := And.intro F2 (And.intro h5 (And.intro h6 (And.intro h7 (And.intro h7_ h6_))))
   try simp [-List.reduceReplicate, sOf_set, ofI_set, allU8_set, F3]
   and_intros <;> first | exact g _ (by kernel_rfl) | refine r _ _ _ ?_ | omega | (simp [-List.reduceReplicate, sOf_set, ofI_set, allU8_set, maxLen, F3] <;> omega)
   refine WK [(2, AV.ptr 0 0), (5, AV.slc 1 0 1 v6.length true), (7, Iz v7), (18, Lz v2), (19, Iz (v2.length : Int)), (20, Iz v5)] [(0, .cells [Iz v0, AV.lst false false (List.map api_Arc.av v1)]), (1, .cells (List.map AV.bool v6))] 2 (by simp [-List.reduceReplicate, sOf_set, ofI_set, allU8_set, F3]) (by simp [-List.reduceReplicate, sOf_set, ofI_set, allU8_set, F3]) ?_
   refine RG [] [none, none, none, none] fun _ _ g r => ?_
   obtain ⟨⟨h8, h9⟩, hF⟩ := chk_elim hF
   have h9_ := ne_of_lt h9
   have F4 := And.intro F3 (And.intro h8 (And.intro h9 h9_))
   try simp [-List.reduceReplicate, sOf_set, ofI_set, allU8_set, F4]
   and_intros <;> first | exact g _ (by kernel_rfl) | refine r _ _ _ ?_ | omega | (simp [-List.reduceReplicate, sOf_set, ofI_set, allU8_set, maxLen, F4] <;> omega)
   refine hK236 _ _ _ ?_
   refine WK [(2, AV.ptr 0 0), (5, AV.slc 1 0 1 ((v6.set (v7).toNat true).length) true), (18, Lz v2), (19, Iz (v2.length : Int)), (20, Iz v5)] [(0, .cells [Iz v0, AV.lst false false (List.map api_Arc.av v1)]), (1, .cells (List.map AV.bool (v6.set (v7).toNat true)))] 2 (by simp [-List.reduceReplicate, sOf_set, ofI_set, allU8_set, F4]) (by simp [-List.reduceReplicate, sOf_set, ofI_set, allU8_set, F4]) ?_
   refine RG [] [none, none] fun _ _ g r => ?_
   try simp [-List.reduceReplicate, sOf_set, ofI_set, allU8_set, F4]
   and_intros <;> first | exact g _ (by kernel_rfl) | refine r _ _ _ ?_ | omega | (simp [-List.reduceReplicate, sOf_set, ofI_set, allU8_set, maxLen, F4] <;> omega)
   refine hK231 _ _ _ ?_
   exact NX (k' := n1) ((IntKind.wrap .i64 (v5 + 1), v6.set (v7).toNat true)) hF (by simp [-List.reduceReplicate, sOf_set, ofI_set, allU8_set, F4]) (by simp [-List.reduceReplicate, sOf_set, ofI_set, allU8_set, F4])
  ·replace hF := ite_f h4 hF
   have h4_ := h4
   try simp [-List.reduceReplicate] at h4_
   have F5 := And.intro F1 (And.intro h4 h4_)
   refine CF (by simp [-List.reduceReplicate, sOf_set, ofI_set, allU8_set, F5] <;> omega) ?_
   refine AW.exit ?_
   try simp [-List.reduceReplicate]
   refine hK205 _ _ _ ?_
   refine WK [(2, AV.ptr 0 0), (5, AV.slc 1 0 1 v6.length true)] [(0, .cells [Iz v0, AV.lst false false (List.map api_Arc.av v1)]), (1, .cells (List.map AV.bool v6))] 2 (by simp [-List.reduceReplicate, sOf_set, ofI_set, allU8_set, F5]) (by simp [-List.reduceReplicate, sOf_set, ofI_set, allU8_set, F5]) ?_
   refine AW.frz 1 (o := .cells (List.map AV.bool v6)) (by simp [-List.reduceReplicate, sOf_set, ofI_set, allU8_set, F5]) rfl [(5, AV.lst false true (List.map AV.bool v6))] [] ⟨(.l (by simp) (by simp) (by simp) (by simp)), trivial⟩ trivial ?_
   refine WK [(2, AV.ptr 0 0), (5, AV.lst false true (List.map AV.bool v6))] [(0, .cells [Iz v0, AV.lst false false (List.map api_Arc.av v1)])] 2 (by simp [-List.reduceReplicate, sOf_set, ofI_set, allU8_set, F5]) (by simp [-List.reduceReplicate, sOf_set, ofI_set, allU8_set, F5]) ?_
   refine SQ [] [none] fun _ _ g r => ?_
   try simp [-List.reduceReplicate, sOf_set, ofI_set, allU8_set, F5]
   and_intros <;> first | exact g _ (by kernel_rfl) | refine r _ _ _ ?_ | omega | (simp [-List.reduceReplicate, sOf_set, ofI_set, allU8_set, maxLen, F5] <;> omega)
   refine WK [(2, AV.ptr 0 0), (5, AV.lst false true (List.map AV.bool v6)), (8, Iz 0)] [(0, .cells [Iz v0, AV.lst false false (List.map api_Arc.av v1)])] 2 (by simp [-List.reduceReplicate, sOf_set, ofI_set, allU8_set, F5]) (by simp [-List.reduceReplicate, sOf_set, ofI_set, allU8_set, F5]) ?_
   refine AW.seq fun K283 hK283 => ?_
   refine SQ [] [none, none, none, none] fun _ _ g r => ?_
   try simp [-List.reduceReplicate, sOf_set, ofI_set, allU8_set, F5]
   and_intros <;> first | exact g _ (by kernel_rfl) | refine r _ _ _ ?_ | omega | (simp [-List.reduceReplicate, sOf_set, ofI_set, allU8_set, maxLen, F5] <;> omega)
   refine WK [(5, AV.lst false true (List.map AV.bool v6)), (8, Iz 0), (29, AV.lst false false (List.map api_Arc.av v1)), (30, Iz (v1.length : Int)), (31, Iz 0)] [] 2 (by simp [-List.reduceReplicate, sOf_set, ofI_set, allU8_set, F5]) (by simp [-List.reduceReplicate, sOf_set, ofI_set, allU8_set, F5]) ?_
   refine AW.block ?_
   refine RM h0 [] [(5, AV.lst false true (List.map AV.bool v6)), (8, Iz 0), (29, AV.lst false false (List.map api_Arc.av v1)), (30, Iz (v1.length : Int)), (31, Iz 0)] [] 0 (by simp [-List.reduceReplicate, sOf_set, ofI_set, allU8_set, F5]) (by simp [-List.reduceReplicate, sOf_set, ofI_set, allU8_set, F5]) ?_
   refine AW.loopF (α := (Int × Int)) (fun n (v8, v9) => cut_Capacity.L2 k v1 v6 n v8 v9 = some v3) (fun (v8, v9) => [(5, AV.lst false true (List.map AV.bool v6)), (8, Iz v8), (29, AV.lst false false (List.map api_Arc.av v1)), (30, Iz (v1.length : Int)), (31, Iz v9)]) (fun (v8, v9) => []) 0 k ((0, 0)) hF (by simp [-List.reduceReplicate, sOf_set, ofI_set, allU8_set, F5]) (by simp [-List.reduceReplicate, sOf_set, ofI_set, allU8_set, F5]) (by simp) ?_
   rintro (_|n2) ⟨v8, v9⟩ hF K315 hK315
   ·try dsimp only at hF
    rw [cut_Capacity.L2] at hF; cases hF
   try dsimp only at hF
   rw [cut_Capacity.L2] at hF
   refine SQ [] [none] fun _ _ g r => ?_
   try simp [-List.reduceReplicate, sOf_set, ofI_set, allU8_set, F5]
   and_intros <;> first | exact g _ (by kernel_rfl) | refine r _ _ _ ?_ | omega | (simp [-List.reduceReplicate, sOf_set, ofI_set, allU8_set, maxLen, F5] <;> omega)
   refine WK [(5, AV.lst false true (List.map AV.bool v6)), (8, Iz v8), (29, AV.lst false false (List.map api_Arc.av v1)), (30, Iz (v1.length : Int)), (31, Iz v9), (32, AV.bool (decide (v9 < (v1.length : Int))))] [] 0 (by simp [-List.reduceReplicate, sOf_set, ofI_set, allU8_set, F5]) (by simp [-List.reduceReplicate, sOf_set, ofI_set, allU8_set, F5]) ?_
   refine AW.seq fun K317 hK317 => ?_
   by_cases h10 : v9 < (v1.length : Int)
   ·replace hF := ite_t h10 hF
    have h10_ := h10
    try simp [-List.reduceReplicate] at h10_
    have F6 := And.intro F5 (And.intro h10 h10_)
    refine CT (by simp [-List.reduceReplicate, sOf_set, ofI_set, allU8_set, F6] <;> omega) ?_
    refine AW.skip ?_
    refine hK317 _ _ _ ?_
    refine AW.midF (α := Int) (fun v10 => cut_Capacity.J3 k v9 (fun v8_ v9_ => cut_Capacity.L2 k v1 v6 n2 v8_ v9_) v10 = some v3) (fun v10 => [(5, AV.lst false true (List.map AV.bool v6)), (8, Iz v10), (29, AV.lst false false (List.map api_Arc.av v1)), (30, Iz (v1.length : Int)), (31, Iz v9)]) (fun v10 => []) 0 (fun K322 hK322 => ?_) ?_
    ·refine AW.block ?_
     refine SQ [] [none, none, none, none] fun _ _ g r => ?_
     obtain ⟨v11, h11, h12, h13, hF⟩ := idx_elim hF
     have h13_ := get_of h13
     try simp [-List.reduceReplicate] at h13_
     have h12_ := h12
     try simp [-List.reduceReplicate] at h12_
     have F7 := And.intro F6 (And.intro h11 (And.intro h12 (And.intro h13 (And.intro h13_ h12_))))
     try simp [-List.reduceReplicate, sOf_set, ofI_set, allU8_set, F7]
     and_intros <;> first | exact g _ (by kernel_rfl) | refine r _ _ _ ?_ | omega | (simp [-List.reduceReplicate, sOf_set, ofI_set, allU8_set, maxLen, F7] <;> omega)
     refine WK [(5, AV.lst false true (List.map AV.bool v6)), (8, Iz v8), (10, AV.ptr 0 0), (29, AV.lst false false (List.map api_Arc.av v1)), (30, Iz (v1.length : Int)), (31, Iz v9)] [(0, .cells [Iz v11.From, Iz v11.To, Iz v11.Cap])] 1 (by simp [-List.reduceReplicate, sOf_set, ofI_set, allU8_set, F7]) (by simp [-List.reduceReplicate, sOf_set, ofI_set, allU8_set, F7]) ?_
     refine SQ [] [none, none, none, none, none, none, some (40, true), some (40, true), some (40, true), some (40, true), some (40, true), some (40, true), none] fun _ _ g r => ?_
     obtain ⟨v12, h14, h15, h16, hF⟩ := idx_elim hF
     have h16_ := get_of h16
     try simp [-List.reduceReplicate] at h16_
     have h15_ := h15
     try simp [-List.reduceReplicate] at h15_
     by_cases h17 : v12 = true
     ·replace hF := ite_t h17 hF
      have h17_ := h17
      try simp [-List.reduceReplicate] at h17_
      obtain ⟨v13, h18, h19, h20, hF⟩ := idx_elim hF
      have h20_ := get_of h20
      try simp [-List.reduceReplicate] at h20_
      have h19_ := h19
      try simp [-List.reduceReplicate] at h19_
      have F8 := And.intro F7 (And.intro h14 (And.intro h15 (And.intro h16 (And.intro h16_ (And.intro h15_ (And.intro h17 (And.intro h17_ (And.intro h18 (And.intro h19 (And.intro h20 (And.intro h20_ h19_)))))))))))
      try simp [-List.reduceReplicate, sOf_set, ofI_set, allU8_set, F8]
      and_intros <;> first | exact g _ (by kernel_rfl) | refine r _ _ _ ?_ | omega | (simp [-List.reduceReplicate, sOf_set, ofI_set, allU8_set, maxLen, F8] <;> omega)
      refine WK [(5, AV.lst false true (List.map AV.bool v6)), (8, Iz v8), (10, AV.ptr 0 0), (29, AV.lst false false (List.map api_Arc.av v1)), (30, Iz (v1.length : Int)), (31, Iz v9), (47, AV.bool (!v13))] [(0, .cells [Iz v11.From, Iz v11.To, Iz v11.Cap])] 1 (by simp [-List.reduceReplicate, sOf_set, ofI_set, allU8_set, F8]) (by simp [-List.reduceReplicate, sOf_set, ofI_set, allU8_set, F8]) ?_
      by_cases h21 : (!v13) = true
      ·replace hF := ite_t h21 hF
       have h21_ := h21
       try simp [-List.reduceReplicate] at h21_
       have F9 := And.intro F8 (And.intro h21 h21_)
       refine CT (by simp [-List.reduceReplicate, sOf_set, ofI_set, allU8_set, F9] <;> omega) ?_
       refine RG [] [none, none, none, none, none] fun _ _ g r => ?_
       try simp [-List.reduceReplicate, sOf_set, ofI_set, allU8_set, F9]
       and_intros <;> first | exact g _ (by kernel_rfl) | refine r _ _ _ ?_ | omega | (simp [-List.reduceReplicate, sOf_set, ofI_set, allU8_set, maxLen, F9] <;> omega)
       refine hK322 _ _ _ ?_
       refine RN h0 [] [(5, AV.lst false true (List.map AV.bool v6)), (8, Iz (IntKind.wrap .i64 (v8 + v11.Cap))), (29, AV.lst false false (List.map api_Arc.av v1)), (30, Iz (v1.length : Int)), (31, Iz v9)] [] 0 (by simp [-List.reduceReplicate, sOf_set, ofI_set, allU8_set, F9]) (by simp [-List.reduceReplicate, sOf_set, ofI_set, allU8_set, F9]) ?_
       exact JN (IntKind.wrap .i64 (v8 + v11.Cap)) hF (by simp [-List.reduceReplicate, sOf_set, ofI_set, allU8_set, F9]) (by simp [-List.reduceReplicate, sOf_set, ofI_set, allU8_set, F9])
      ·replace hF := ite_f h21 hF
       have h21_ := h21
       try simp [-List.reduceReplicate] at h21_
       have F10 := And.intro F8 (And.intro h21 h21_)
       refine CF (by simp [-List.reduceReplicate, sOf_set, ofI_set, allU8_set, F10] <;> omega) ?_
       refine AW.skip ?_
       refine hK322 _ _ _ ?_
       refine RN h0 [] [(5, AV.lst false true (List.map AV.bool v6)), (8, Iz v8), (29, AV.lst false false (List.map api_Arc.av v1)), (30, Iz (v1.length : Int)), (31, Iz v9)] [] 0 (by simp [-List.reduceReplicate, sOf_set, ofI_set, allU8_set, F10]) (by simp [-List.reduceReplicate, sOf_set, ofI_set, allU8_set, F10]) ?_
       exact JN (v8) hF (by simp [-List.reduceReplicate, sOf_set, ofI_set, allU8_set, F10]) (by simp [-List.reduceReplicate, sOf_set, ofI_set, allU8_set, F10])
     ·replace hF := ite_f h17 hF
      have h17_ := h17
      try simp [-List.reduceReplicate] at h17_
      have F11 := And.intro F7 (And.intro h14 (And.intro h15 (And.intro h16 (And.intro h16_ (And.intro h15_ (And.intro h17 h17_))))))
      try simp [-List.reduceReplicate, sOf_set, ofI_set, allU8_set, F11]
      and_intros <;> first | exact g _ (by kernel_rfl) | refine r _ _ _ ?_ | omega | (simp [-List.reduceReplicate, sOf_set, ofI_set, allU8_set, maxLen, F11] <;> omega)
      refine WK [(5, AV.lst false true (List.map AV.bool v6)), (8, Iz v8), (10, AV.ptr 0 0), (29, AV.lst false false (List.map api_Arc.av v1)), (30, Iz (v1.length : Int)), (31, Iz v9), (47, AV.bool false)] [(0, .cells [Iz v11.From, Iz v11.To, Iz v11.Cap])] 1 (by simp [-List.reduceReplicate, sOf_set, ofI_set, allU8_set, F11]) (by simp [-List.reduceReplicate, sOf_set, ofI_set, allU8_set, F11]) ?_
      refine CF (by simp [-List.reduceReplicate, sOf_set, ofI_set, allU8_set, F11]) ?_
      refine AW.skip ?_
      refine hK322 _ _ _ ?_
      refine RN h0 [] [(5, AV.lst false true (List.map AV.bool v6)), (8, Iz v8), (29, AV.lst false false (List.map api_Arc.av v1)), (30, Iz (v1.length : Int)), (31, Iz v9)] [] 0 (by simp [-List.reduceReplicate, sOf_set, ofI_set, allU8_set, F11]) (by simp [-List.reduceReplicate, sOf_set, ofI_set, allU8_set, F11]) ?_
      exact JN (v8) hF (by simp [-List.reduceReplicate, sOf_set, ofI_set, allU8_set, F11]) (by simp [-List.reduceReplicate, sOf_set, ofI_set, allU8_set, F11])
    ·rintro v10 hF
     try dsimp only at hF
     unfold cut_Capacity.J3 at hF
     refine RG [] [none, none] fun _ _ g r => ?_
     try simp [-List.reduceReplicate, sOf_set, ofI_set, allU8_set, F6]
     and_intros <;> first | exact g _ (by kernel_rfl) | refine r _ _ _ ?_ | omega | (simp [-List.reduceReplicate, sOf_set, ofI_set, allU8_set, maxLen, F6] <;> omega)
     refine hK315 _ _ _ ?_
     exact NX (k' := n2) ((v10, IntKind.wrap .i64 (v9 + 1))) hF (by simp [-List.reduceReplicate, sOf_set, ofI_set, allU8_set, F6]) (by simp [-List.reduceReplicate, sOf_set, ofI_set, allU8_set, F6])
   ·replace hF := ite_f h10 hF
    have h10_ := h10
    try simp [-List.reduceReplicate] at h10_
    have F12 := And.intro F5 (And.intro h10 h10_)
    refine CF (by simp [-List.reduceReplicate, sOf_set, ofI_set, allU8_set, F12] <;> omega) ?_
    refine AW.exit ?_
    try simp [-List.reduceReplicate]
    refine hK283 _ _ _ ?_
    refine SQ [] [none, none] fun _ _ g r => ?_
    try simp [-List.reduceReplicate, sOf_set, ofI_set, allU8_set, F12]
    and_intros <;> first | exact g _ (by kernel_rfl) | refine r _ _ _ ?_ | omega | (simp [-List.reduceReplicate, sOf_set, ofI_set, allU8_set, maxLen, F12] <;> omega)
    refine WK [(4, Iz v8)] [] 0 (by simp [-List.reduceReplicate, sOf_set, ofI_set, allU8_set, F12]) (by simp [-List.reduceReplicate, sOf_set, ofI_set, allU8_set, F12]) ?_
    simp only [Option.some.injEq] at hF
    subst hF
    refine AW.ret (hQ _ _ _ ?_ (matchO_0 ?_)).1
    ·simp [Try.f36, F12]
    ·simp [F12]
theorem w_cut_Proves (k : Nat) (v0 : Int) (v1 : (List api_Arc)) (v2 : (List Int)) (v3 : Int) (v4 : Bool) (hF : cut_Proves k v0 v1 v2 v3 = some v4) :
  FCall Try.prog 35 [AV.agg [AV.int .i64 v0, AV.lst false false (List.map api_Arc.av v1)], AV.lst false false (List.map (AV.int .i64) v2), AV.int .i64 v3] [] (AV.bool v4) [] := by
 unfold cut_Proves at hF
 refine EN Try.func35 ?_
 intro c0 w0 Q h0 hQ
 refine WK [(0, AV.agg [Iz v0, AV.lst false false (List.map api_Arc.av v1)]), (1, Lz v2), (2, Iz v3)] [] 0 (by simp) (by simp) ?_
 refine SQ [] [none, none] fun _ _ g r => ?_
 try simp
 and_intros <;> first | exact g _ (by kernel_rfl) | refine r _ _ _ ?_ | omega | (simp [maxLen] <;> omega)
 refine WK [(1, Lz v2), (2, Iz v3), (3, AV.ptr 0 0)] [(0, .cells [Iz v0, AV.lst false false (List.map api_Arc.av v1)])] 1 (by simp) (by simp) ?_
 refine SQ [] [none, none, none, none, some (10, true), some (10, true), some (10, true), some (10, true), some (10, true), none, none] fun _ _ g r => ?_
 try simp
 and_intros
 try any_goals first | omega | (simp [maxLen] <;> omega)
 obtain ⟨v5, h1, hF⟩ := bnd1_elim hF
 refine AC (w_cut_Valid k _ _ _ _ h1) (.cons (.same (by simp)) (.cons (.same (by simp)) .nil)) ?_
 by_cases h2 : v5 = true
 ·replace hF := ite_t h2 hF
  have h2_ := h2
  try simp at h2_
  try simp [h2, h2_]
  and_intros
  try any_goals first | omega | (simp [h2, h2_, maxLen] <;> omega)
  obtain ⟨v6, h3, hF⟩ := bnd1_elim hF
  refine AC (w_cut_Capacity k _ _ _ _ h3) (.cons (.same (by simp [h2, h2_])) (.cons (.same (by simp [h2, h2_])) .nil)) ?_
  try simp [h2, h2_]
  and_intros <;> first | exact g _ (by kernel_rfl) | refine r _ _ _ ?_ | omega | (simp [h2, h2_, maxLen] <;> omega)
  refine WK [(6, AV.bool (decide (v6 ≤ v3)))] [] 1 (by simp [h2, h2_]) (by simp [h2, h2_]) ?_
  simp only [Option.some.injEq] at hF
  subst hF
  refine AW.ret (hQ _ _ _ ?_ (matchO_0 ?_)).1
  ·simp [Try.f35, h2, h2_]
  ·simp [h2, h2_]
 ·replace hF := ite_f h2 hF
  have h2_ := h2
  try simp at h2_
  try simp [h2, h2_]
  and_intros <;> first | exact g _ (by kernel_rfl) | refine r _ _ _ ?_ | omega | (simp [h2, h2_, maxLen] <;> omega)
  refine WK [(6, AV.bool false)] [] 1 (by simp [h2, h2_]) (by simp [h2, h2_]) ?_
  simp only [Option.some.injEq] at hF
  subst hF
  refine AW.ret (hQ _ _ _ ?_ (matchO_0 ?_)).1
  ·simp [Try.f35, h2, h2_]
  ·simp [h2, h2_]
abbrev c_law16_awake  : AObj := .cells [Iz 3, AV.lst false true (List.map api_Arc.av ([(api_Arc.mk 0 2 3), (api_Arc.mk 2 1 2)] : List api_Arc))]
theorem w_law16_awake (k : Nat) (v0 : Bool) (hF : law16_awake k = some v0) :
  FCall Try.prog 27 [] [] (AV.bool v0) [] := by
 unfold law16_awake at hF
 refine EN Try.func27 ?_
 intro c0 w0 Q h0 hQ
 refine WK [] [] 0 (by simp) (by simp) ?_
 refine SQ [] [none] fun _ _ g r => ?_
 try simp
 and_intros <;> first | exact g _ (by kernel_rfl) | refine r _ _ _ ?_ | omega | (simp [maxLen] <;> omega)
 refine WK [] [] 0 (by simp) (by simp) ?_
 refine SQ [] [none, none, none, none, none, none] fun _ _ g r => ?_
 try simp
 and_intros <;> first | exact g _ (by kernel_rfl) | refine r _ _ _ ?_ | omega | (simp [maxLen] <;> omega)
 refine WK [(1, AV.ptr 0 0)] [(0, c_law16_awake )] 1 (by simp) (by simp) ?_
 refine SQ [] [none, none, none, none, none, none, none] fun _ _ g r => ?_
 try simp
 and_intros
 try any_goals first | omega | (simp [maxLen] <;> omega)
 obtain ⟨v1, v2, h1, hF⟩ := bnd2_elim hF
 refine AC (w_cut_Nearest k _ _ _ _ h1) (.cons (.agg (.cons (.same (by simp)) (.cons (Coe.fl (by simp)) .nil))) .nil) ?_
 try simp
 and_intros <;> first | exact g _ (by kernel_rfl) | refine r _ _ _ ?_ | omega | (simp [maxLen] <;> omega)
 refine WK [(1, AV.ptr 0 0), (2, AV.slc 1 0 1 v1.length false), (3, Iz v2)] [(0, c_law16_awake ), (1, .grow (List.map (AV.int .i64) v1))] 2 (by simp) (by simp) ?_
 refine AW.frz 1 (o := .grow (List.map (AV.int .i64) v1)) (by simp) rfl [(2, Lz v1)] [] ⟨(.l (by simp) (by simp) (by simp) (by simp)), trivial⟩ trivial ?_
 refine WK [(1, AV.ptr 0 0), (2, Lz v1), (3, Iz v2)] [(0, c_law16_awake )] 2 (by simp) (by simp) ?_
 refine SQ [] [none, none, none, some (15, true), some (15, true), some (15, true), none, none, some (20, true), some (20, true), some (20, true), some (20, true), none, none, some (26, true), some (26, true), some (26, true), some (26, true), none, none, some (32, true), some (32, true), some (32, true), none, none, some (37, true), some (37, true), some (37, true), none, none, some (42, true), some (42, true), some (42, true), some (42, true), none, none, some (48, true), some (48, true), some (48, true), some (48, true), none, none] fun _ _ g r => ?_
 by_cases h2 : v2 = 0
 ·replace hF := ite_t h2 hF
  have h2q : v2 = 0 := h2
  have h2_ := eqb_t h2q
  have h2__ := neb_f h2q
  by_cases h3 : (v1.length : Int) = 2
  ·replace hF := ite_t h3 hF
   have h3q : (v1.length : Int) = 2 := h3
   have h3_ := eqb_t h3q
   have h3__ := neb_f h3q
   obtain ⟨v3, h4, h5, h6, hF⟩ := idx_elim hF
   have h6_ := get_of h6
   try simp at h6_
   have h5_ := h5
   try simp at h5_
   by_cases h7 : v3 = 2
   ·replace hF := ite_t h7 hF
    have h7q : v3 = 2 := h7
    have h7_ := eqb_t h7q
    have h7__ := neb_f h7q
    have F1 := And.intro h2_ (And.intro h2__ (And.intro h2q (And.intro h3_ (And.intro h3__ (And.intro h3q (And.intro h4 (And.intro h5 (And.intro h6 (And.intro h6_ (And.intro h5_ (And.intro h7_ (And.intro h7__ h7q))))))))))))
    try simp [F1]
    and_intros
    try any_goals first | omega | (simp [maxLen, F1] <;> omega)
    obtain ⟨v4, h8, hF⟩ := bnd1_elim hF
    refine AC (w_cut_Capacity k _ _ _ _ h8) (.cons (.agg (.cons (.same (by simp [F1])) (.cons (Coe.fl (by simp [F1])) .nil))) (.cons (.same (by simp [F1])) .nil)) ?_
    by_cases h9 : v4 = 2
    ·replace hF := ite_t h9 hF
     have h9q : v4 = 2 := h9
     have h9_ := eqb_t h9q
     have h9__ := neb_f h9q
     have F2 := And.intro F1 (And.intro h9_ (And.intro h9__ h9q))
     try simp [F2]
     and_intros
     try any_goals first | omega | (simp [maxLen, F2] <;> omega)
     obtain ⟨v5, h10, hF⟩ := bnd1_elim hF
     refine AC (w_cut_Valid k _ _ _ _ h10) (.cons (.agg (.cons (.same (by simp [F2])) (.cons (Coe.fl (by simp [F2])) .nil))) (.cons (.same (by simp [F2])) .nil)) ?_
     by_cases h11 : v5 = true
     ·replace hF := ite_t h11 hF
      have h11_ := h11
      try simp at h11_
      have F3 := And.intro F2 (And.intro h11 h11_)
      try simp [F3]
      and_intros
      try any_goals first | omega | (simp [maxLen, F3] <;> omega)
      obtain ⟨v6, h12, hF⟩ := bnd1_elim hF
      refine AC (w_cut_Proves k _ _ _ _ _ h12) (.cons (.agg (.cons (.same (by simp [F3])) (.cons (Coe.fl (by simp [F3])) .nil))) (.cons (.same (by simp [F3])) (.cons (.same (by simp [F3])) .nil))) ?_
      by_cases h13 : v6 = true
      ·replace hF := ite_t h13 hF
       have h13_ := h13
       try simp at h13_
       have F4 := And.intro F3 (And.intro h13 h13_)
       try simp [F4]
       and_intros
       try any_goals first | omega | (simp [maxLen, F4] <;> omega)
       obtain ⟨v7, h14, hF⟩ := bnd1_elim hF
       refine AC (w_cut_Proves k _ _ _ _ _ h14) (.cons (.agg (.cons (.same (by simp [F4])) (.cons (Coe.fl (by simp [F4])) .nil))) (.cons (.same (by simp [F4])) (.cons (.same (by simp [F4])) .nil))) ?_
       by_cases h15 : (!v7) = true
       ·replace hF := ite_t h15 hF
        have h15_ := h15
        try simp at h15_
        have F5 := And.intro F4 (And.intro h15 h15_)
        try simp [F5]
        and_intros
        try any_goals first | omega | (simp [maxLen, F5] <;> omega)
        obtain ⟨v8, h16, hF⟩ := bnd1_elim hF
        refine AC (w_cut_Capacity k _ _ _ _ h16) (.cons (.agg (.cons (.same (by simp [F5])) (.cons (Coe.fl (by simp [F5])) .nil))) (.cons (Coe.fl (by simp [F5])) .nil)) ?_
        try simp [F5]
        and_intros <;> first | exact g _ (by kernel_rfl) | refine r _ _ _ ?_ | omega | (simp [maxLen, F5] <;> omega)
        refine WK [(0, AV.bool (v8 == 3))] [] 2 (by simp [F5]) (by simp [F5]) ?_
        simp only [Option.some.injEq] at hF
        subst hF
        refine AW.ret (hQ _ _ _ ?_ (matchO_0 ?_)).1
        ·simp [Try.f27, F5]
        ·simp [F5]
       ·replace hF := ite_f h15 hF
        have h15_ := h15
        try simp at h15_
        have F6 := And.intro F4 (And.intro h15 h15_)
        try simp [F6]
        and_intros <;> first | exact g _ (by kernel_rfl) | refine r _ _ _ ?_ | omega | (simp [maxLen, F6] <;> omega)
        refine WK [(0, AV.bool false)] [] 2 (by simp [F6]) (by simp [F6]) ?_
        simp only [Option.some.injEq] at hF
        subst hF
        refine AW.ret (hQ _ _ _ ?_ (matchO_0 ?_)).1
        ·simp [Try.f27, F6]
        ·simp [F6]
      ·replace hF := ite_f h13 hF
       have h13_ := h13
       try simp at h13_
       have F7 := And.intro F3 (And.intro h13 h13_)
       try simp [F7]
       and_intros <;> first | exact g _ (by kernel_rfl) | refine r _ _ _ ?_ | omega | (simp [maxLen, F7] <;> omega)
       refine WK [(0, AV.bool false)] [] 2 (by simp [F7]) (by simp [F7]) ?_
       simp only [Option.some.injEq] at hF
       subst hF
       refine AW.ret (hQ _ _ _ ?_ (matchO_0 ?_)).1
       ·simp [Try.f27, F7]
       ·simp [F7]
     ·replace hF := ite_f h11 hF
      have h11_ := h11
      try simp at h11_
      have F8 := And.intro F2 (And.intro h11 h11_)
      try simp [F8]
      and_intros <;> first | exact g _ (by kernel_rfl) | refine r _ _ _ ?_ | omega | (simp [maxLen, F8] <;> omega)
      refine WK [(0, AV.bool false)] [] 2 (by simp [F8]) (by simp [F8]) ?_
      simp only [Option.some.injEq] at hF
      subst hF
      refine AW.ret (hQ _ _ _ ?_ (matchO_0 ?_)).1
      ·simp [Try.f27, F8]
      ·simp [F8]
    ·replace hF := ite_f h9 hF
     have h9_ := eqb_f h9
     have h9__ := neb_t h9
     have F9 := And.intro F1 (And.intro h9 (And.intro h9_ h9__))
     try simp [F9]
     and_intros <;> first | exact g _ (by kernel_rfl) | refine r _ _ _ ?_ | omega | (simp [maxLen, F9] <;> omega)
     refine WK [(0, AV.bool false)] [] 2 (by simp [F9]) (by simp [F9]) ?_
     simp only [Option.some.injEq] at hF
     subst hF
     refine AW.ret (hQ _ _ _ ?_ (matchO_0 ?_)).1
     ·simp [Try.f27, F9]
     ·simp [F9]
   ·replace hF := ite_f h7 hF
    have h7_ := eqb_f h7
    have h7__ := neb_t h7
    have F10 := And.intro h2_ (And.intro h2__ (And.intro h2q (And.intro h3_ (And.intro h3__ (And.intro h3q (And.intro h4 (And.intro h5 (And.intro h6 (And.intro h6_ (And.intro h5_ (And.intro h7 (And.intro h7_ h7__))))))))))))
    try simp [F10]
    and_intros <;> first | exact g _ (by kernel_rfl) | refine r _ _ _ ?_ | omega | (simp [maxLen, F10] <;> omega)
    refine WK [(0, AV.bool false)] [] 2 (by simp [F10]) (by simp [F10]) ?_
    simp only [Option.some.injEq] at hF
    subst hF
    refine AW.ret (hQ _ _ _ ?_ (matchO_0 ?_)).1
    ·simp [Try.f27, F10]
    ·simp [F10]
  ·replace hF := ite_f h3 hF
   have h3_ := eqb_f h3
   have h3__ := neb_t h3
   have F11 := And.intro h2_ (And.intro h2__ (And.intro h2q (And.intro h3 (And.intro h3_ h3__))))
   try simp [F11]
   and_intros <;> first | exact g _ (by kernel_rfl) | refine r _ _ _ ?_ | omega | (simp [maxLen, F11] <;> omega)
   refine WK [(0, AV.bool false)] [] 2 (by simp [F11]) (by simp [F11]) ?_
   simp only [Option.some.injEq] at hF
   subst hF
   refine AW.ret (hQ _ _ _ ?_ (matchO_0 ?_)).1
   ·simp [Try.f27, F11]
   ·simp [F11]
 ·replace hF := ite_f h2 hF
  have h2_ := eqb_f h2
  have h2__ := neb_t h2
  have F12 := And.intro h2 (And.intro h2_ h2__)
  try simp [F12]
  and_intros <;> first | exact g _ (by kernel_rfl) | refine r _ _ _ ?_ | omega | (simp [maxLen, F12] <;> omega)
  refine WK [(0, AV.bool false)] [] 2 (by simp [F12]) (by simp [F12]) ?_
  simp only [Option.some.injEq] at hF
  subst hF
  refine AW.ret (hQ _ _ _ ?_ (matchO_0 ?_)).1
  ·simp [Try.f27, F12]
  ·simp [F12]
end Go.TF
