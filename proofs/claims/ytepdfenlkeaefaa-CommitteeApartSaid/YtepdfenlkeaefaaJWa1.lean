/- Walks: the Go text computes the Lean functions (printed by a program of our own). -/
import Derived.Test.YtepdfenlkeaefaaJPu
import Derived.Test.YtepdfenlkeaefaaJAbsT
import Derived.Test.YtepdfenlkeaefaaJWa0
set_option linter.unusedVariables false
set_option linter.unusedSimpArgs false
set_option maxRecDepth 100000
namespace Go.TF
open Go Go.Abs Go.Proofs Go.Proofs.YtepdfenlkeaefaaJT
set_option maxHeartbeats 4000000 in
theorem w_mill_Light (k : Nat) (v0 : (List Int)) (v1 : Bool) (hF : mill_Light k v0 = some v1) :
  FCall Try.prog 16 [AV.lst false false (List.map (AV.int .i64) v0)] [] (AV.bool v1) [] := by
 unfold mill_Light at hF
 refine FCall.enter Try.func16 rfl (by simp) (by decide) (by simp) (by simp) (by simp) (by simp) (by simp) ?_
 intro c0 w0 Q h0 hQ
 refine AW.wk [(0, AV.lst false false (List.map (AV.int .i64) v0))] [] 0 (by simp) (by simp) (by simp) ?_
 refine AW.seqR mixed [] [none] (by kernel_rfl) fun G3 R3 hG3 hR3 => ?_
 try simp
 repeat' apply And.intro
 any_goals (first | exact hG3 _ (by kernel_rfl) | refine hR3 _ _ _ ?_ | omega | (unfold maxLen; omega) | (simp; done) | (simp; omega))
 refine AW.wk [(0, AV.lst false false (List.map (AV.int .i64) v0))] [] 0 (by simp) (by simp) (by simp) ?_
 refine AW.seqR mixed [] [none, none, none, none] (by kernel_rfl) fun G4 R4 hG4 hR4 => ?_
 try simp
 repeat' apply And.intro
 any_goals (first | exact hG4 _ (by kernel_rfl) | refine hR4 _ _ _ ?_ | omega | (unfold maxLen; omega) | (simp; done) | (simp; omega))
 refine AW.wk [(2, AV.bool (decide ((v0.length : Int) ≤ 400)))] [] 0 (by simp) (by simp) (by simp) ?_
 simp only [Option.some.injEq] at hF
 subst hF
 refine AW.ret (hQ _ _ _ ?_ (matchO_0 ?_)).1
 ·simp [Try.f16]
 ·simp
set_option maxHeartbeats 4000000 in
theorem w_roster_key (k : Nat) (v0 : Int) (v1 : Bool) (hF : roster_key k v0 = some v1) :
  FCall Try.prog 97 [AV.int .i64 v0] [] (AV.bool v1) [] := by
 unfold roster_key at hF
 refine FCall.enter Try.func97 rfl (by simp) (by decide) (by simp) (by simp) (by simp) (by simp) (by simp) ?_
 intro c0 w0 Q h0 hQ
 refine AW.wk [(0, AV.int .i64 v0)] [] 0 (by simp) (by simp) (by simp) ?_
 refine AW.seqR mixed [] [none] (by kernel_rfl) fun G3 R3 hG3 hR3 => ?_
 try simp
 repeat' apply And.intro
 any_goals (first | exact hG3 _ (by kernel_rfl) | refine hR3 _ _ _ ?_ | omega | (unfold maxLen; omega) | (simp; done) | (simp; omega))
 refine AW.wk [(0, AV.int .i64 v0)] [] 0 (by simp) (by simp) (by simp) ?_
 refine AW.seqR mixed [] [none, none, none, some (5, true), some (5, true), none, none] (by kernel_rfl) fun G4 R4 hG4 hR4 => ?_
 by_cases h1 : 0 ≤ v0
 ·replace hF := ite_t h1 hF
  have h1_ := h1
  try simp at h1_
  try simp [h1, h1_]
  repeat' apply And.intro
  any_goals (first | exact hG4 _ (by kernel_rfl) | refine hR4 _ _ _ ?_ | omega | (unfold maxLen; omega) | (simp [h1, h1_]; done) | (simp [h1, h1_]; omega))
  refine AW.wk [(2, AV.bool (decide (v0 < 64)))] [] 0 (by simp [h1, h1_]) (by simp [h1, h1_]) (by simp) ?_
  simp only [Option.some.injEq] at hF
  subst hF
  refine AW.ret (hQ _ _ _ ?_ (matchO_0 ?_)).1
  ·simp [Try.f97, h1, h1_]
  ·simp [h1, h1_]
 ·replace hF := ite_f h1 hF
  have h1_ := h1
  try simp at h1_
  try simp [h1, h1_]
  repeat' apply And.intro
  any_goals (first | exact hG4 _ (by kernel_rfl) | refine hR4 _ _ _ ?_ | omega | (unfold maxLen; omega) | (simp [h1, h1_]; done) | (simp [h1, h1_]; omega))
  refine AW.wk [(2, AV.bool false)] [] 0 (by simp [h1, h1_]) (by simp [h1, h1_]) (by simp) ?_
  simp only [Option.some.injEq] at hF
  subst hF
  refine AW.ret (hQ _ _ _ ?_ (matchO_0 ?_)).1
  ·simp [Try.f97, h1, h1_]
  ·simp [h1, h1_]
set_option maxHeartbeats 4000000 in
theorem w_roster_of (k : Nat) (v0 : (List Int)) (v1 : (List Bool)) (hF : roster_of k v0 = some v1) :
  FCall Try.prog 98 [AV.lst false false (List.map (AV.int .i64) v0)] [] (AV.agg (List.map AV.bool v1)) [] := by
 unfold roster_of at hF
 refine FCall.enter Try.func98 rfl (by simp) (by decide) (by simp) (by simp) (by simp) (by simp) (by simp) ?_
 intro c0 w0 Q h0 hQ
 refine AW.wk [(0, AV.lst false false (List.map (AV.int .i64) v0))] [] 0 (by simp) (by simp) (by simp) ?_
 refine AW.seqR mixed [] [none] (by kernel_rfl) fun G89 R89 hG89 hR89 => ?_
 try simp
 repeat' apply And.intro
 any_goals (first | exact hG89 _ (by kernel_rfl) | refine hR89 _ _ _ ?_ | omega | (unfold maxLen; omega) | (simp; done) | (simp; omega))
 refine AW.wk [(0, AV.lst false false (List.map (AV.int .i64) v0)), (2, AV.ptr 0 0)] [(0, .cells (List.map AV.bool (List.replicate 64 false)))] 1 (by simp) (by simp) (by simp) ?_
 refine AW.seqR mixed [] [none] (by kernel_rfl) fun G90 R90 hG90 hR90 => ?_
 try simp
 repeat' apply And.intro
 any_goals (first | exact hG90 _ (by kernel_rfl) | refine hR90 _ _ _ ?_ | omega | (unfold maxLen; omega) | (simp; done) | (simp; omega))
 refine AW.wk [(0, AV.lst false false (List.map (AV.int .i64) v0)), (2, AV.ptr 0 0), (3, AV.ptr 1 0)] [(0, .cells (List.map AV.bool (List.replicate 64 false))), (1, .cells (List.map AV.bool (List.replicate 64 false)))] 2 (by simp) (by simp) (by simp) ?_
 refine AW.seq fun K133 hK133 => ?_
 refine AW.seqR mixed [] [none, none, none] (by kernel_rfl) fun G134 R134 hG134 hR134 => ?_
 try simp
 repeat' apply And.intro
 any_goals (first | exact hG134 _ (by kernel_rfl) | refine hR134 _ _ _ ?_ | omega | (unfold maxLen; omega) | (simp; done) | (simp; omega))
 refine AW.wk [(2, AV.ptr 0 0), (3, AV.ptr 1 0), (6, AV.lst false false (List.map (AV.int .i64) v0)), (7, AV.int .i64 (v0.length : Int)), (8, AV.int .i64 0)] [(0, .cells (List.map AV.bool (List.replicate 64 false))), (1, .cells (List.map AV.bool (List.replicate 64 false)))] 2 (by simp) (by simp) (by simp) ?_
 refine AW.block ?_
 refine AW.loopF (α := (Int × (List Bool))) (fun n (v2, v3) => roster_of.L1 k v0 n v2 v3 = some v1) (fun (v2, v3) => [(2, AV.ptr 0 0), (3, AV.ptr 1 0), (6, AV.lst false false (List.map (AV.int .i64) v0)), (7, AV.int .i64 (v0.length : Int)), (8, AV.int .i64 v2)]) (fun (v2, v3) => [(0, .cells (List.map AV.bool (List.replicate 64 false))), (1, .cells (List.map AV.bool v3))]) 2 k ((0, (List.replicate 64 false))) hF (by simp) (by simp) (by simp) ?_
 rintro (_|n1) ⟨v2, v3⟩ hF K165 hK165
 ·try dsimp only at hF
  rw [roster_of.L1] at hF; cases hF
 try dsimp only at hF
 rw [roster_of.L1] at hF
 refine AW.seqR mixed [] [none] (by kernel_rfl) fun G166 R166 hG166 hR166 => ?_
 try simp
 repeat' apply And.intro
 any_goals (first | exact hG166 _ (by kernel_rfl) | refine hR166 _ _ _ ?_ | omega | (unfold maxLen; omega) | (simp; done) | (simp; omega))
 refine AW.wk [(2, AV.ptr 0 0), (3, AV.ptr 1 0), (6, AV.lst false false (List.map (AV.int .i64) v0)), (7, AV.int .i64 (v0.length : Int)), (8, AV.int .i64 v2), (9, AV.bool (decide (v2 < (v0.length : Int))))] [(0, .cells (List.map AV.bool (List.replicate 64 false))), (1, .cells (List.map AV.bool v3))] 2 (by simp) (by simp) (by simp) ?_
 refine AW.seq fun K167 hK167 => ?_
 by_cases h1 : v2 < (v0.length : Int)
 ·replace hF := ite_t h1 hF
  have h1_ := h1
  try simp at h1_
  refine AW.condT (by decide) (by first | (simp [h1, h1_]; done) | (simp [h1, h1_]; omega)) ?_
  refine AW.skip ?_
  refine hK167 _ _ _ ?_
  refine AW.midF (α := (List Bool)) (fun v4 => roster_of.J2 k v2 (fun v2_ v3_ => roster_of.L1 k v0 n1 v2_ v3_) v4 = some v1) (fun v4 => [(2, AV.ptr 0 0), (3, AV.ptr 1 0), (6, AV.lst false false (List.map (AV.int .i64) v0)), (7, AV.int .i64 (v0.length : Int)), (8, AV.int .i64 v2)]) (fun v4 => [(0, .cells (List.map AV.bool (List.replicate 64 false))), (1, .cells (List.map AV.bool v4))]) 2 (fun K172 hK172 => ?_) ?_
  ·refine AW.block ?_
   refine AW.seqR mixed [] [none, none, none] (by kernel_rfl) fun G173 R173 hG173 hR173 => ?_
   obtain ⟨v5, h2, h3, h4, hF⟩ := idx_elim hF
   have h4_ := get_of h4
   try simp at h4_
   have h3_ := h3
   try simp at h3_
   have F1 := And.intro h1 (And.intro h1_ (And.intro h2 (And.intro h3 (And.intro h4 (And.intro h4_ h3_)))))
   try simp [F1]
   repeat' apply And.intro
   any_goals (first | exact hG173 _ (by kernel_rfl) | refine hR173 _ _ _ ?_ | omega | (unfold maxLen; omega) | (simp [F1]; done) | (simp [F1]; omega))
   refine AW.wk [(2, AV.ptr 0 0), (3, AV.ptr 1 0), (5, AV.int .i64 v5), (6, AV.lst false false (List.map (AV.int .i64) v0)), (7, AV.int .i64 (v0.length : Int)), (8, AV.int .i64 v2)] [(0, .cells (List.map AV.bool (List.replicate 64 false))), (1, .cells (List.map AV.bool v3))] 2 (by simp [F1]) (by simp [F1]) (by simp) ?_
   refine AW.seqR mixed [] [none, none] (by kernel_rfl) fun G174 R174 hG174 hR174 => ?_
   try simp [F1]
   repeat' apply And.intro
   try any_goals (first | omega | (unfold maxLen; omega) | (simp [F1]; done))
   obtain ⟨v6, h5, hF⟩ := bnd1_elim hF
   refine aCall_l (w_roster_key k _ _ h5) (by simp) [] [] [] rfl (.cons (.same (by simp [F1])) .nil) (by simp [F1]) (by decide) (by simp) (by simp) (.inl rfl) (by simp) (by simp) ?_
   try simp [F1]
   repeat' apply And.intro
   any_goals (first | exact hG174 _ (by kernel_rfl) | refine hR174 _ _ _ ?_ | omega | (unfold maxLen; omega) | (simp [F1]; done) | (simp [F1]; omega))
   refine AW.wk [(2, AV.ptr 0 0), (3, AV.ptr 1 0), (5, AV.int .i64 v5), (6, AV.lst false false (List.map (AV.int .i64) v0)), (7, AV.int .i64 (v0.length : Int)), (8, AV.int .i64 v2), (13, AV.bool v6)] [(0, .cells (List.map AV.bool (List.replicate 64 false))), (1, .cells (List.map AV.bool v3))] 2 (by simp [F1]) (by simp [F1]) (by simp) ?_
   by_cases h6 : v6 = true
   ·replace hF := ite_t h6 hF
    have h6_ := h6
    try simp at h6_
    have F2 := And.intro F1 (And.intro h6 h6_)
    refine AW.condT (by decide) (by first | (simp [F2]; done) | (simp [F2]; omega)) ?_
    refine AW.region mixed [] [none, none, none] (by kernel_rfl) fun G175 R175 hG175 hR175 => ?_
    obtain ⟨⟨h7, h9, h8⟩, hF⟩ := chk_elim hF
    have h8_ := ne_of_lt h8
    have F3 := And.intro F2 (And.intro h7 (And.intro h8 (And.intro h9 h8_)))
    try simp [F3]
    repeat' apply And.intro
    any_goals (first | exact hG175 _ (by kernel_rfl) | refine hR175 _ _ _ ?_ | omega | (unfold maxLen; omega) | (simp [F3]; done) | (simp [F3]; omega))
    refine hK172 _ _ _ ?_
    refine Can.weak [(2, AV.ptr 0 0), (3, AV.ptr 1 0), (6, AV.lst false false (List.map (AV.int .i64) v0)), (7, AV.int .i64 (v0.length : Int)), (8, AV.int .i64 v2)] [(0, .cells (List.map AV.bool (List.replicate 64 false))), (1, .cells (List.map AV.bool (v3.set (v5).toNat true)))] 2 (by simp [F3]) (by simp [F3]) (by simp) ?_
    exact Can.join (v3.set (v5).toNat true) hF (by simp [F3]) (by simp [F3]) (by simp)
   ·replace hF := ite_f h6 hF
    have h6_ := h6
    try simp at h6_
    have F4 := And.intro F1 (And.intro h6 h6_)
    refine AW.condF (by decide) (by first | (simp [F4]; done) | (simp [F4]; omega)) ?_
    refine AW.skip ?_
    refine hK172 _ _ _ ?_
    exact Can.join (v3) hF (by simp [F4]) (by simp [F4]) (by simp)
  ·rintro v4 hF
   try dsimp only at hF
   unfold roster_of.J2 at hF
   refine AW.region mixed [] [none, none] (by kernel_rfl) fun G171 R171 hG171 hR171 => ?_
   try simp [h1, h1_]
   repeat' apply And.intro
   any_goals (first | exact hG171 _ (by kernel_rfl) | refine hR171 _ _ _ ?_ | omega | (unfold maxLen; omega) | (simp [h1, h1_]; done) | (simp [h1, h1_]; omega))
   refine hK165 _ _ _ ?_
   refine Can.weak [(2, AV.ptr 0 0), (3, AV.ptr 1 0), (6, AV.lst false false (List.map (AV.int .i64) v0)), (7, AV.int .i64 (v0.length : Int)), (8, AV.int .i64 (IntKind.wrap .i64 (v2 + 1)))] [(0, .cells (List.map AV.bool (List.replicate 64 false))), (1, .cells (List.map AV.bool v4))] 2 (by simp [h1, h1_]) (by simp [h1, h1_]) (by simp) ?_
   exact Can.next (k' := n1) ((IntKind.wrap .i64 (v2 + 1), v4)) (by omega) hF (by simp [h1, h1_]) (by simp [h1, h1_]) (by simp)
 ·replace hF := ite_f h1 hF
  have h1_ := h1
  try simp at h1_
  refine AW.condF (by decide) (by first | (simp [h1, h1_]; done) | (simp [h1, h1_]; omega)) ?_
  refine AW.exit ?_
  try simp
  refine hK133 _ _ _ ?_
  refine AW.seqR mixed [] [none, none] (by kernel_rfl) fun G176 R176 hG176 hR176 => ?_
  -- array load
  obtain ⟨h10, hF⟩ := chk_elim hF
  have h10_ := ne_of_len h10 (by decide)
  obtain ⟨h11, hF⟩ := chk_elim hF
  have F5 := And.intro h1 (And.intro h1_ (And.intro h10 (And.intro h10_ h11)))
  try simp [F5]
  repeat' apply And.intro
  any_goals (first | exact hG176 _ (by kernel_rfl) | refine hR176 _ _ _ ?_ | omega | (unfold maxLen; omega) | (simp [F5]; done) | (simp [F5]; omega))
  refine AW.wk [(2, AV.ptr 0 0)] [(0, .cells (List.map AV.bool v3))] 2 (by simp [F5]) (by simp [F5]) (by simp) ?_
  obtain ⟨h12, hF⟩ := chk_elim hF
  have h12_ := ne_of_len h12 (by decide)
  simp only [Option.some.injEq] at hF
  subst hF
  refine AW.ret (hQ _ _ _ ?_ (matchO_0 ?_)).1
  ·have F6 := And.intro F5 (And.intro h12 h12_)
   simp [Try.f98, F6]
  ·have F7 := And.intro F5 (And.intro h12 h12_)
   simp [F7]
set_option maxHeartbeats 4000000 in
theorem w_roster_Valid (k : Nat) (v0 : (List Int)) (v1 : Bool) (hF : roster_Valid k v0 = some v1) :
  FCall Try.prog 67 [AV.lst false false (List.map (AV.int .i64) v0)] [] (AV.bool v1) [] := by
 unfold roster_Valid at hF
 refine FCall.enter Try.func67 rfl (by simp) (by decide) (by simp) (by simp) (by simp) (by simp) (by simp) ?_
 intro c0 w0 Q h0 hQ
 refine AW.wk [(0, AV.lst false false (List.map (AV.int .i64) v0))] [] 0 (by simp) (by simp) (by simp) ?_
 refine AW.seqR mixed [] [none] (by kernel_rfl) fun G96 R96 hG96 hR96 => ?_
 try simp
 repeat' apply And.intro
 any_goals (first | exact hG96 _ (by kernel_rfl) | refine hR96 _ _ _ ?_ | omega | (unfold maxLen; omega) | (simp; done) | (simp; omega))
 refine AW.wk [(0, AV.lst false false (List.map (AV.int .i64) v0))] [] 0 (by simp) (by simp) (by simp) ?_
 refine AW.seq fun K143 hK143 => ?_
 refine AW.seqR mixed [] [none, none, none] (by kernel_rfl) fun G144 R144 hG144 hR144 => ?_
 try simp
 repeat' apply And.intro
 any_goals (first | exact hG144 _ (by kernel_rfl) | refine hR144 _ _ _ ?_ | omega | (unfold maxLen; omega) | (simp; done) | (simp; omega))
 refine AW.wk [(0, AV.lst false false (List.map (AV.int .i64) v0)), (5, AV.lst false false (List.map (AV.int .i64) v0)), (6, AV.int .i64 (v0.length : Int)), (7, AV.int .i64 0)] [] 0 (by simp) (by simp) (by simp) ?_
 refine AW.block ?_
 refine AW.loopF (α := Int) (fun n v2 => roster_Valid.L1 k v0 n v2 = some v1) (fun v2 => [(0, AV.lst false false (List.map (AV.int .i64) v0)), (5, AV.lst false false (List.map (AV.int .i64) v0)), (6, AV.int .i64 (v0.length : Int)), (7, AV.int .i64 v2)]) (fun v2 => []) 0 k (0) hF (by simp) (by simp) (by simp) ?_
 rintro (_|n1) v2 hF K177 hK177
 ·try dsimp only at hF
  rw [roster_Valid.L1] at hF; cases hF
 try dsimp only at hF
 rw [roster_Valid.L1] at hF
 refine AW.seqR mixed [] [none] (by kernel_rfl) fun G178 R178 hG178 hR178 => ?_
 try simp
 repeat' apply And.intro
 any_goals (first | exact hG178 _ (by kernel_rfl) | refine hR178 _ _ _ ?_ | omega | (unfold maxLen; omega) | (simp; done) | (simp; omega))
 refine AW.wk [(0, AV.lst false false (List.map (AV.int .i64) v0)), (5, AV.lst false false (List.map (AV.int .i64) v0)), (6, AV.int .i64 (v0.length : Int)), (7, AV.int .i64 v2), (8, AV.bool (decide (v2 < (v0.length : Int))))] [] 0 (by simp) (by simp) (by simp) ?_
 refine AW.seq fun K179 hK179 => ?_
 by_cases h1 : v2 < (v0.length : Int)
 ·replace hF := ite_t h1 hF
  have h1_ := h1
  try simp at h1_
  refine AW.condT (by decide) (by first | (simp [h1, h1_]; done) | (simp [h1, h1_]; omega)) ?_
  refine AW.skip ?_
  refine hK179 _ _ _ ?_
  refine AW.midF (α := Unit) (fun _ => roster_Valid.J2 k v2 (fun v2_ => roster_Valid.L1 k v0 n1 v2_) = some v1) (fun _ => [(0, AV.lst false false (List.map (AV.int .i64) v0)), (5, AV.lst false false (List.map (AV.int .i64) v0)), (6, AV.int .i64 (v0.length : Int)), (7, AV.int .i64 v2)]) (fun _ => []) 0 (fun K185 hK185 => ?_) ?_
  ·refine AW.block ?_
   refine AW.seqR mixed [] [none, none, none, none, none] (by kernel_rfl) fun G186 R186 hG186 hR186 => ?_
   obtain ⟨v3, h2, h3, h4, hF⟩ := idx_elim hF
   have h4_ := get_of h4
   try simp at h4_
   have h3_ := h3
   try simp at h3_
   have F1 := And.intro h1 (And.intro h1_ (And.intro h2 (And.intro h3 (And.intro h4 (And.intro h4_ h3_)))))
   try simp [F1]
   repeat' apply And.intro
   any_goals (first | exact hG186 _ (by kernel_rfl) | refine hR186 _ _ _ ?_ | omega | (unfold maxLen; omega) | (simp [F1]; done) | (simp [F1]; omega))
   refine AW.wk [(0, AV.lst false false (List.map (AV.int .i64) v0)), (3, AV.int .i64 v2), (4, AV.int .i64 v3), (5, AV.lst false false (List.map (AV.int .i64) v0)), (6, AV.int .i64 (v0.length : Int)), (7, AV.int .i64 v2)] [] 0 (by simp [F1]) (by simp [F1]) (by simp) ?_
   refine AW.seqR mixed [] [none, none, none, none, some (15, false), some (15, false), some (15, false), some (18, true), some (18, true), some (18, true), some (18, true), some (18, true), some (18, true), some (18, true), some (15, false), none] (by kernel_rfl) fun G187 R187 hG187 hR187 => ?_
   try simp [F1]
   repeat' apply And.intro
   try any_goals (first | omega | (unfold maxLen; omega) | (simp [F1]; done))
   obtain ⟨v4, h5, hF⟩ := bnd1_elim hF
   refine aCall_l (w_roster_key k _ _ h5) (by simp) [] [] [] rfl (.cons (.same (by simp [F1])) .nil) (by simp [F1]) (by decide) (by simp) (by simp) (.inl rfl) (by simp) (by simp) ?_
   by_cases h6 : (!v4) = true
   ·replace hF := ite_t h6 hF
    have h6_ := h6
    try simp at h6_
    have F2 := And.intro F1 (And.intro h6 h6_)
    try simp [F2]
    repeat' apply And.intro
    any_goals (first | exact hG187 _ (by kernel_rfl) | refine hR187 _ _ _ ?_ | omega | (unfold maxLen; omega) | (simp [F2]; done) | (simp [F2]; omega))
    refine AW.wk [(0, AV.lst false false (List.map (AV.int .i64) v0)), (5, AV.lst false false (List.map (AV.int .i64) v0)), (6, AV.int .i64 (v0.length : Int)), (7, AV.int .i64 v2), (27, AV.bool true)] [] 0 (by simp [F2]) (by simp [F2]) (by simp) ?_
    refine AW.condT (by decide) (by simp [F2]) ?_
    refine AW.seqR mixed [] [none] (by kernel_rfl) fun G188 R188 hG188 hR188 => ?_
    try simp [F2]
    repeat' apply And.intro
    any_goals (first | exact hG188 _ (by kernel_rfl) | refine hR188 _ _ _ ?_ | omega | (unfold maxLen; omega) | (simp [F2]; done) | (simp [F2]; omega))
    refine AW.wk [(2, AV.bool false)] [] 0 (by simp [F2]) (by simp [F2]) (by simp) ?_
    simp only [Option.some.injEq] at hF
    subst hF
    refine AW.ret (hQ _ _ _ ?_ (matchO_0 ?_)).1
    ·simp [Try.f67, F2]
    ·simp [F2]
   ·replace hF := ite_f h6 hF
    have h6_ := h6
    try simp at h6_
    by_cases h7 : 0 < v2
    ·replace hF := ite_t h7 hF
     have h7_ := h7
     try simp at h7_
     obtain ⟨v5, h8, h9, h10, hF⟩ := idx_elim hF
     have h10_ := get_of h10
     try simp at h10_
     have h9_ := h9
     try simp at h9_
     have F3 := And.intro F1 (And.intro h6 (And.intro h6_ (And.intro h7 (And.intro h7_ (And.intro h8 (And.intro h9 (And.intro h10 (And.intro h10_ h9_))))))))
     try simp [F3]
     repeat' apply And.intro
     any_goals (first | exact hG187 _ (by kernel_rfl) | refine hR187 _ _ _ ?_ | omega | (unfold maxLen; omega) | (simp [F3]; done) | (simp [F3]; omega))
     refine AW.wk [(0, AV.lst false false (List.map (AV.int .i64) v0)), (5, AV.lst false false (List.map (AV.int .i64) v0)), (6, AV.int .i64 (v0.length : Int)), (7, AV.int .i64 v2), (27, AV.bool (decide (v3 ≤ v5)))] [] 0 (by simp [F3]) (by simp [F3]) (by simp) ?_
     by_cases h11 : v3 ≤ v5
     ·replace hF := ite_t h11 hF
      have h11_ := h11
      try simp at h11_
      have F4 := And.intro F3 (And.intro h11 h11_)
      refine AW.condT (by decide) (by first | (simp [F4]; done) | (simp [F4]; omega)) ?_
      refine AW.seqR mixed [] [none] (by kernel_rfl) fun G189 R189 hG189 hR189 => ?_
      try simp [F4]
      repeat' apply And.intro
      any_goals (first | exact hG189 _ (by kernel_rfl) | refine hR189 _ _ _ ?_ | omega | (unfold maxLen; omega) | (simp [F4]; done) | (simp [F4]; omega))
      refine AW.wk [(2, AV.bool false)] [] 0 (by simp [F4]) (by simp [F4]) (by simp) ?_
      simp only [Option.some.injEq] at hF
      subst hF
      refine AW.ret (hQ _ _ _ ?_ (matchO_0 ?_)).1
      ·simp [Try.f67, F4]
      ·simp [F4]
     ·replace hF := ite_f h11 hF
      have h11_ := h11
      try simp at h11_
      have F5 := And.intro F3 (And.intro h11 h11_)
      refine AW.condF (by decide) (by first | (simp [F5]; done) | (simp [F5]; omega)) ?_
      refine AW.skip ?_
      refine hK185 _ _ _ ?_
      exact Can.join (()) hF (by simp [F5]) (by simp [F5]) (by simp)
    ·replace hF := ite_f h7 hF
     have h7_ := h7
     try simp at h7_
     have F6 := And.intro F1 (And.intro h6 (And.intro h6_ (And.intro h7 h7_)))
     try simp [F6]
     repeat' apply And.intro
     any_goals (first | exact hG187 _ (by kernel_rfl) | refine hR187 _ _ _ ?_ | omega | (unfold maxLen; omega) | (simp [F6]; done) | (simp [F6]; omega))
     refine AW.wk [(0, AV.lst false false (List.map (AV.int .i64) v0)), (5, AV.lst false false (List.map (AV.int .i64) v0)), (6, AV.int .i64 (v0.length : Int)), (7, AV.int .i64 v2), (27, AV.bool false)] [] 0 (by simp [F6]) (by simp [F6]) (by simp) ?_
     refine AW.condF (by decide) (by simp [F6]) ?_
     refine AW.skip ?_
     refine hK185 _ _ _ ?_
     exact Can.join (()) hF (by simp [F6]) (by simp [F6]) (by simp)
  ·rintro ⟨⟩ hF
   try dsimp only at hF
   unfold roster_Valid.J2 at hF
   refine AW.region mixed [] [none, none] (by kernel_rfl) fun G184 R184 hG184 hR184 => ?_
   try simp [h1, h1_]
   repeat' apply And.intro
   any_goals (first | exact hG184 _ (by kernel_rfl) | refine hR184 _ _ _ ?_ | omega | (unfold maxLen; omega) | (simp [h1, h1_]; done) | (simp [h1, h1_]; omega))
   refine hK177 _ _ _ ?_
   refine Can.weak [(0, AV.lst false false (List.map (AV.int .i64) v0)), (5, AV.lst false false (List.map (AV.int .i64) v0)), (6, AV.int .i64 (v0.length : Int)), (7, AV.int .i64 (IntKind.wrap .i64 (v2 + 1)))] [] 0 (by simp [h1, h1_]) (by simp [h1, h1_]) (by simp) ?_
   exact Can.next (k' := n1) (IntKind.wrap .i64 (v2 + 1)) (by omega) hF (by simp [h1, h1_]) (by simp [h1, h1_]) (by simp)
 ·replace hF := ite_f h1 hF
  have h1_ := h1
  try simp at h1_
  refine AW.condF (by decide) (by first | (simp [h1, h1_]; done) | (simp [h1, h1_]; omega)) ?_
  refine AW.exit ?_
  try simp
  refine hK143 _ _ _ ?_
  refine AW.seqR mixed [] [none, none, none, none, none] (by kernel_rfl) fun G190 R190 hG190 hR190 => ?_
  try simp [h1, h1_]
  repeat' apply And.intro
  try any_goals (first | omega | (unfold maxLen; omega) | (simp [h1, h1_]; done))
  obtain ⟨v6, h12, hF⟩ := bnd1_elim hF
  refine aCall_l (w_roster_of k _ _ h12) (by simp) [] [] [] rfl (.cons (.same (by simp [h1, h1_])) .nil) (by simp [h1, h1_]) (by decide) (by simp) (by simp) (.inl rfl) (by simp) (by simp) ?_
  obtain ⟨h13, hF⟩ := chk_elim hF
  have F7 := And.intro h1 (And.intro h1_ h13)
  try simp [F7]
  repeat' apply And.intro
  any_goals (first | exact hG190 _ (by kernel_rfl) | refine hR190 _ _ _ ?_ | omega | (unfold maxLen; omega) | (simp [F7]; done) | (simp [F7]; omega))
  refine AW.wk [(2, AV.bool (v6 != (List.replicate 64 false)))] [] 0 (by simp [F7]) (by simp [F7]) (by simp) ?_
  simp only [Option.some.injEq] at hF
  subst hF
  refine AW.ret (hQ _ _ _ ?_ (matchO_0 ?_)).1
  ·simp [Try.f67, F7]
  ·simp [F7]
set_option maxHeartbeats 4000000 in
theorem w_slices_Clone_int_int (k : Nat) (v0 : (List Int)) (v1 : (List Int)) (hF : slices_Clone_int_int k v0 = some v1) :
  FCall Try.prog 72 [AV.lst false false (List.map (AV.int .i64) v0)] [] (AV.slc 0 0 1 v1.length false) [some (.grow (List.map (AV.int .i64) v1))] := by
 unfold slices_Clone_int_int at hF
 obtain ⟨h1, hF⟩ := chk_elim hF
 simp only [Option.some.injEq] at hF
 subst hF
 refine FCall.enter Try.func72 rfl (by simp) (by decide) (by simp) (by simp) (by simp) (by simp) (by simp) ?_
 intro c0 w0 Q h0 hQ
 refine AW.wk [(0, AV.lst false false (List.map (AV.int .i64) v0))] [] 0 (by simp) (by simp) (by simp) ?_
 refine AW.seqR mixed [] [none] (by kernel_rfl) fun G0 R0 hG0 hR0 => ?_
 simp
 refine ⟨hG0 _ (by kernel_rfl), hR0 _ _ _ ?_⟩
 refine AW.wk [(0, AV.lst false false (List.map (AV.int .i64) v0))] [] 0 (by simp) (by simp) (by simp) ?_
 refine AW.nilSplit (fl := false) (xs := List.map (AV.int .i64) v0) 0 (by decide) (by simp) (fun hx => ?_) ?_
 ·simp at hx
  subst hx
  refine AW.wk [(0, AV.lst true false [])] [] 0 (by simp) (by simp) (by simp) ?_
  refine AW.seq fun K2 hK2 => ?_
  refine AW.seqR mixed [] [none, none] (by kernel_rfl) fun G1 R1 hG1 hR1 => ?_
  simp
  refine ⟨hG1 _ (by kernel_rfl), hR1 _ _ _ ?_⟩
  refine AW.wk [(4, AV.bool true)] [] 0 (by simp) (by simp) (by simp) ?_
  refine AW.condT (by decide) (by simp) ?_
  refine AW.seqR mixed [] [none] (by kernel_rfl) fun G3 R3 hG3 hR3 => ?_
  simp
  refine ⟨hG3 _ (by kernel_rfl), hR3 _ _ _ ?_⟩
  refine AW.wk [(2, AV.lst true true [])] [] 0 (by simp) (by simp) (by simp) ?_
  refine AW.own' 2 1 true (by simp) (by decide) ?_
  refine AW.ret (hQ _ _ _ ?_ (matchO_0 ?_)).1
  ·simp [Try.f72]
  ·simp
 ·refine AW.wk [(0, AV.nn (AV.lst false false (List.map (AV.int .i64) v0)))] [] 0 (by simp) (by simp) (by simp) ?_
  refine AW.seq fun K2 hK2 => ?_
  refine AW.seqR mixed [] [none, none] (by kernel_rfl) fun G1 R1 hG1 hR1 => ?_
  simp
  refine ⟨hG1 _ (by kernel_rfl), hR1 _ _ _ ?_⟩
  refine AW.wk [(0, AV.nn (AV.lst false false (List.map (AV.int .i64) v0))), (4, AV.bool false)] [] 0 (by simp) (by simp) (by simp) ?_
  refine AW.flg [(0, AV.lst false false (List.map (AV.int .i64) v0))] [] ⟨.nn, trivial⟩ trivial (by decide) ?_
  refine AW.wk [(0, AV.lst false false (List.map (AV.int .i64) v0)), (4, AV.bool false)] [] 0 (by simp) (by simp) (by simp) ?_
  refine AW.condF (by decide) (by simp) ?_
  refine AW.skip ?_
  refine hK2 _ _ _ ?_
  refine AW.seqR mixed [7] [none, none, none, none] (by kernel_rfl) fun G3 R3 hG3 hR3 => ?_
  simp
  repeat' apply And.intro
  any_goals (first | exact hG3 _ (by kernel_rfl) | refine hR3 _ _ _ ?_ | omega | (unfold maxLen; omega))
  refine AW.wk [(2, AV.slc 0 0 1 v0.length false)] [(0, .grow (List.map (AV.int .i64) v0))] 1 (by simp) (by simp) (by simp) ?_
  refine AW.ret (hQ _ _ _ ?_ (matchO_0 ?_)).1
  ·simp [Try.f72]
  ·simp
set_option maxHeartbeats 4000000 in
theorem w_committee_Draw (k : Nat) (v0 : (List Int)) (v1 : (List Int)) (v2 : Int) (v3 : (List Int)) (v4 : Int) (hF : committee_Draw k v0 v1 v2 = some (v3, v4)) :
  FCall Try.prog 85 [AV.lst false false (List.map (AV.int .i64) v0), AV.lst false false (List.map (AV.int .i64) v1), AV.int .i64 v2] [] (AV.tup [AV.slc 0 0 1 v3.length false, AV.int .i64 v4]) [some (.grow (List.map (AV.int .i64) v3))] := by
 unfold committee_Draw at hF
 refine FCall.enter Try.func85 rfl (by simp) (by decide) (by simp) (by simp) (by simp) (by simp) (by simp) ?_
 intro c0 w0 Q h0 hQ
 refine AW.wk [(0, AV.lst false false (List.map (AV.int .i64) v0)), (1, AV.lst false false (List.map (AV.int .i64) v1)), (2, AV.int .i64 v2)] [] 0 (by simp) (by simp) (by simp) ?_
 refine AW.seqR mixed [] [none, none] (by kernel_rfl) fun G201 R201 hG201 hR201 => ?_
 try simp
 repeat' apply And.intro
 any_goals (first | exact hG201 _ (by kernel_rfl) | refine hR201 _ _ _ ?_ | omega | (unfold maxLen; omega) | (simp; done) | (simp; omega))
 refine AW.wk [(0, AV.lst false false (List.map (AV.int .i64) v0)), (1, AV.lst false false (List.map (AV.int .i64) v1)), (2, AV.int .i64 v2)] [] 0 (by simp) (by simp) (by simp) ?_
 refine AW.seq fun K204 hK204 => ?_
 refine AW.seqR mixed [] [none, none, none] (by kernel_rfl) fun G205 R205 hG205 hR205 => ?_
 try simp
 repeat' apply And.intro
 try any_goals (first | omega | (unfold maxLen; omega) | (simp; done))
 obtain ⟨v5, h1, hF⟩ := bnd1_elim hF
 refine aCall_l (w_roster_Valid k _ _ h1) (by simp) [] [] [] rfl (.cons (.same (by simp)) .nil) (by simp) (by decide) (by simp) (by simp) (.inl rfl) (by simp) (by simp) ?_
 try simp
 repeat' apply And.intro
 any_goals (first | exact hG205 _ (by kernel_rfl) | refine hR205 _ _ _ ?_ | omega | (unfold maxLen; omega) | (simp; done) | (simp; omega))
 refine AW.wk [(0, AV.lst false false (List.map (AV.int .i64) v0)), (1, AV.lst false false (List.map (AV.int .i64) v1)), (2, AV.int .i64 v2), (16, AV.bool (!v5))] [] 0 (by simp) (by simp) (by simp) ?_
 by_cases h2 : (!v5) = true
 ·replace hF := ite_t h2 hF
  have h2_ := h2
  try simp at h2_
  refine AW.condT (by decide) (by first | (simp [h2, h2_]; done) | (simp [h2, h2_]; omega)) ?_
  refine AW.seqR mixed [] [none, none] (by kernel_rfl) fun G206 R206 hG206 hR206 => ?_
  try simp [h2, h2_]
  repeat' apply And.intro
  any_goals (first | exact hG206 _ (by kernel_rfl) | refine hR206 _ _ _ ?_ | omega | (unfold maxLen; omega) | (simp [h2, h2_]; done) | (simp [h2, h2_]; omega))
  refine AW.wk [(6, AV.lst true true (List.map (AV.int .i64) ([] : List Int))), (7, AV.int .i64 43)] [] 0 (by simp [h2, h2_]) (by simp [h2, h2_]) (by simp) ?_
  refine AW.own' 6 1 true (by simp [h2, h2_]) (by decide) ?_
  simp only [Option.some.injEq, Prod.mk.injEq] at hF
  obtain ⟨e0, e1⟩ := hF
  subst e0 e1
  refine AW.ret (hQ _ _ _ ?_ (matchO_0 ?_)).1
  ·simp [Try.f85, h2, h2_]
  ·simp [h2, h2_]
 ·replace hF := ite_f h2 hF
  have h2_ := h2
  try simp at h2_
  refine AW.condF (by decide) (by first | (simp [h2, h2_]; done) | (simp [h2, h2_]; omega)) ?_
  refine AW.skip ?_
  refine hK204 _ _ _ ?_
  refine AW.seqR mixed [] [none, none, none, none, none] (by kernel_rfl) fun G207 R207 hG207 hR207 => ?_
  obtain ⟨v6, h3, hF⟩ := let1_elim hF
  have h3_ := h3
  try simp at h3_
  have F1 := And.intro h2 (And.intro h2_ (And.intro h3 h3_))
  try simp [F1]
  repeat' apply And.intro
  any_goals (first | exact hG207 _ (by kernel_rfl) | refine hR207 _ _ _ ?_ | omega | (unfold maxLen; omega) | (simp [F1]; done) | (simp [F1]; omega))
  refine AW.wk [(0, AV.lst false false (List.map (AV.int .i64) v0)), (1, AV.lst false false (List.map (AV.int .i64) v1)), (2, AV.int .i64 v2), (8, AV.int .i64 v6)] [] 0 (by simp [F1]) (by simp [F1]) (by simp) ?_
  refine AW.seq fun K212 hK212 => ?_
  refine AW.seqR mixed [] [none, none, none, some (23, false), some (23, false), none, none, some (27, false), some (27, false), some (27, false), some (27, false), none] (by kernel_rfl) fun G213 R213 hG213 hR213 => ?_
  by_cases h4 : v2 < 1
  ·replace hF := ite_t h4 hF
   have h4_ := h4
   try simp at h4_
   have F2 := And.intro F1 (And.intro h4 h4_)
   try simp [F2]
   repeat' apply And.intro
   any_goals (first | exact hG213 _ (by kernel_rfl) | refine hR213 _ _ _ ?_ | omega | (unfold maxLen; omega) | (simp [F2]; done) | (simp [F2]; omega))
   refine AW.wk [(0, AV.lst false false (List.map (AV.int .i64) v0)), (1, AV.lst false false (List.map (AV.int .i64) v1)), (8, AV.int .i64 v6), (32, AV.bool true)] [] 0 (by simp [F2]) (by simp [F2]) (by simp) ?_
   refine AW.condT (by decide) (by simp [F2]) ?_
   refine AW.seqR mixed [] [none, none] (by kernel_rfl) fun G214 R214 hG214 hR214 => ?_
   try simp [F2]
   repeat' apply And.intro
   any_goals (first | exact hG214 _ (by kernel_rfl) | refine hR214 _ _ _ ?_ | omega | (unfold maxLen; omega) | (simp [F2]; done) | (simp [F2]; omega))
   refine AW.wk [(6, AV.lst true true (List.map (AV.int .i64) ([] : List Int))), (7, AV.int .i64 44)] [] 0 (by simp [F2]) (by simp [F2]) (by simp) ?_
   refine AW.own' 6 1 true (by simp [F2]) (by decide) ?_
   simp only [Option.some.injEq, Prod.mk.injEq] at hF
   obtain ⟨e0, e1⟩ := hF
   subst e0 e1
   refine AW.ret (hQ _ _ _ ?_ (matchO_0 ?_)).1
   ·simp [Try.f85, F2]
   ·simp [F2]
  ·replace hF := ite_f h4 hF
   have h4_ := h4
   try simp at h4_
   by_cases h5 : 9 < v2
   ·replace hF := ite_t h5 hF
    have h5_ := h5
    try simp at h5_
    have F3 := And.intro F1 (And.intro h4 (And.intro h4_ (And.intro h5 h5_)))
    try simp [F3]
    repeat' apply And.intro
    any_goals (first | exact hG213 _ (by kernel_rfl) | refine hR213 _ _ _ ?_ | omega | (unfold maxLen; omega) | (simp [F3]; done) | (simp [F3]; omega))
    refine AW.wk [(0, AV.lst false false (List.map (AV.int .i64) v0)), (1, AV.lst false false (List.map (AV.int .i64) v1)), (8, AV.int .i64 v6), (32, AV.bool true)] [] 0 (by simp [F3]) (by simp [F3]) (by simp) ?_
    refine AW.condT (by decide) (by simp [F3]) ?_
    refine AW.seqR mixed [] [none, none] (by kernel_rfl) fun G215 R215 hG215 hR215 => ?_
    try simp [F3]
    repeat' apply And.intro
    any_goals (first | exact hG215 _ (by kernel_rfl) | refine hR215 _ _ _ ?_ | omega | (unfold maxLen; omega) | (simp [F3]; done) | (simp [F3]; omega))
    refine AW.wk [(6, AV.lst true true (List.map (AV.int .i64) ([] : List Int))), (7, AV.int .i64 44)] [] 0 (by simp [F3]) (by simp [F3]) (by simp) ?_
    refine AW.own' 6 1 true (by simp [F3]) (by decide) ?_
    simp only [Option.some.injEq, Prod.mk.injEq] at hF
    obtain ⟨e0, e1⟩ := hF
    subst e0 e1
    refine AW.ret (hQ _ _ _ ?_ (matchO_0 ?_)).1
    ·simp [Try.f85, F3]
    ·simp [F3]
   ·replace hF := ite_f h5 hF
    have h5_ := h5
    try simp at h5_
    have F4 := And.intro F1 (And.intro h4 (And.intro h4_ (And.intro h5 h5_)))
    try simp [F4]
    repeat' apply And.intro
    any_goals (first | exact hG213 _ (by kernel_rfl) | refine hR213 _ _ _ ?_ | omega | (unfold maxLen; omega) | (simp [F4]; done) | (simp [F4]; omega))
    refine AW.wk [(0, AV.lst false false (List.map (AV.int .i64) v0)), (1, AV.lst false false (List.map (AV.int .i64) v1)), (8, AV.int .i64 v6), (32, AV.bool (decide ((v1.length : Int) < v6)))] [] 0 (by simp [F4]) (by simp [F4]) (by simp) ?_
    by_cases h6 : (v1.length : Int) < v6
    ·replace hF := ite_t h6 hF
     have h6_ := h6
     try simp at h6_
     have F5 := And.intro F4 (And.intro h6 h6_)
     refine AW.condT (by decide) (by first | (simp [F5]; done) | (simp [F5]; omega)) ?_
     refine AW.seqR mixed [] [none, none] (by kernel_rfl) fun G216 R216 hG216 hR216 => ?_
     try simp [F5]
     repeat' apply And.intro
     any_goals (first | exact hG216 _ (by kernel_rfl) | refine hR216 _ _ _ ?_ | omega | (unfold maxLen; omega) | (simp [F5]; done) | (simp [F5]; omega))
     refine AW.wk [(6, AV.lst true true (List.map (AV.int .i64) ([] : List Int))), (7, AV.int .i64 44)] [] 0 (by simp [F5]) (by simp [F5]) (by simp) ?_
     refine AW.own' 6 1 true (by simp [F5]) (by decide) ?_
     simp only [Option.some.injEq, Prod.mk.injEq] at hF
     obtain ⟨e0, e1⟩ := hF
     subst e0 e1
     refine AW.ret (hQ _ _ _ ?_ (matchO_0 ?_)).1
     ·simp [Try.f85, F5]
     ·simp [F5]
    ·replace hF := ite_f h6 hF
     have h6_ := h6
     try simp at h6_
     have F6 := And.intro F4 (And.intro h6 h6_)
     refine AW.condF (by decide) (by first | (simp [F6]; done) | (simp [F6]; omega)) ?_
     refine AW.skip ?_
     refine hK212 _ _ _ ?_
     refine AW.seqR mixed [] [none, none, none] (by kernel_rfl) fun G217 R217 hG217 hR217 => ?_
     try simp [F6]
     repeat' apply And.intro
     try any_goals (first | omega | (unfold maxLen; omega) | (simp [F6]; done))
     obtain ⟨v7, h7, hF⟩ := bnd1_elim hF
     refine aCall_l (w_slices_Clone_int_int k _ _ h7) (by simp) [] [] [] rfl (.cons (.same (by simp [F6])) .nil) (by simp [F6]) (by decide) (by simp) (by simp) (.inl rfl) (by simp) (by simp) ?_
     try simp [F6]
     repeat' apply And.intro
     any_goals (first | exact hG217 _ (by kernel_rfl) | refine hR217 _ _ _ ?_ | omega | (unfold maxLen; omega) | (simp [F6]; done) | (simp [F6]; omega))
     refine AW.wk [(1, AV.lst false false (List.map (AV.int .i64) v1)), (8, AV.int .i64 v6), (9, AV.slc 0 0 1 v7.length false)] [(0, .grow (List.map (AV.int .i64) v7))] 1 (by simp [F6]) (by simp [F6]) (by simp) ?_
     refine AW.frz 0 (o := .grow (List.map (AV.int .i64) v7)) (by simp [F6]) rfl [(9, AV.lst false false (List.map (AV.int .i64) v7))] [] ⟨(.l (by simp) (by simp) (by simp) (by simp)), trivial⟩ trivial ?_
     refine AW.wk [(1, AV.lst false false (List.map (AV.int .i64) v1)), (8, AV.int .i64 v6), (9, AV.lst false false (List.map (AV.int .i64) v7))] [] 1 (by simp [F6]) (by simp [F6]) (by simp) ?_
     refine AW.seqR mixed [] [none] (by kernel_rfl) fun G218 R218 hG218 hR218 => ?_
     try simp [F6]
     repeat' apply And.intro
     any_goals (first | exact hG218 _ (by kernel_rfl) | refine hR218 _ _ _ ?_ | omega | (unfold maxLen; omega) | (simp [F6]; done) | (simp [F6]; omega))
     refine AW.wk [(1, AV.lst false false (List.map (AV.int .i64) v1)), (8, AV.int .i64 v6), (9, AV.lst false false (List.map (AV.int .i64) v7)), (10, AV.lst true true (List.map (AV.int .i64) ([] : List Int)))] [] 1 (by simp [F6]) (by simp [F6]) (by simp) ?_
     refine AW.seq fun K309 hK309 => ?_
     refine AW.seqR mixed [] [none, none, none, none, none] (by kernel_rfl) fun G310 R310 hG310 hR310 => ?_
     obtain ⟨⟨h8, h9⟩, hF⟩ := chk_elim hF
     have h8_ := h8
     try simp at h8_
     have h9_ := h9
     try simp at h9_
     have F7 := And.intro F6 (And.intro h8 (And.intro h9 (And.intro h8_ h9_)))
     try simp [F7]
     repeat' apply And.intro
     any_goals (first | exact hG310 _ (by kernel_rfl) | refine hR310 _ _ _ ?_ | omega | (unfold maxLen; omega) | (simp [F7]; done) | (simp [F7]; omega))
     refine AW.wk [(9, AV.lst false false (List.map (AV.int .i64) v7)), (10, AV.lst true true (List.map (AV.int .i64) ([] : List Int))), (37, AV.lst false false (List.map (AV.int .i64) (v1.take (v6).toNat))), (38, AV.int .i64 ((v1.take (v6).toNat).length : Int)), (39, AV.int .i64 0)] [] 1 (by simp [F7]) (by simp [F7]) (by simp) ?_
     refine AW.block ?_
     refine AW.own' 10 1 true (by simp [F7]) (by decide) ?_
     refine AW.rnm (m := 0) h0 [(0, 1)] [(9, AV.lst false false (List.map (AV.int .i64) v7)), (10, AV.slc 0 0 1 (([] : List Int).length) false), (37, AV.lst false false (List.map (AV.int .i64) (v1.take (v6).toNat))), (38, AV.int .i64 ((v1.take (v6).toNat).length : Int)), (39, AV.int .i64 0)] [(0, .grow (List.map (AV.int .i64) ([] : List Int)))] 1 (by decide) (by decide) (by decide) rfl (by simp [F7]) (by simp [F7]) ?_
     refine AW.loopF (α := ((List Int) × Int × (List Int))) (fun n (v8, v9, v10) => committee_Draw.L1 k v1 v6 n v8 v9 v10 = some (v3, v4)) (fun (v8, v9, v10) => [(9, AV.lst false false (List.map (AV.int .i64) v8)), (10, AV.slc 0 0 1 v10.length false), (37, AV.lst false false (List.map (AV.int .i64) (v1.take (v6).toNat))), (38, AV.int .i64 ((v1.take (v6).toNat).length : Int)), (39, AV.int .i64 v9)]) (fun (v8, v9, v10) => [(0, .grow (List.map (AV.int .i64) v10))]) 1 k ((v7, 0, ([] : List Int))) hF (by simp [F7]) (by simp [F7]) (by simp) ?_
     rintro (_|n1) ⟨v8, v9, v10⟩ hF K377 hK377
     ·try dsimp only at hF
      rw [committee_Draw.L1] at hF; cases hF
     try dsimp only at hF
     rw [committee_Draw.L1] at hF
     refine AW.seqR mixed [] [none] (by kernel_rfl) fun G378 R378 hG378 hR378 => ?_
     try simp [F7]
     repeat' apply And.intro
     any_goals (first | exact hG378 _ (by kernel_rfl) | refine hR378 _ _ _ ?_ | omega | (unfold maxLen; omega) | (simp [F7]; done) | (simp [F7]; omega))
     refine AW.wk [(9, AV.lst false false (List.map (AV.int .i64) v8)), (10, AV.slc 0 0 1 v10.length false), (37, AV.lst false false (List.map (AV.int .i64) (v1.take (v6).toNat))), (38, AV.int .i64 ((v1.take (v6).toNat).length : Int)), (39, AV.int .i64 v9), (40, AV.bool (decide (v9 < ((v1.take (v6).toNat).length : Int))))] [(0, .grow (List.map (AV.int .i64) v10))] 1 (by simp [F7]) (by simp [F7]) (by simp) ?_
     refine AW.seq fun K379 hK379 => ?_
     by_cases h10 : v9 < ((v1.take (v6).toNat).length : Int)
     ·replace hF := ite_t h10 hF
      have h10_ := h10
      try simp at h10_
      have F8 := And.intro F7 (And.intro h10 h10_)
      refine AW.condT (by decide) (by first | (simp [F8]; done) | (simp [F8]; omega)) ?_
      refine AW.skip ?_
      refine hK379 _ _ _ ?_
      refine AW.seq fun K389 hK389 => ?_
      refine AW.block ?_
      refine AW.seqR mixed [] [none, none, none] (by kernel_rfl) fun G390 R390 hG390 hR390 => ?_
      obtain ⟨v11, h11, h12, h13, hF⟩ := idx_elim hF
      have h13_ := get_of h13
      try simp at h13_
      have h12_ := h12
      try simp at h12_
      have h12t := h12
      rw [List.length_take] at h12t
      have h12u := (Nat.lt_min.1 h12t).1
      have h12v := (Nat.lt_min.1 h12t).2
      have F9 := And.intro F8 (And.intro h11 (And.intro h12 (And.intro h13 (And.intro h13_ (And.intro h12_ (And.intro h12u h12v))))))
      try simp [F9]
      repeat' apply And.intro
      any_goals (first | exact hG390 _ (by kernel_rfl) | refine hR390 _ _ _ ?_ | omega | (unfold maxLen; omega) | (simp [F9]; done) | (simp [F9]; omega))
      refine AW.wk [(9, AV.lst false false (List.map (AV.int .i64) v8)), (10, AV.slc 0 0 1 v10.length false), (12, AV.int .i64 v11), (37, AV.lst false false (List.map (AV.int .i64) (v1.take (v6).toNat))), (38, AV.int .i64 ((v1.take (v6).toNat).length : Int)), (39, AV.int .i64 v9)] [(0, .grow (List.map (AV.int .i64) v10))] 1 (by simp [F9]) (by simp [F9]) (by simp) ?_
      refine AW.seq fun K393 hK393 => ?_
      refine AW.seqR mixed [] [none, none] (by kernel_rfl) fun G394 R394 hG394 hR394 => ?_
      try simp [F9]
      repeat' apply And.intro
      any_goals (first | exact hG394 _ (by kernel_rfl) | refine hR394 _ _ _ ?_ | omega | (unfold maxLen; omega) | (simp [F9]; done) | (simp [F9]; omega))
      refine AW.wk [(9, AV.lst false false (List.map (AV.int .i64) v8)), (10, AV.slc 0 0 1 v10.length false), (12, AV.int .i64 v11), (37, AV.lst false false (List.map (AV.int .i64) (v1.take (v6).toNat))), (38, AV.int .i64 ((v1.take (v6).toNat).length : Int)), (39, AV.int .i64 v9), (44, AV.bool (decide (v11 < 0)))] [(0, .grow (List.map (AV.int .i64) v10))] 1 (by simp [F9]) (by simp [F9]) (by simp) ?_
      by_cases h14 : v11 < 0
      ·replace hF := ite_t h14 hF
       have h14_ := h14
       try simp at h14_
       have F10 := And.intro F9 (And.intro h14 h14_)
       refine AW.condT (by decide) (by first | (simp [F10]; done) | (simp [F10]; omega)) ?_
       refine AW.seqR mixed [] [none, none] (by kernel_rfl) fun G395 R395 hG395 hR395 => ?_
       try simp [F10]
       repeat' apply And.intro
       any_goals (first | exact hG395 _ (by kernel_rfl) | refine hR395 _ _ _ ?_ | omega | (unfold maxLen; omega) | (simp [F10]; done) | (simp [F10]; omega))
       refine AW.wk [(6, AV.lst true true (List.map (AV.int .i64) ([] : List Int))), (7, AV.int .i64 44)] [] 1 (by simp [F10]) (by simp [F10]) (by simp) ?_
       refine AW.own' 6 1 true (by simp [F10]) (by decide) ?_
       refine AW.rnm (m := 0) h0 [(0, 1)] [(6, AV.slc 0 0 1 (([] : List Int).length) false), (7, AV.int .i64 44)] [(0, .grow (List.map (AV.int .i64) ([] : List Int)))] 1 (by decide) (by decide) (by decide) rfl (by simp [F10]) (by simp [F10]) ?_
       simp only [Option.some.injEq, Prod.mk.injEq] at hF
       obtain ⟨e0, e1⟩ := hF
       subst e0 e1
       refine AW.ret (hQ _ _ _ ?_ (matchO_0 ?_)).1
       ·simp [Try.f85, F10]
       ·simp [F10]
      ·replace hF := ite_f h14 hF
       have h14_ := h14
       try simp at h14_
       have F11 := And.intro F9 (And.intro h14 h14_)
       refine AW.condF (by decide) (by first | (simp [F11]; done) | (simp [F11]; omega)) ?_
       refine AW.skip ?_
       refine hK393 _ _ _ ?_
       refine AW.seqR mixed [] [none, none, none, none, none] (by kernel_rfl) fun G396 R396 hG396 hR396 => ?_
       obtain ⟨h15, hF⟩ := chk_elim hF
       have h15_ := h15
       try simp at h15_
       have F12 := And.intro F11 (And.intro h15 h15_)
       try simp [F12]
       repeat' apply And.intro
       any_goals (first | exact hG396 _ (by kernel_rfl) | refine hR396 _ _ _ ?_ | omega | (unfold maxLen; omega) | (simp [F12]; done) | (simp [F12]; omega))
       refine AW.wk [(9, AV.lst false false (List.map (AV.int .i64) v8)), (10, AV.slc 0 0 1 v10.length false), (13, AV.int .i64 (Int.tmod v11 (v8.length : Int))), (37, AV.lst false false (List.map (AV.int .i64) (v1.take (v6).toNat))), (38, AV.int .i64 ((v1.take (v6).toNat).length : Int)), (39, AV.int .i64 v9)] [(0, .grow (List.map (AV.int .i64) v10))] 1 (by simp [F12]) (by simp [F12]) (by simp) ?_
       refine AW.seqR mixed [] [none, none, none, none, none, none, none, none] (by kernel_rfl) fun G397 R397 hG397 hR397 => ?_
       obtain ⟨v12, h16, h17, h18, hF⟩ := idx_elim hF
       have h18_ := get_of h18
       try simp at h18_
       have h17_ := h17
       try simp at h17_
       obtain ⟨h19, hF⟩ := chk_elim hF
       have h19_ := h19
       try simp at h19_
       have F13 := And.intro F12 (And.intro h16 (And.intro h17 (And.intro h18 (And.intro h18_ (And.intro h17_ h19)))))
       try simp [F13]
       repeat' apply And.intro
       any_goals (first | exact hG397 _ (by kernel_rfl) | refine hR397 _ _ _ ?_ | omega | (unfold maxLen; omega) | (simp [F13]; done) | (simp [F13]; omega))
       refine AW.wk [(9, AV.lst false false (List.map (AV.int .i64) v8)), (10, AV.slc 1 0 1 ((v10 ++ ([v12] : List Int)).length) false), (13, AV.int .i64 (Int.tmod v11 (v8.length : Int))), (37, AV.lst false false (List.map (AV.int .i64) (v1.take (v6).toNat))), (38, AV.int .i64 ((v1.take (v6).toNat).length : Int)), (39, AV.int .i64 v9)] [(1, .grow (List.map (AV.int .i64) (v10 ++ ([v12] : List Int))))] 2 (by simp [F13] <;> omega) (by simp [F13]) (by simp) ?_
       refine AW.region mixed [] [none, none, none, none, none, none, none, none, none, none] (by kernel_rfl) fun G398 R398 hG398 hR398 => ?_
       obtain ⟨⟨h20, h21⟩, hF⟩ := chk_elim hF
       have h20_ := h20
       try simp at h20_
       have h21_ := h21
       try simp at h21_
       obtain ⟨⟨h22, h23⟩, hF⟩ := chk_elim hF
       have h22_ := h22
       try simp at h22_
       have h23_ := h23
       try simp at h23_
       obtain ⟨h24, hF⟩ := chk_elim hF
       have h24_ := h24
       try simp at h24_
       have F14 := And.intro F13 (And.intro h20 (And.intro h21 (And.intro h20_ (And.intro h21_ (And.intro h22 (And.intro h23 (And.intro h22_ (And.intro h23_ h24))))))))
       try simp [F14]
       repeat' apply And.intro
       any_goals (first | exact hG398 _ (by kernel_rfl) | refine hR398 _ _ _ ?_ | omega | (unfold maxLen; omega) | (simp [F14]; done) | (simp [F14]; omega))
       refine hK389 _ _ _ ?_
       refine AW.wk [(9, AV.lst false false (List.map (AV.int .i64) ((v8.take (Int.tmod v11 (v8.length : Int)).toNat) ++ (v8.drop (IntKind.wrap .i64 (Int.tmod v11 (v8.length : Int) + 1)).toNat)))), (10, AV.slc 1 0 1 ((v10 ++ ([v12] : List Int)).length) false), (37, AV.lst false false (List.map (AV.int .i64) (v1.take (v6).toNat))), (38, AV.int .i64 ((v1.take (v6).toNat).length : Int)), (39, AV.int .i64 v9)] [(1, .grow (List.map (AV.int .i64) (v10 ++ ([v12] : List Int))))] 2 (by simp [F14] <;> omega) (by simp [F14]) (by simp) ?_
       refine AW.region mixed [] [none, none] (by kernel_rfl) fun G399 R399 hG399 hR399 => ?_
       try simp [F14]
       repeat' apply And.intro
       any_goals (first | exact hG399 _ (by kernel_rfl) | refine hR399 _ _ _ ?_ | omega | (unfold maxLen; omega) | (simp [F14]; done) | (simp [F14]; omega))
       refine hK377 _ _ _ ?_
       refine Can.weak [(9, AV.lst false false (List.map (AV.int .i64) ((v8.take (Int.tmod v11 (v8.length : Int)).toNat) ++ (v8.drop (IntKind.wrap .i64 (Int.tmod v11 (v8.length : Int) + 1)).toNat)))), (10, AV.slc 1 0 1 ((v10 ++ ([v12] : List Int)).length) false), (37, AV.lst false false (List.map (AV.int .i64) (v1.take (v6).toNat))), (38, AV.int .i64 ((v1.take (v6).toNat).length : Int)), (39, AV.int .i64 (IntKind.wrap .i64 (v9 + 1)))] [(1, .grow (List.map (AV.int .i64) (v10 ++ ([v12] : List Int))))] 2 (by simp [F14] <;> omega) (by simp [F14]) (by simp) ?_
       refine Can.ren (m := 0) h0 [(0, 1)] [(9, AV.lst false false (List.map (AV.int .i64) ((v8.take (Int.tmod v11 (v8.length : Int)).toNat) ++ (v8.drop (IntKind.wrap .i64 (Int.tmod v11 (v8.length : Int) + 1)).toNat)))), (10, AV.slc 0 0 1 ((v10 ++ ([v12] : List Int)).length) false), (37, AV.lst false false (List.map (AV.int .i64) (v1.take (v6).toNat))), (38, AV.int .i64 ((v1.take (v6).toNat).length : Int)), (39, AV.int .i64 (IntKind.wrap .i64 (v9 + 1)))] [(0, .grow (List.map (AV.int .i64) (v10 ++ ([v12] : List Int))))] 1 (by decide) (by decide) (by decide) rfl (by simp [F14]) (by simp [F14]) ?_
       exact Can.next (k' := n1) (((v8.take (Int.tmod v11 (v8.length : Int)).toNat) ++ (v8.drop (IntKind.wrap .i64 (Int.tmod v11 (v8.length : Int) + 1)).toNat), IntKind.wrap .i64 (v9 + 1), v10 ++ ([v12] : List Int))) (by omega) hF (by simp [F14]) (by simp [F14]) (by simp)
     ·replace hF := ite_f h10 hF
      have h10_ := h10
      try simp at h10_
      have F15 := And.intro F7 (And.intro h10 h10_)
      refine AW.condF (by decide) (by first | (simp [F15]; done) | (simp [F15]; omega)) ?_
      refine AW.exit ?_
      try simp
      refine hK309 _ _ _ ?_
      refine AW.seqR mixed [] [none, none, none] (by kernel_rfl) fun G400 R400 hG400 hR400 => ?_
      try simp [F15]
      repeat' apply And.intro
      any_goals (first | exact hG400 _ (by kernel_rfl) | refine hR400 _ _ _ ?_ | omega | (unfold maxLen; omega) | (simp [F15]; done) | (simp [F15]; omega))
      refine AW.wk [(6, AV.slc 0 0 1 v10.length false), (7, AV.int .i64 0)] [(0, .grow (List.map (AV.int .i64) v10))] 1 (by simp [F15]) (by simp [F15]) (by simp) ?_
      simp only [Option.some.injEq, Prod.mk.injEq] at hF
      obtain ⟨e0, e1⟩ := hF
      subst e0 e1
      refine AW.ret (hQ _ _ _ ?_ (matchO_0 ?_)).1
      ·simp [Try.f85, F15]
      ·simp [F15]
set_option maxHeartbeats 4000000 in
theorem w_ref23_SameInts (k : Nat) (v0 : (List Int)) (v1 : (List Int)) (v2 : Bool) (hF : ref23_SameInts k v0 v1 = some v2) :
  FCall Try.prog 32 [AV.lst false false (List.map (AV.int .i64) v0), AV.lst false false (List.map (AV.int .i64) v1)] [] (AV.bool v2) [] := by
 unfold ref23_SameInts at hF
 refine FCall.enter Try.func32 rfl (by simp) (by decide) (by simp) (by simp) (by simp) (by simp) (by simp) ?_
 intro c0 w0 Q h0 hQ
 refine AW.wk [(0, AV.lst false false (List.map (AV.int .i64) v0)), (1, AV.lst false false (List.map (AV.int .i64) v1))] [] 0 (by simp) (by simp) (by simp) ?_
 refine AW.seqR mixed [] [none] (by kernel_rfl) fun G85 R85 hG85 hR85 => ?_
 try simp
 repeat' apply And.intro
 any_goals (first | exact hG85 _ (by kernel_rfl) | refine hR85 _ _ _ ?_ | omega | (unfold maxLen; omega) | (simp; done) | (simp; omega))
 refine AW.wk [(0, AV.lst false false (List.map (AV.int .i64) v0)), (1, AV.lst false false (List.map (AV.int .i64) v1))] [] 0 (by simp) (by simp) (by simp) ?_
 refine AW.seq fun K88 hK88 => ?_
 refine AW.seqR mixed [] [none, none, none, none, none] (by kernel_rfl) fun G89 R89 hG89 hR89 => ?_
 try simp
 repeat' apply And.intro
 any_goals (first | exact hG89 _ (by kernel_rfl) | refine hR89 _ _ _ ?_ | omega | (unfold maxLen; omega) | (simp; done) | (simp; omega))
 refine AW.wk [(0, AV.lst false false (List.map (AV.int .i64) v0)), (1, AV.lst false false (List.map (AV.int .i64) v1)), (10, AV.bool ((v0.length : Int) != (v1.length : Int)))] [] 0 (by simp) (by simp) (by simp) ?_
 by_cases h1 : (v0.length : Int) ≠ (v1.length : Int)
 ·replace hF := ite_t h1 hF
  have h1_ := eqb_f h1
  have h1__ := neb_t h1
  have F1 := And.intro h1 (And.intro h1_ h1__)
  refine AW.condT (by decide) (by first | (simp [F1]; done) | (simp [F1]; omega)) ?_
  refine AW.seqR mixed [] [none] (by kernel_rfl) fun G90 R90 hG90 hR90 => ?_
  try simp [F1]
  repeat' apply And.intro
  any_goals (first | exact hG90 _ (by kernel_rfl) | refine hR90 _ _ _ ?_ | omega | (unfold maxLen; omega) | (simp [F1]; done) | (simp [F1]; omega))
  refine AW.wk [(4, AV.bool false)] [] 0 (by simp [F1]) (by simp [F1]) (by simp) ?_
  simp only [Option.some.injEq] at hF
  subst hF
  refine AW.ret (hQ _ _ _ ?_ (matchO_0 ?_)).1
  ·simp [Try.f32, F1]
  ·simp [F1]
 ·replace hF := ite_f h1 hF
  have h1q : (v0.length : Int) = (v1.length : Int) := Classical.not_not.1 h1
  have h1_ := eqb_t h1q
  have h1__ := neb_f h1q
  refine AW.condF (by decide) (by first | (simp [h1_, h1__]; done) | (simp [h1_, h1__]; omega)) ?_
  refine AW.skip ?_
  refine hK88 _ _ _ ?_
  refine AW.seq fun K129 hK129 => ?_
  refine AW.seqR mixed [] [none] (by kernel_rfl) fun G130 R130 hG130 hR130 => ?_
  try simp [h1_, h1__]
  repeat' apply And.intro
  any_goals (first | exact hG130 _ (by kernel_rfl) | refine hR130 _ _ _ ?_ | omega | (unfold maxLen; omega) | (simp [h1_, h1__]; done) | (simp [h1_, h1__]; omega))
  refine AW.wk [(0, AV.lst false false (List.map (AV.int .i64) v0)), (1, AV.lst false false (List.map (AV.int .i64) v1)), (5, AV.int .i64 0)] [] 0 (by simp [h1_, h1__]) (by simp [h1_, h1__]) (by simp) ?_
  refine AW.block ?_
  refine AW.loopF (α := Int) (fun n v3 => ref23_SameInts.L1 k v0 v1 n v3 = some v2) (fun v3 => [(0, AV.lst false false (List.map (AV.int .i64) v0)), (1, AV.lst false false (List.map (AV.int .i64) v1)), (5, AV.int .i64 v3)]) (fun v3 => []) 0 k (0) hF (by simp [h1_, h1__]) (by simp [h1_, h1__]) (by simp) ?_
  rintro (_|n1) v3 hF K158 hK158
  ·try dsimp only at hF
   rw [ref23_SameInts.L1] at hF; cases hF
  try dsimp only at hF
  rw [ref23_SameInts.L1] at hF
  refine AW.seq fun K160 hK160 => ?_
  refine AW.seqR mixed [] [none, none, none, none] (by kernel_rfl) fun G161 R161 hG161 hR161 => ?_
  try simp [h1_, h1__]
  repeat' apply And.intro
  any_goals (first | exact hG161 _ (by kernel_rfl) | refine hR161 _ _ _ ?_ | omega | (unfold maxLen; omega) | (simp [h1_, h1__]; done) | (simp [h1_, h1__]; omega))
  refine AW.wk [(0, AV.lst false false (List.map (AV.int .i64) v0)), (1, AV.lst false false (List.map (AV.int .i64) v1)), (5, AV.int .i64 v3), (14, AV.bool (decide (v3 < (v0.length : Int))))] [] 0 (by simp [h1_, h1__]) (by simp [h1_, h1__]) (by simp) ?_
  by_cases h2 : v3 < (v0.length : Int)
  ·replace hF := ite_t h2 hF
   have h2_ := h2
   try simp at h2_
   have F2 := And.intro h1_ (And.intro h1__ (And.intro h2 h2_))
   refine AW.condT (by decide) (by first | (simp [F2]; done) | (simp [F2]; omega)) ?_
   refine AW.skip ?_
   refine hK160 _ _ _ ?_
   refine AW.seq fun K164 hK164 => ?_
   refine AW.block ?_
   refine AW.seqR mixed [] [none, none, none, none, none, none, none, none, none] (by kernel_rfl) fun G165 R165 hG165 hR165 => ?_
   obtain ⟨v4, h3, h4, h5, hF⟩ := idx_elim hF
   have h5_ := get_of h5
   try simp at h5_
   have h4_ := h4
   try simp at h4_
   obtain ⟨v5, h6, h7, h8, hF⟩ := idx_elim hF
   have h8_ := get_of h8
   try simp at h8_
   have h7_ := h7
   try simp at h7_
   have F3 := And.intro F2 (And.intro h3 (And.intro h4 (And.intro h5 (And.intro h5_ (And.intro h4_ (And.intro h6 (And.intro h7 (And.intro h8 (And.intro h8_ h7_)))))))))
   try simp [F3]
   repeat' apply And.intro
   any_goals (first | exact hG165 _ (by kernel_rfl) | refine hR165 _ _ _ ?_ | omega | (unfold maxLen; omega) | (simp [F3]; done) | (simp [F3]; omega))
   refine AW.wk [(0, AV.lst false false (List.map (AV.int .i64) v0)), (1, AV.lst false false (List.map (AV.int .i64) v1)), (5, AV.int .i64 v3), (25, AV.bool (v4 != v5))] [] 0 (by simp [F3]) (by simp [F3]) (by simp) ?_
   by_cases h9 : v4 ≠ v5
   ·replace hF := ite_t h9 hF
    have h9_ := eqb_f h9
    have h9__ := neb_t h9
    have F4 := And.intro F3 (And.intro h9 (And.intro h9_ h9__))
    refine AW.condT (by decide) (by first | (simp [F4]; done) | (simp [F4]; omega)) ?_
    refine AW.seqR mixed [] [none] (by kernel_rfl) fun G166 R166 hG166 hR166 => ?_
    try simp [F4]
    repeat' apply And.intro
    any_goals (first | exact hG166 _ (by kernel_rfl) | refine hR166 _ _ _ ?_ | omega | (unfold maxLen; omega) | (simp [F4]; done) | (simp [F4]; omega))
    refine AW.wk [(4, AV.bool false)] [] 0 (by simp [F4]) (by simp [F4]) (by simp) ?_
    simp only [Option.some.injEq] at hF
    subst hF
    refine AW.ret (hQ _ _ _ ?_ (matchO_0 ?_)).1
    ·simp [Try.f32, F4]
    ·simp [F4]
   ·replace hF := ite_f h9 hF
    have h9q : v4 = v5 := Classical.not_not.1 h9
    have h9_ := eqb_t h9q
    have h9__ := neb_f h9q
    have F5 := And.intro F3 (And.intro h9_ h9__)
    refine AW.condF (by decide) (by first | (simp [F5]; done) | (simp [F5]; omega)) ?_
    refine AW.skip ?_
    refine hK164 _ _ _ ?_
    refine AW.region mixed [] [none, none, none] (by kernel_rfl) fun G167 R167 hG167 hR167 => ?_
    try simp [F5]
    repeat' apply And.intro
    any_goals (first | exact hG167 _ (by kernel_rfl) | refine hR167 _ _ _ ?_ | omega | (unfold maxLen; omega) | (simp [F5]; done) | (simp [F5]; omega))
    refine hK158 _ _ _ ?_
    refine Can.weak [(0, AV.lst false false (List.map (AV.int .i64) v0)), (1, AV.lst false false (List.map (AV.int .i64) v1)), (5, AV.int .i64 (IntKind.wrap .i64 (v3 + 1)))] [] 0 (by simp [F5]) (by simp [F5]) (by simp) ?_
    exact Can.next (k' := n1) (IntKind.wrap .i64 (v3 + 1)) (by omega) hF (by simp [F5]) (by simp [F5]) (by simp)
  ·replace hF := ite_f h2 hF
   have h2_ := h2
   try simp at h2_
   have F6 := And.intro h1_ (And.intro h1__ (And.intro h2 h2_))
   refine AW.condF (by decide) (by first | (simp [F6]; done) | (simp [F6]; omega)) ?_
   refine AW.exit ?_
   try simp
   refine hK129 _ _ _ ?_
   refine AW.seqR mixed [] [none] (by kernel_rfl) fun G168 R168 hG168 hR168 => ?_
   try simp [F6]
   repeat' apply And.intro
   any_goals (first | exact hG168 _ (by kernel_rfl) | refine hR168 _ _ _ ?_ | omega | (unfold maxLen; omega) | (simp [F6]; done) | (simp [F6]; omega))
   refine AW.wk [(4, AV.bool true)] [] 0 (by simp [F6]) (by simp [F6]) (by simp) ?_
   simp only [Option.some.injEq] at hF
   subst hF
   refine AW.ret (hQ _ _ _ ?_ (matchO_0 ?_)).1
   ·simp [Try.f32, F6]
   ·simp [F6]
set_option maxHeartbeats 4000000 in
theorem w_committee_Quorum (k : Nat) (v0 : Int) (v1 : Int) (hF : committee_Quorum k v0 = some v1) :
  FCall Try.prog 55 [AV.int .i64 v0] [] (AV.int .i64 v1) [] := by
 unfold committee_Quorum at hF
 refine FCall.enter Try.func55 rfl (by simp) (by decide) (by simp) (by simp) (by simp) (by simp) (by simp) ?_
 intro c0 w0 Q h0 hQ
 refine AW.wk [(0, AV.int .i64 v0)] [] 0 (by simp) (by simp) (by simp) ?_
 refine AW.seqR mixed [] [none] (by kernel_rfl) fun G10 R10 hG10 hR10 => ?_
 try simp
 repeat' apply And.intro
 any_goals (first | exact hG10 _ (by kernel_rfl) | refine hR10 _ _ _ ?_ | omega | (unfold maxLen; omega) | (simp; done) | (simp; omega))
 refine AW.wk [(0, AV.int .i64 v0)] [] 0 (by simp) (by simp) (by simp) ?_
 refine AW.seq fun K14 hK14 => ?_
 refine AW.seqR mixed [] [none, none, none, some (5, false), some (5, false), none] (by kernel_rfl) fun G15 R15 hG15 hR15 => ?_
 by_cases h1 : v0 < 1
 ·replace hF := ite_t h1 hF
  have h1_ := h1
  try simp at h1_
  try simp [h1, h1_]
  repeat' apply And.intro
  any_goals (first | exact hG15 _ (by kernel_rfl) | refine hR15 _ _ _ ?_ | omega | (unfold maxLen; omega) | (simp [h1, h1_]; done) | (simp [h1, h1_]; omega))
  refine AW.wk [(0, AV.int .i64 v0), (8, AV.bool true)] [] 0 (by simp [h1, h1_]) (by simp [h1, h1_]) (by simp) ?_
  refine AW.condT (by decide) (by simp [h1, h1_]) ?_
  refine AW.seqR mixed [] [none] (by kernel_rfl) fun G16 R16 hG16 hR16 => ?_
  try simp [h1, h1_]
  repeat' apply And.intro
  any_goals (first | exact hG16 _ (by kernel_rfl) | refine hR16 _ _ _ ?_ | omega | (unfold maxLen; omega) | (simp [h1, h1_]; done) | (simp [h1, h1_]; omega))
  refine AW.wk [(2, AV.int .i64 0)] [] 0 (by simp [h1, h1_]) (by simp [h1, h1_]) (by simp) ?_
  simp only [Option.some.injEq] at hF
  subst hF
  refine AW.ret (hQ _ _ _ ?_ (matchO_0 ?_)).1
  ·simp [Try.f55, h1, h1_]
  ·simp [h1, h1_]
 ·replace hF := ite_f h1 hF
  have h1_ := h1
  try simp at h1_
  try simp [h1, h1_]
  repeat' apply And.intro
  any_goals (first | exact hG15 _ (by kernel_rfl) | refine hR15 _ _ _ ?_ | omega | (unfold maxLen; omega) | (simp [h1, h1_]; done) | (simp [h1, h1_]; omega))
  refine AW.wk [(0, AV.int .i64 v0), (8, AV.bool (decide (9 < v0)))] [] 0 (by simp [h1, h1_]) (by simp [h1, h1_]) (by simp) ?_
  by_cases h2 : 9 < v0
  ·replace hF := ite_t h2 hF
   have h2_ := h2
   try simp at h2_
   have F1 := And.intro h1 (And.intro h1_ (And.intro h2 h2_))
   refine AW.condT (by decide) (by first | (simp [F1]; done) | (simp [F1]; omega)) ?_
   refine AW.seqR mixed [] [none] (by kernel_rfl) fun G17 R17 hG17 hR17 => ?_
   try simp [F1]
   repeat' apply And.intro
   any_goals (first | exact hG17 _ (by kernel_rfl) | refine hR17 _ _ _ ?_ | omega | (unfold maxLen; omega) | (simp [F1]; done) | (simp [F1]; omega))
   refine AW.wk [(2, AV.int .i64 0)] [] 0 (by simp [F1]) (by simp [F1]) (by simp) ?_
   simp only [Option.some.injEq] at hF
   subst hF
   refine AW.ret (hQ _ _ _ ?_ (matchO_0 ?_)).1
   ·simp [Try.f55, F1]
   ·simp [F1]
  ·replace hF := ite_f h2 hF
   have h2_ := h2
   try simp at h2_
   have F2 := And.intro h1 (And.intro h1_ (And.intro h2 h2_))
   refine AW.condF (by decide) (by first | (simp [F2]; done) | (simp [F2]; omega)) ?_
   refine AW.skip ?_
   refine hK14 _ _ _ ?_
   refine AW.seqR mixed [] [none, none, none, none, none] (by kernel_rfl) fun G18 R18 hG18 hR18 => ?_
   try simp [F2]
   repeat' apply And.intro
   any_goals (first | exact hG18 _ (by kernel_rfl) | refine hR18 _ _ _ ?_ | omega | (unfold maxLen; omega) | (simp [F2]; done) | (simp [F2]; omega))
   refine AW.wk [(2, AV.int .i64 (IntKind.wrap .i64 (IntKind.wrap .i64 (Int.tdiv (IntKind.wrap .i64 (3 * v0)) 4) + 1)))] [] 0 (by simp [F2]) (by simp [F2]) (by simp) ?_
   simp only [Option.some.injEq] at hF
   subst hF
   refine AW.ret (hQ _ _ _ ?_ (matchO_0 ?_)).1
   ·simp [Try.f55, F2]
   ·simp [F2]
set_option maxHeartbeats 4000000 in
theorem w_law26_awake (k : Nat) (v0 : Bool) (hF : law26_awake k = some v0) :
  FCall Try.prog 48 [] [] (AV.bool v0) [] := by
 unfold law26_awake at hF
 refine FCall.enter Try.func48 rfl (by simp) (by decide) (by simp) (by simp) (by simp) (by simp) (by simp) ?_
 intro c0 w0 Q h0 hQ
 refine AW.wk [] [] 0 (by simp) (by simp) (by simp) ?_
 refine AW.seqR mixed [] [none] (by kernel_rfl) fun G4 R4 hG4 hR4 => ?_
 try simp
 repeat' apply And.intro
 any_goals (first | exact hG4 _ (by kernel_rfl) | refine hR4 _ _ _ ?_ | omega | (unfold maxLen; omega) | (simp; done) | (simp; omega))
 refine AW.wk [] [] 0 (by simp) (by simp) (by simp) ?_
 refine AW.seqR mixed [] [none, none, none, none, none, none, none, none] (by kernel_rfl) fun G5 R5 hG5 hR5 => ?_
 try simp
 repeat' apply And.intro
 try any_goals (first | omega | (unfold maxLen; omega) | (simp; done))
 obtain ⟨v1, v2, h1, hF⟩ := bnd2_elim hF
 refine aCall_l (w_committee_Draw k _ _ _ _ _ h1) (by simp) [] [] [] rfl (.cons (Coe.fl (by simp)) (.cons (Coe.fl (by simp)) (.cons (.same (by simp)) .nil))) (by simp) (by decide) (by simp) (by simp) (.inl rfl) (by simp) (by simp) ?_
 try simp
 repeat' apply And.intro
 any_goals (first | exact hG5 _ (by kernel_rfl) | refine hR5 _ _ _ ?_ | omega | (unfold maxLen; omega) | (simp; done) | (simp; omega))
 refine AW.wk [(1, AV.slc 0 0 1 v1.length false), (2, AV.int .i64 v2)] [(0, .grow (List.map (AV.int .i64) v1))] 1 (by simp) (by simp) (by simp) ?_
 refine AW.frz 0 (o := .grow (List.map (AV.int .i64) v1)) (by simp) rfl [(1, AV.lst false false (List.map (AV.int .i64) v1))] [] ⟨(.l (by simp) (by simp) (by simp) (by simp)), trivial⟩ trivial ?_
 refine AW.wk [(1, AV.lst false false (List.map (AV.int .i64) v1)), (2, AV.int .i64 v2)] [] 1 (by simp) (by simp) (by simp) ?_
 refine AW.seqR mixed [] [none, none, none, some (11, true), some (11, true), some (11, true), none, none, some (16, true), some (16, true), none, none, some (20, true), some (20, true), none, none, some (24, true), some (24, true), none, none] (by kernel_rfl) fun G6 R6 hG6 hR6 => ?_
 by_cases h2 : v2 = 0
 ·replace hF := ite_t h2 hF
  have h2q : v2 = 0 := h2
  have h2_ := eqb_t h2q
  have h2__ := neb_f h2q
  have F1 := And.intro h2_ (And.intro h2__ h2q)
  try simp [F1]
  repeat' apply And.intro
  try any_goals (first | omega | (unfold maxLen; omega) | (simp [F1]; done))
  obtain ⟨v3, h3, hF⟩ := bnd1_elim hF
  refine aCall_l (w_ref23_SameInts k _ _ _ h3) (by simp) [] [] [] rfl (.cons (.same (by simp [F1])) (.cons (Coe.fl (by simp [F1])) .nil)) (by simp [F1]) (by decide) (by simp) (by simp) (.inl rfl) (by simp) (by simp) ?_
  by_cases h4 : v3 = true
  ·replace hF := ite_t h4 hF
   have h4_ := h4
   try simp at h4_
   have F2 := And.intro F1 (And.intro h4 h4_)
   try simp [F2]
   repeat' apply And.intro
   try any_goals (first | omega | (unfold maxLen; omega) | (simp [F2]; done))
   obtain ⟨v4, h5, hF⟩ := bnd1_elim hF
   refine aCall_l (w_committee_Quorum k _ _ h5) (by simp) [] [] [] rfl (.cons (.same (by simp [F2])) .nil) (by simp [F2]) (by decide) (by simp) (by simp) (.inl rfl) (by simp) (by simp) ?_
   by_cases h6 : v4 = 4
   ·replace hF := ite_t h6 hF
    have h6q : v4 = 4 := h6
    have h6_ := eqb_t h6q
    have h6__ := neb_f h6q
    have F3 := And.intro F2 (And.intro h6_ (And.intro h6__ h6q))
    try simp [F3]
    repeat' apply And.intro
    try any_goals (first | omega | (unfold maxLen; omega) | (simp [F3]; done))
    obtain ⟨v5, h7, hF⟩ := bnd1_elim hF
    refine aCall_l (w_committee_Quorum k _ _ h7) (by simp) [] [] [] rfl (.cons (.same (by simp [F3])) .nil) (by simp [F3]) (by decide) (by simp) (by simp) (.inl rfl) (by simp) (by simp) ?_
    by_cases h8 : v5 = 4
    ·replace hF := ite_t h8 hF
     have h8q : v5 = 4 := h8
     have h8_ := eqb_t h8q
     have h8__ := neb_f h8q
     have F4 := And.intro F3 (And.intro h8_ (And.intro h8__ h8q))
     try simp [F4]
     repeat' apply And.intro
     try any_goals (first | omega | (unfold maxLen; omega) | (simp [F4]; done))
     obtain ⟨v6, h9, hF⟩ := bnd1_elim hF
     refine aCall_l (w_committee_Quorum k _ _ h9) (by simp) [] [] [] rfl (.cons (.same (by simp [F4])) .nil) (by simp [F4]) (by decide) (by simp) (by simp) (.inl rfl) (by simp) (by simp) ?_
     try simp [F4]
     repeat' apply And.intro
     any_goals (first | exact hG6 _ (by kernel_rfl) | refine hR6 _ _ _ ?_ | omega | (unfold maxLen; omega) | (simp [F4]; done) | (simp [F4]; omega))
     refine AW.wk [(0, AV.bool (v6 == 6))] [] 1 (by simp [F4]) (by simp [F4]) (by simp) ?_
     simp only [Option.some.injEq] at hF
     subst hF
     refine AW.ret (hQ _ _ _ ?_ (matchO_0 ?_)).1
     ·simp [Try.f48, F4]
     ·simp [F4]
    ·replace hF := ite_f h8 hF
     have h8_ := eqb_f h8
     have h8__ := neb_t h8
     have F5 := And.intro F3 (And.intro h8 (And.intro h8_ h8__))
     try simp [F5]
     repeat' apply And.intro
     any_goals (first | exact hG6 _ (by kernel_rfl) | refine hR6 _ _ _ ?_ | omega | (unfold maxLen; omega) | (simp [F5]; done) | (simp [F5]; omega))
     refine AW.wk [(0, AV.bool false)] [] 1 (by simp [F5]) (by simp [F5]) (by simp) ?_
     simp only [Option.some.injEq] at hF
     subst hF
     refine AW.ret (hQ _ _ _ ?_ (matchO_0 ?_)).1
     ·simp [Try.f48, F5]
     ·simp [F5]
   ·replace hF := ite_f h6 hF
    have h6_ := eqb_f h6
    have h6__ := neb_t h6
    have F6 := And.intro F2 (And.intro h6 (And.intro h6_ h6__))
    try simp [F6]
    repeat' apply And.intro
    any_goals (first | exact hG6 _ (by kernel_rfl) | refine hR6 _ _ _ ?_ | omega | (unfold maxLen; omega) | (simp [F6]; done) | (simp [F6]; omega))
    refine AW.wk [(0, AV.bool false)] [] 1 (by simp [F6]) (by simp [F6]) (by simp) ?_
    simp only [Option.some.injEq] at hF
    subst hF
    refine AW.ret (hQ _ _ _ ?_ (matchO_0 ?_)).1
    ·simp [Try.f48, F6]
    ·simp [F6]
  ·replace hF := ite_f h4 hF
   have h4_ := h4
   try simp at h4_
   have F7 := And.intro F1 (And.intro h4 h4_)
   try simp [F7]
   repeat' apply And.intro
   any_goals (first | exact hG6 _ (by kernel_rfl) | refine hR6 _ _ _ ?_ | omega | (unfold maxLen; omega) | (simp [F7]; done) | (simp [F7]; omega))
   refine AW.wk [(0, AV.bool false)] [] 1 (by simp [F7]) (by simp [F7]) (by simp) ?_
   simp only [Option.some.injEq] at hF
   subst hF
   refine AW.ret (hQ _ _ _ ?_ (matchO_0 ?_)).1
   ·simp [Try.f48, F7]
   ·simp [F7]
 ·replace hF := ite_f h2 hF
  have h2_ := eqb_f h2
  have h2__ := neb_t h2
  have F8 := And.intro h2 (And.intro h2_ h2__)
  try simp [F8]
  repeat' apply And.intro
  any_goals (first | exact hG6 _ (by kernel_rfl) | refine hR6 _ _ _ ?_ | omega | (unfold maxLen; omega) | (simp [F8]; done) | (simp [F8]; omega))
  refine AW.wk [(0, AV.bool false)] [] 1 (by simp [F8]) (by simp [F8]) (by simp) ?_
  simp only [Option.some.injEq] at hF
  subst hF
  refine AW.ret (hQ _ _ _ ?_ (matchO_0 ?_)).1
  ·simp [Try.f48, F8]
  ·simp [F8]
set_option maxHeartbeats 4000000 in
theorem w_made_Roll (k : Nat) (v0 : (List Int)) (v1 : (List Int)) (v2 : Int) (hF : made_Roll k v0 = some (v1, v2)) :
  FCall Try.prog 64 [AV.lst false false (List.map (AV.int .i64) v0)] [] (AV.ptr 0 0) [some (.cells [AV.lst false false (List.map (AV.int .i64) v1), AV.int .i64 v2])] := by
 unfold made_Roll at hF
 refine FCall.enter Try.func64 rfl (by simp) (by decide) (by simp) (by simp) (by simp) (by simp) (by simp) ?_
 intro c0 w0 Q h0 hQ
 refine AW.wk [(0, AV.lst false false (List.map (AV.int .i64) v0))] [] 0 (by simp) (by simp) (by simp) ?_
 refine AW.seqR mixed [] [none] (by kernel_rfl) fun G3 R3 hG3 hR3 => ?_
 try simp
 repeat' apply And.intro
 any_goals (first | exact hG3 _ (by kernel_rfl) | refine hR3 _ _ _ ?_ | omega | (unfold maxLen; omega) | (simp; done) | (simp; omega))
 refine AW.wk [(0, AV.lst false false (List.map (AV.int .i64) v0))] [] 0 (by simp) (by simp) (by simp) ?_
 refine AW.seqR mixed [] [none, none, none, none] (by kernel_rfl) fun G4 R4 hG4 hR4 => ?_
 try simp
 repeat' apply And.intro
 any_goals (first | exact hG4 _ (by kernel_rfl) | refine hR4 _ _ _ ?_ | omega | (unfold maxLen; omega) | (simp; done) | (simp; omega))
 refine AW.wk [(2, AV.ptr 0 0)] [(0, .cells [AV.lst false false (List.map (AV.int .i64) v0), AV.int .i64 0])] 1 (by simp) (by simp) (by simp) ?_
 simp only [Option.some.injEq, Prod.mk.injEq] at hF
 obtain ⟨e0, e1⟩ := hF
 subst e0 e1
 refine AW.ret (hQ _ _ _ ?_ (matchO_0 ?_)).1
 ·simp [Try.f64]
 ·simp
set_option maxHeartbeats 4000000 in
theorem w_mill_Roll (k : Nat) (v0 : (List Int)) (v1 : (List Int)) (v2 : Int) (hF : mill_Roll k v0 = some (v1, v2)) :
  FCall Try.prog 18 [AV.lst false false (List.map (AV.int .i64) v0)] [] (AV.ptr 0 0) [some (.cells [AV.lst false false (List.map (AV.int .i64) v1), AV.int .i64 v2])] := by
 unfold mill_Roll at hF
 refine FCall.enter Try.func18 rfl (by simp) (by decide) (by simp) (by simp) (by simp) (by simp) (by simp) ?_
 intro c0 w0 Q h0 hQ
 refine AW.wk [(0, AV.lst false false (List.map (AV.int .i64) v0))] [] 0 (by simp) (by simp) (by simp) ?_
 refine AW.seqR mixed [] [none] (by kernel_rfl) fun G3 R3 hG3 hR3 => ?_
 try simp
 repeat' apply And.intro
 any_goals (first | exact hG3 _ (by kernel_rfl) | refine hR3 _ _ _ ?_ | omega | (unfold maxLen; omega) | (simp; done) | (simp; omega))
 refine AW.wk [(0, AV.lst false false (List.map (AV.int .i64) v0))] [] 0 (by simp) (by simp) (by simp) ?_
 refine AW.seqR mixed [] [none, none, none] (by kernel_rfl) fun G4 R4 hG4 hR4 => ?_
 try simp
 repeat' apply And.intro
 try any_goals (first | omega | (unfold maxLen; omega) | (simp; done))
 obtain ⟨v3, v4, h1, hF⟩ := bnd2_elim hF
 refine aCall_l (w_made_Roll k _ _ _ h1) (by simp) [] [] [] rfl (.cons (.same (by simp)) .nil) (by simp) (by decide) (by simp) (by simp) (.inl rfl) (by simp) (by simp) ?_
 try simp
 repeat' apply And.intro
 any_goals (first | exact hG4 _ (by kernel_rfl) | refine hR4 _ _ _ ?_ | omega | (unfold maxLen; omega) | (simp; done) | (simp; omega))
 refine AW.wk [(2, AV.ptr 0 0)] [(0, .cells [AV.lst false false (List.map (AV.int .i64) v3), AV.int .i64 v4])] 1 (by simp) (by simp) (by simp) ?_
 simp only [Option.some.injEq, Prod.mk.injEq] at hF
 obtain ⟨e0, e1⟩ := hF
 subst e0 e1
 refine AW.ret (hQ _ _ _ ?_ (matchO_0 ?_)).1
 ·simp [Try.f18]
 ·simp
set_option maxHeartbeats 4000000 in
theorem w_made_Mod (k : Nat) (v0 : Int) (v1 : Int) (v2 : Int) (hF : made_Mod k v0 v1 = some v2) :
  FCall Try.prog 12 [AV.int .i64 v0, AV.int .i64 v1] [] (AV.int .i64 v2) [] := by
 unfold made_Mod at hF
 refine FCall.enter Try.func12 rfl (by simp) (by decide) (by simp) (by simp) (by simp) (by simp) (by simp) ?_
 intro c0 w0 Q h0 hQ
 refine AW.wk [(0, AV.int .i64 v0), (1, AV.int .i64 v1)] [] 0 (by simp) (by simp) (by simp) ?_
 refine AW.seqR mixed [] [none] (by kernel_rfl) fun G14 R14 hG14 hR14 => ?_
 try simp
 repeat' apply And.intro
 any_goals (first | exact hG14 _ (by kernel_rfl) | refine hR14 _ _ _ ?_ | omega | (unfold maxLen; omega) | (simp; done) | (simp; omega))
 refine AW.wk [(0, AV.int .i64 v0), (1, AV.int .i64 v1)] [] 0 (by simp) (by simp) (by simp) ?_
 refine AW.seq fun K17 hK17 => ?_
 refine AW.seqR mixed [] [none, none] (by kernel_rfl) fun G18 R18 hG18 hR18 => ?_
 try simp
 repeat' apply And.intro
 any_goals (first | exact hG18 _ (by kernel_rfl) | refine hR18 _ _ _ ?_ | omega | (unfold maxLen; omega) | (simp; done) | (simp; omega))
 refine AW.wk [(0, AV.int .i64 v0), (1, AV.int .i64 v1), (6, AV.bool (decide (v1 < 1)))] [] 0 (by simp) (by simp) (by simp) ?_
 by_cases h1 : v1 < 1
 ·replace hF := ite_t h1 hF
  have h1_ := h1
  try simp at h1_
  refine AW.condT (by decide) (by first | (simp [h1, h1_]; done) | (simp [h1, h1_]; omega)) ?_
  refine AW.seqR mixed [] [none] (by kernel_rfl) fun G19 R19 hG19 hR19 => ?_
  try simp [h1, h1_]
  repeat' apply And.intro
  any_goals (first | exact hG19 _ (by kernel_rfl) | refine hR19 _ _ _ ?_ | omega | (unfold maxLen; omega) | (simp [h1, h1_]; done) | (simp [h1, h1_]; omega))
  refine AW.wk [(4, AV.int .i64 0)] [] 0 (by simp [h1, h1_]) (by simp [h1, h1_]) (by simp) ?_
  simp only [Option.some.injEq] at hF
  subst hF
  refine AW.ret (hQ _ _ _ ?_ (matchO_0 ?_)).1
  ·simp [Try.f12, h1, h1_]
  ·simp [h1, h1_]
 ·replace hF := ite_f h1 hF
  have h1_ := h1
  try simp at h1_
  refine AW.condF (by decide) (by first | (simp [h1, h1_]; done) | (simp [h1, h1_]; omega)) ?_
  refine AW.skip ?_
  refine hK17 _ _ _ ?_
  refine AW.seqR mixed [] [none, none, none, none] (by kernel_rfl) fun G20 R20 hG20 hR20 => ?_
  obtain ⟨h2, hF⟩ := chk_elim hF
  have h2_ := h2
  try simp at h2_
  have F1 := And.intro h1 (And.intro h1_ (And.intro h2 h2_))
  try simp [F1]
  repeat' apply And.intro
  any_goals (first | exact hG20 _ (by kernel_rfl) | refine hR20 _ _ _ ?_ | omega | (unfold maxLen; omega) | (simp [F1]; done) | (simp [F1]; omega))
  refine AW.wk [(0, AV.int .i64 (Int.tmod v0 v1)), (1, AV.int .i64 v1)] [] 0 (by simp [F1]) (by simp [F1]) (by simp) ?_
  refine AW.midF (α := Int) (fun v3 => made_Mod.J1 k v3 = some v2) (fun v3 => [(0, AV.int .i64 v3)]) (fun v3 => []) 0 (fun K24 hK24 => ?_) ?_
  ·refine AW.seqR mixed [] [none, none] (by kernel_rfl) fun G25 R25 hG25 hR25 => ?_
   try simp [F1]
   repeat' apply And.intro
   any_goals (first | exact hG25 _ (by kernel_rfl) | refine hR25 _ _ _ ?_ | omega | (unfold maxLen; omega) | (simp [F1]; done) | (simp [F1]; omega))
   refine AW.wk [(0, AV.int .i64 (Int.tmod v0 v1)), (1, AV.int .i64 v1), (11, AV.bool (decide (Int.tmod v0 v1 < 0)))] [] 0 (by simp [F1]) (by simp [F1]) (by simp) ?_
   by_cases h3 : Int.tmod v0 v1 < 0
   ·replace hF := ite_t h3 hF
    have h3_ := h3
    try simp at h3_
    have F2 := And.intro F1 (And.intro h3 h3_)
    refine AW.condT (by decide) (by first | (simp [F2]; done) | (simp [F2]; omega)) ?_
    refine AW.region mixed [] [none, none, none, none] (by kernel_rfl) fun G26 R26 hG26 hR26 => ?_
    try simp [F2]
    repeat' apply And.intro
    any_goals (first | exact hG26 _ (by kernel_rfl) | refine hR26 _ _ _ ?_ | omega | (unfold maxLen; omega) | (simp [F2]; done) | (simp [F2]; omega))
    refine hK24 _ _ _ ?_
    refine Can.weak [(0, AV.int .i64 (IntKind.wrap .i64 (Int.tmod v0 v1 + v1)))] [] 0 (by simp [F2]) (by simp [F2]) (by simp) ?_
    exact Can.join (IntKind.wrap .i64 (Int.tmod v0 v1 + v1)) hF (by simp [F2]) (by simp [F2]) (by simp)
   ·replace hF := ite_f h3 hF
    have h3_ := h3
    try simp at h3_
    have F3 := And.intro F1 (And.intro h3 h3_)
    refine AW.condF (by decide) (by first | (simp [F3]; done) | (simp [F3]; omega)) ?_
    refine AW.skip ?_
    refine hK24 _ _ _ ?_
    exact Can.join (Int.tmod v0 v1) hF (by simp [F3]) (by simp [F3]) (by simp)
  ·rintro v3 hF
   try dsimp only at hF
   unfold made_Mod.J1 at hF
   refine AW.seqR mixed [] [none, none] (by kernel_rfl) fun G23 R23 hG23 hR23 => ?_
   try simp [F1]
   repeat' apply And.intro
   any_goals (first | exact hG23 _ (by kernel_rfl) | refine hR23 _ _ _ ?_ | omega | (unfold maxLen; omega) | (simp [F1]; done) | (simp [F1]; omega))
   refine AW.wk [(4, AV.int .i64 v3)] [] 0 (by simp [F1]) (by simp [F1]) (by simp) ?_
   simp only [Option.some.injEq] at hF
   subst hF
   refine AW.ret (hQ _ _ _ ?_ (matchO_0 ?_)).1
   ·simp [Try.f12, F1]
   ·simp [F1]
set_option maxHeartbeats 4000000 in
theorem w_made_Dice_Next (k : Nat) (v0 : (List Int)) (v1 : Int) (v2 : Int) (v3 : Int) (v4 : Int) (hF : made_Dice_Next k v0 v1 v2 = some (v3, v4)) :
  FCall Try.prog 22 [AV.ptr 0 0, AV.int .i64 v2] [.cells [AV.lst false false (List.map (AV.int .i64) v0), AV.int .i64 v1]] (AV.int .i64 v3) [some (.cells [AV.lst false false (List.map (AV.int .i64) v0), AV.int .i64 v4])] := by
 unfold made_Dice_Next at hF
 refine FCall.enter Try.func22 rfl (by simp) (by decide) (by simp) (by simp) (by simp) (by simp) (by simp) ?_
 intro c0 w0 Q h0 hQ
 refine AW.wk [(0, AV.ptr 0 0), (1, AV.int .i64 v2)] [(0, .cells [AV.lst false false (List.map (AV.int .i64) v0), AV.int .i64 v1])] 1 (by simp) (by simp) (by simp) ?_
 refine AW.seqR mixed [] [none] (by kernel_rfl) fun G9 R9 hG9 hR9 => ?_
 try simp
 repeat' apply And.intro
 any_goals (first | exact hG9 _ (by kernel_rfl) | refine hR9 _ _ _ ?_ | omega | (unfold maxLen; omega) | (simp; done) | (simp; omega))
 refine AW.wk [(0, AV.ptr 0 0), (1, AV.int .i64 v2)] [(0, .cells [AV.lst false false (List.map (AV.int .i64) v0), AV.int .i64 v1])] 1 (by simp) (by simp) (by simp) ?_
 refine AW.seq fun K12 hK12 => ?_
 refine AW.seqR mixed [] [none, none, none, none, none, none, none, none, none, none] (by kernel_rfl) fun G13 R13 hG13 hR13 => ?_
 try simp
 repeat' apply And.intro
 any_goals (first | exact hG13 _ (by kernel_rfl) | refine hR13 _ _ _ ?_ | omega | (unfold maxLen; omega) | (simp; done) | (simp; omega))
 refine AW.wk [(0, AV.ptr 0 0), (1, AV.int .i64 v2), (14, AV.bool (decide ((v0.length : Int) ≤ v1)))] [(0, .cells [AV.lst false false (List.map (AV.int .i64) v0), AV.int .i64 v1])] 1 (by simp) (by simp) (by simp) ?_
 by_cases h1 : (v0.length : Int) ≤ v1
 ·replace hF := ite_t h1 hF
  have h1_ := h1
  try simp at h1_
  refine AW.condT (by decide) (by first | (simp [h1, h1_]; done) | (simp [h1, h1_]; omega)) ?_
  refine AW.seqR mixed [] [none] (by kernel_rfl) fun G14 R14 hG14 hR14 => ?_
  try simp [h1, h1_]
  repeat' apply And.intro
  any_goals (first | exact hG14 _ (by kernel_rfl) | refine hR14 _ _ _ ?_ | omega | (unfold maxLen; omega) | (simp [h1, h1_]; done) | (simp [h1, h1_]; omega))
  refine AW.wk [(4, AV.int .i64 0)] [(0, .cells [AV.lst false false (List.map (AV.int .i64) v0), AV.int .i64 v1])] 1 (by simp [h1, h1_]) (by simp [h1, h1_]) (by simp) ?_
  simp only [Option.some.injEq, Prod.mk.injEq] at hF
  obtain ⟨e0, e1⟩ := hF
  subst e0 e1
  refine AW.ret (hQ _ _ _ ?_ (matchO_0 ?_)).1
  ·simp [Try.f22, h1, h1_]
  ·simp [h1, h1_]
 ·replace hF := ite_f h1 hF
  have h1_ := h1
  try simp at h1_
  refine AW.condF (by decide) (by first | (simp [h1, h1_]; done) | (simp [h1, h1_]; omega)) ?_
  refine AW.skip ?_
  refine hK12 _ _ _ ?_
  refine AW.seqR mixed [] [none, none, none, none, none, none, none, none] (by kernel_rfl) fun G15 R15 hG15 hR15 => ?_
  try simp [h1, h1_]
  repeat' apply And.intro
  any_goals (first | exact hG15 _ (by kernel_rfl) | refine hR15 _ _ _ ?_ | omega | (unfold maxLen; omega) | (simp [h1, h1_]; done) | (simp [h1, h1_]; omega))
  refine AW.wk [(0, AV.ptr 0 0), (1, AV.int .i64 v2)] [(0, .cells [AV.lst false false (List.map (AV.int .i64) v0), AV.int .i64 (IntKind.wrap .i64 (v1 + 1))])] 1 (by simp [h1, h1_]) (by simp [h1, h1_]) (by simp) ?_
  refine AW.seqR mixed [] [none, none, none, none, none, none, none, none, none, none, none, none, none, none] (by kernel_rfl) fun G16 R16 hG16 hR16 => ?_
  obtain ⟨v5, h2, h3, h4, hF⟩ := idx_elim hF
  have h4_ := get_of h4
  try simp at h4_
  have h3_ := h3
  try simp at h3_
  have F1 := And.intro h1 (And.intro h1_ (And.intro h2 (And.intro h3 (And.intro h4 (And.intro h4_ h3_)))))
  try simp [F1]
  repeat' apply And.intro
  try any_goals (first | omega | (unfold maxLen; omega) | (simp [F1]; done))
  obtain ⟨v6, h5, hF⟩ := bnd1_elim hF
  refine aCall_l (w_made_Mod k _ _ _ h5) (by simp) [] [] [] rfl (.cons (.same (by simp [F1])) (.cons (.same (by simp [F1])) .nil)) (by simp [F1]) (by decide) (by simp) (by simp) (.inl rfl) (by simp) (by simp) ?_
  try simp [F1]
  repeat' apply And.intro
  any_goals (first | exact hG16 _ (by kernel_rfl) | refine hR16 _ _ _ ?_ | omega | (unfold maxLen; omega) | (simp [F1]; done) | (simp [F1]; omega))
  refine AW.wk [(4, AV.int .i64 v6)] [(0, .cells [AV.lst false false (List.map (AV.int .i64) v0), AV.int .i64 (IntKind.wrap .i64 (v1 + 1))])] 1 (by simp [F1]) (by simp [F1]) (by simp) ?_
  simp only [Option.some.injEq, Prod.mk.injEq] at hF
  obtain ⟨e0, e1⟩ := hF
  subst e0 e1
  refine AW.ret (hQ _ _ _ ?_ (matchO_0 ?_)).1
  ·simp [Try.f22, F1]
  ·simp [F1]
set_option maxHeartbeats 4000000 in
theorem w_made_Dice_Of (k : Nat) (v0 : (List Int)) (v1 : Int) (v2 : (List Int)) (v3 : Int) (v4 : Int) (hF : made_Dice_Of k v0 v1 v2 = some (v3, v4)) :
  FCall Try.prog 65 [AV.ptr 0 0, AV.lst false false (List.map (AV.int .i64) v2)] [.cells [AV.lst false false (List.map (AV.int .i64) v0), AV.int .i64 v1]] (AV.int .i64 v3) [some (.cells [AV.lst false false (List.map (AV.int .i64) v0), AV.int .i64 v4])] := by
 unfold made_Dice_Of at hF
 refine FCall.enter Try.func65 rfl (by simp) (by decide) (by simp) (by simp) (by simp) (by simp) (by simp) ?_
 intro c0 w0 Q h0 hQ
 refine AW.wk [(0, AV.ptr 0 0), (1, AV.lst false false (List.map (AV.int .i64) v2))] [(0, .cells [AV.lst false false (List.map (AV.int .i64) v0), AV.int .i64 v1])] 1 (by simp) (by simp) (by simp) ?_
 refine AW.seqR mixed [] [none] (by kernel_rfl) fun G3 R3 hG3 hR3 => ?_
 try simp
 repeat' apply And.intro
 any_goals (first | exact hG3 _ (by kernel_rfl) | refine hR3 _ _ _ ?_ | omega | (unfold maxLen; omega) | (simp; done) | (simp; omega))
 refine AW.wk [(0, AV.ptr 0 0), (1, AV.lst false false (List.map (AV.int .i64) v2))] [(0, .cells [AV.lst false false (List.map (AV.int .i64) v0), AV.int .i64 v1])] 1 (by simp) (by simp) (by simp) ?_
 refine AW.seqR mixed [] [none, none, none, none, none, none, none, none] (by kernel_rfl) fun G4 R4 hG4 hR4 => ?_
 try simp
 repeat' apply And.intro
 try any_goals (first | omega | (unfold maxLen; omega) | (simp; done))
 obtain ⟨v5, v6, h1, hF⟩ := bnd2_elim hF
 refine aCall_l (w_made_Dice_Next k _ _ _ _ _ h1) (by simp) [0] [] [0] rfl (.cons (.same (by simp)) (.cons (.same (by simp)) .nil)) (by simp) (by decide) (by simp) (by simp) (.inl rfl) (by simp) (by simp) ?_
 obtain ⟨v7, h2, h3, h4, hF⟩ := idx_elim hF
 have h4_ := get_of h4
 try simp at h4_
 have h3_ := h3
 try simp at h3_
 have F1 := And.intro h2 (And.intro h3 (And.intro h4 (And.intro h4_ h3_)))
 try simp [F1]
 repeat' apply And.intro
 any_goals (first | exact hG4 _ (by kernel_rfl) | refine hR4 _ _ _ ?_ | omega | (unfold maxLen; omega) | (simp [F1]; done) | (simp [F1]; omega))
 refine AW.wk [(4, AV.int .i64 v7)] [(0, .cells [AV.lst false false (List.map (AV.int .i64) v0), AV.int .i64 v6])] 1 (by simp [F1]) (by simp [F1]) (by simp) ?_
 simp only [Option.some.injEq, Prod.mk.injEq] at hF
 obtain ⟨e0, e1⟩ := hF
 subst e0 e1
 refine AW.ret (hQ _ _ _ ?_ (matchO_0 ?_)).1
 ·simp [Try.f65, F1]
 ·simp [F1]
set_option maxHeartbeats 4000000 in
theorem w_made_Dice_One (k : Nat) (v0 : (List Int)) (v1 : Int) (v2 : Int) (v3 : Bool) (v4 : Int) (hF : made_Dice_One k v0 v1 v2 = some (v3, v4)) :
  FCall Try.prog 66 [AV.ptr 0 0, AV.int .i64 v2] [.cells [AV.lst false false (List.map (AV.int .i64) v0), AV.int .i64 v1]] (AV.bool v3) [some (.cells [AV.lst false false (List.map (AV.int .i64) v0), AV.int .i64 v4])] := by
 unfold made_Dice_One at hF
 refine FCall.enter Try.func66 rfl (by simp) (by decide) (by simp) (by simp) (by simp) (by simp) (by simp) ?_
 intro c0 w0 Q h0 hQ
 refine AW.wk [(0, AV.ptr 0 0), (1, AV.int .i64 v2)] [(0, .cells [AV.lst false false (List.map (AV.int .i64) v0), AV.int .i64 v1])] 1 (by simp) (by simp) (by simp) ?_
 refine AW.seqR mixed [] [none] (by kernel_rfl) fun G3 R3 hG3 hR3 => ?_
 try simp
 repeat' apply And.intro
 any_goals (first | exact hG3 _ (by kernel_rfl) | refine hR3 _ _ _ ?_ | omega | (unfold maxLen; omega) | (simp; done) | (simp; omega))
 refine AW.wk [(0, AV.ptr 0 0), (1, AV.int .i64 v2)] [(0, .cells [AV.lst false false (List.map (AV.int .i64) v0), AV.int .i64 v1])] 1 (by simp) (by simp) (by simp) ?_
 refine AW.seqR mixed [] [none, none, none, none, none, none, none] (by kernel_rfl) fun G4 R4 hG4 hR4 => ?_
 try simp
 repeat' apply And.intro
 try any_goals (first | omega | (unfold maxLen; omega) | (simp; done))
 obtain ⟨v5, v6, h1, hF⟩ := bnd2_elim hF
 refine aCall_l (w_made_Dice_Next k _ _ _ _ _ h1) (by simp) [0] [] [0] rfl (.cons (.same (by simp)) (.cons (.same (by simp)) .nil)) (by simp) (by decide) (by simp) (by simp) (.inl rfl) (by simp) (by simp) ?_
 try simp
 repeat' apply And.intro
 any_goals (first | exact hG4 _ (by kernel_rfl) | refine hR4 _ _ _ ?_ | omega | (unfold maxLen; omega) | (simp; done) | (simp; omega))
 refine AW.wk [(4, AV.bool (v5 == (IntKind.wrap .i64 (v2 - 1))))] [(0, .cells [AV.lst false false (List.map (AV.int .i64) v0), AV.int .i64 v6])] 1 (by simp) (by simp) (by simp) ?_
 simp only [Option.some.injEq, Prod.mk.injEq] at hF
 obtain ⟨e0, e1⟩ := hF
 subst e0 e1
 refine AW.ret (hQ _ _ _ ?_ (matchO_0 ?_)).1
 ·simp [Try.f66]
 ·simp
set_option maxHeartbeats 4000000 in
theorem w_mill_Rules (k : Nat) (v0 : (List Int)) (v1 : Int) (v2 : (List Int)) (v3 : (List Int)) (v4 : (List Int)) (v5 : Int) (v6 : Int) (v7 : Int) (v8 : Int) (v9 : Int) (hF : mill_Rules k v0 v1 = some (v2, v3, v4, v5, v6, v7, v8, v9)) :
  FCall Try.prog 19 [AV.ptr 0 0] [.cells [AV.lst false false (List.map (AV.int .i64) v0), AV.int .i64 v1]] (AV.agg [AV.lst false false (List.map (AV.int .i64) v2), AV.lst false false (List.map (AV.int .i64) v3), AV.slc 1 0 1 v4.length false, AV.int .i64 v5, AV.int .i64 v6, AV.int .i64 v7, AV.int .i64 v8]) [some (.cells [AV.lst false false (List.map (AV.int .i64) v0), AV.int .i64 v9]), some (.cells (List.map (AV.int .i64) v4))] := by
 unfold mill_Rules at hF
 refine FCall.enter Try.func19 rfl (by simp) (by decide) (by simp) (by simp) (by simp) (by simp) (by simp) ?_
 intro c0 w0 Q h0 hQ
 refine AW.wk [(0, AV.ptr 0 0)] [(0, .cells [AV.lst false false (List.map (AV.int .i64) v0), AV.int .i64 v1])] 1 (by simp) (by simp) (by simp) ?_
 refine AW.seqR mixed [] [none] (by kernel_rfl) fun G12 R12 hG12 hR12 => ?_
 try simp
 repeat' apply And.intro
 any_goals (first | exact hG12 _ (by kernel_rfl) | refine hR12 _ _ _ ?_ | omega | (unfold maxLen; omega) | (simp; done) | (simp; omega))
 refine AW.wk [(0, AV.ptr 0 0), (2, AV.ptr 1 0)] [(0, .cells [AV.lst false false (List.map (AV.int .i64) v0), AV.int .i64 v1]), (1, .cells [AV.lst true true (List.map (AV.int .i64) ([] : List Int)), AV.lst true true (List.map (AV.int .i64) ([] : List Int)), AV.lst true true (List.map (AV.int .i64) ([] : List Int)), AV.int .i64 0, AV.int .i64 0, AV.int .i64 0, AV.int .i64 0])] 2 (by simp) (by simp) (by simp) ?_
 refine AW.seqR mixed [] [none, none, none, none, none, none, none, none, none, none, none, none] (by kernel_rfl) fun G13 R13 hG13 hR13 => ?_
 try simp
 repeat' apply And.intro
 try any_goals (first | omega | (unfold maxLen; omega) | (simp; done))
 obtain ⟨v10, v11, h1, hF⟩ := bnd2_elim hF
 refine aCall_l (w_made_Dice_Of k _ _ _ _ _ h1) (by simp) [0] [] [0] rfl (.cons (.same (by simp)) (.cons (Coe.fl (by simp)) .nil)) (by simp) (by decide) (by simp) (by simp) (.inl rfl) (by simp) (by simp) ?_
 try simp
 repeat' apply And.intro
 try any_goals (first | omega | (unfold maxLen; omega) | (simp; done))
 obtain ⟨v12, v13, h2, hF⟩ := bnd2_elim hF
 refine aCall_l (w_made_Dice_Of k _ _ _ _ _ h2) (by simp) [0] [] [0] rfl (.cons (.same (by simp)) (.cons (Coe.fl (by simp)) .nil)) (by simp) (by decide) (by simp) (by simp) (.inl rfl) (by simp) (by simp) ?_
 try simp
 repeat' apply And.intro
 try any_goals (first | omega | (unfold maxLen; omega) | (simp; done))
 obtain ⟨v14, v15, h3, hF⟩ := bnd2_elim hF
 refine aCall_l (w_made_Dice_Of k _ _ _ _ _ h3) (by simp) [0] [] [0] rfl (.cons (.same (by simp)) (.cons (Coe.fl (by simp)) .nil)) (by simp) (by decide) (by simp) (by simp) (.inl rfl) (by simp) (by simp) ?_
 try simp
 repeat' apply And.intro
 any_goals (first | exact hG13 _ (by kernel_rfl) | refine hR13 _ _ _ ?_ | omega | (unfold maxLen; omega) | (simp; done) | (simp; omega))
 refine AW.wk [(0, AV.ptr 0 0), (2, AV.ptr 1 0), (3, AV.ptr 2 0)] [(0, .cells [AV.lst false false (List.map (AV.int .i64) v0), AV.int .i64 v15]), (1, .cells [AV.lst true true (List.map (AV.int .i64) ([] : List Int)), AV.lst true true (List.map (AV.int .i64) ([] : List Int)), AV.lst true true (List.map (AV.int .i64) ([] : List Int)), AV.int .i64 0, AV.int .i64 0, AV.int .i64 0, AV.int .i64 0]), (2, .cells [AV.lst true true (List.map (AV.int .i64) ([] : List Int)), AV.lst true true (List.map (AV.int .i64) ([] : List Int)), AV.lst true true (List.map (AV.int .i64) ([] : List Int)), AV.int .i64 0, AV.int .i64 v10, AV.int .i64 v12, AV.int .i64 v14])] 3 (by simp) (by simp) (by simp) ?_
 refine AW.seqR mixed [] [none, none, none, none, none, none, none] (by kernel_rfl) fun G14 R14 hG14 hR14 => ?_
 try simp
 repeat' apply And.intro
 try any_goals (first | omega | (unfold maxLen; omega) | (simp; done))
 obtain ⟨v16, v17, h4, hF⟩ := bnd2_elim hF
 refine aCall_l (w_made_Dice_Next k _ _ _ _ _ h4) (by simp) [0] [] [0] rfl (.cons (.same (by simp)) (.cons (.same (by simp)) .nil)) (by simp) (by decide) (by simp) (by simp) (.inl rfl) (by simp) (by simp) ?_
 obtain ⟨⟨h5, h6⟩, hF⟩ := chk_elim hF
 have h5_ := h5
 try simp at h5_
 have h6_ := h6
 try simp at h6_
 have F1 := And.intro h5 (And.intro h6 (And.intro h5_ h6_))
 try simp [F1]
 repeat' apply And.intro
 any_goals (first | exact hG14 _ (by kernel_rfl) | refine hR14 _ _ _ ?_ | omega | (unfold maxLen; omega) | (simp [F1]; done) | (simp [F1]; omega))
 refine AW.wk [(0, AV.ptr 0 0), (2, AV.ptr 1 0), (3, AV.ptr 2 0)] [(0, .cells [AV.lst false false (List.map (AV.int .i64) v0), AV.int .i64 v17]), (1, .cells [AV.lst true true (List.map (AV.int .i64) ([] : List Int)), AV.lst true true (List.map (AV.int .i64) ([] : List Int)), AV.lst true true (List.map (AV.int .i64) ([] : List Int)), AV.int .i64 0, AV.int .i64 0, AV.int .i64 0, AV.int .i64 0]), (2, .cells [AV.lst false false (List.map (AV.int .i64) (([0, 1, 2, 3, 4, 5, 6] : List Int).take (IntKind.wrap .i64 (2 + v16)).toNat)), AV.lst true true (List.map (AV.int .i64) ([] : List Int)), AV.lst true true (List.map (AV.int .i64) ([] : List Int)), AV.int .i64 0, AV.int .i64 v10, AV.int .i64 v12, AV.int .i64 v14])] 3 (by simp [F1]) (by simp [F1]) (by simp) ?_
 refine AW.seqR mixed [29] [none, none, none, none, none, none, none, none, none, none, none, none, none, none, none, none] (by kernel_rfl) fun G15 R15 hG15 hR15 => ?_
 try simp [F1]
 repeat' apply And.intro
 try any_goals (first | omega | (unfold maxLen; omega) | (simp [F1]; done))
 obtain ⟨v18, v19, h7, hF⟩ := bnd2_elim hF
 refine aCall_l (w_made_Dice_Of k _ _ _ _ _ h7) (by simp) [0] [] [0] rfl (.cons (.same (by simp [F1])) (.cons (Coe.fl (by simp [F1])) .nil)) (by simp [F1]) (by decide) (by simp) (by simp) (.inl rfl) (by simp) (by simp) ?_
 try simp [F1]
 repeat' apply And.intro
 try any_goals (first | omega | (unfold maxLen; omega) | (simp [F1]; done))
 obtain ⟨v20, v21, h8, hF⟩ := bnd2_elim hF
 refine aCall_l (w_made_Dice_Of k _ _ _ _ _ h8) (by simp) [0] [] [0] rfl (.cons (.same (by simp [F1])) (.cons (Coe.fl (by simp [F1])) .nil)) (by simp [F1]) (by decide) (by simp) (by simp) (.inl rfl) (by simp) (by simp) ?_
 try simp [F1]
 repeat' apply And.intro
 try any_goals (first | omega | (unfold maxLen; omega) | (simp [F1]; done))
 obtain ⟨v22, v23, h9, hF⟩ := bnd2_elim hF
 refine aCall_l (w_made_Dice_Of k _ _ _ _ _ h9) (by simp) [0] [] [0] rfl (.cons (.same (by simp [F1])) (.cons (Coe.fl (by simp [F1])) .nil)) (by simp [F1]) (by decide) (by simp) (by simp) (.inl rfl) (by simp) (by simp) ?_
 try simp [F1]
 repeat' apply And.intro
 any_goals (first | exact hG15 _ (by kernel_rfl) | refine hR15 _ _ _ ?_ | omega | (unfold maxLen; omega) | (simp [F1]; done) | (simp [F1]; omega))
 refine AW.wk [(0, AV.ptr 0 0), (2, AV.ptr 1 0), (3, AV.ptr 2 0)] [(0, .cells [AV.lst false false (List.map (AV.int .i64) v0), AV.int .i64 v23]), (1, .cells [AV.lst true true (List.map (AV.int .i64) ([] : List Int)), AV.lst true true (List.map (AV.int .i64) ([] : List Int)), AV.lst true true (List.map (AV.int .i64) ([] : List Int)), AV.int .i64 0, AV.int .i64 0, AV.int .i64 0, AV.int .i64 0]), (2, .cells [AV.lst false false (List.map (AV.int .i64) (([0, 1, 2, 3, 4, 5, 6] : List Int).take (IntKind.wrap .i64 (2 + v16)).toNat)), AV.lst false true (List.map (AV.int .i64) ([0] : List Int)), AV.slc 3 0 1 (([IntKind.wrap .i64 (1 + v18), IntKind.wrap .i64 (1 + v20)] : List Int).length) true, AV.int .i64 v22, AV.int .i64 v10, AV.int .i64 v12, AV.int .i64 v14]), (3, .cells (List.map (AV.int .i64) ([IntKind.wrap .i64 (1 + v18), IntKind.wrap .i64 (1 + v20)] : List Int)))] 4 (by simp [F1]) (by simp [F1]) (by simp) ?_
 refine AW.midF (α := ((List Int) × Int)) (fun (v24, v25) => mill_Rules.J1 k v10 v12 v14 v16 v18 v20 v22 v24 v25 = some (v2, v3, v4, v5, v6, v7, v8, v9)) (fun (v24, v25) => [(2, AV.ptr 1 0), (3, AV.ptr 2 0)]) (fun (v24, v25) => [(0, .cells [AV.lst false false (List.map (AV.int .i64) v0), AV.int .i64 v25]), (1, .cells [AV.lst true true (List.map (AV.int .i64) ([] : List Int)), AV.lst true true (List.map (AV.int .i64) ([] : List Int)), AV.lst true true (List.map (AV.int .i64) ([] : List Int)), AV.int .i64 0, AV.int .i64 0, AV.int .i64 0, AV.int .i64 0]), (2, .cells [AV.lst false false (List.map (AV.int .i64) (([0, 1, 2, 3, 4, 5, 6] : List Int).take (IntKind.wrap .i64 (2 + v16)).toNat)), AV.lst false false (List.map (AV.int .i64) v24), AV.slc 3 0 1 (([IntKind.wrap .i64 (1 + v18), IntKind.wrap .i64 (1 + v20)] : List Int).length) true, AV.int .i64 v22, AV.int .i64 v10, AV.int .i64 v12, AV.int .i64 v14]), (3, .cells (List.map (AV.int .i64) ([IntKind.wrap .i64 (1 + v18), IntKind.wrap .i64 (1 + v20)] : List Int)))]) 4 (fun K20 hK20 => ?_) ?_
 ·refine AW.seqR mixed [] [none, none] (by kernel_rfl) fun G21 R21 hG21 hR21 => ?_
  try simp [F1]
  repeat' apply And.intro
  try any_goals (first | omega | (unfold maxLen; omega) | (simp [F1]; done))
  obtain ⟨v29, v30, h23, hF⟩ := bnd2_elim hF
  refine aCall_l (w_made_Dice_One k _ _ _ _ _ h23) (by simp) [0] [] [0] rfl (.cons (.same (by simp [F1])) (.cons (.same (by simp [F1])) .nil)) (by simp [F1]) (by decide) (by simp) (by simp) (.inl rfl) (by simp) (by simp) ?_
  try simp [F1]
  repeat' apply And.intro
  any_goals (first | exact hG21 _ (by kernel_rfl) | refine hR21 _ _ _ ?_ | omega | (unfold maxLen; omega) | (simp [F1]; done) | (simp [F1]; omega))
  refine AW.wk [(2, AV.ptr 1 0), (3, AV.ptr 2 0), (36, AV.bool v29)] [(0, .cells [AV.lst false false (List.map (AV.int .i64) v0), AV.int .i64 v30]), (1, .cells [AV.lst true true (List.map (AV.int .i64) ([] : List Int)), AV.lst true true (List.map (AV.int .i64) ([] : List Int)), AV.lst true true (List.map (AV.int .i64) ([] : List Int)), AV.int .i64 0, AV.int .i64 0, AV.int .i64 0, AV.int .i64 0]), (2, .cells [AV.lst false false (List.map (AV.int .i64) (([0, 1, 2, 3, 4, 5, 6] : List Int).take (IntKind.wrap .i64 (2 + v16)).toNat)), AV.lst false true (List.map (AV.int .i64) ([0] : List Int)), AV.slc 3 0 1 (([IntKind.wrap .i64 (1 + v18), IntKind.wrap .i64 (1 + v20)] : List Int).length) true, AV.int .i64 v22, AV.int .i64 v10, AV.int .i64 v12, AV.int .i64 v14]), (3, .cells (List.map (AV.int .i64) ([IntKind.wrap .i64 (1 + v18), IntKind.wrap .i64 (1 + v20)] : List Int)))] 4 (by simp [F1]) (by simp [F1]) (by simp) ?_
  by_cases h24 : v29 = true
  ·replace hF := ite_t h24 hF
   have h24_ := h24
   try simp at h24_
   have F2 := And.intro F1 (And.intro h24 h24_)
   refine AW.condT (by decide) (by first | (simp [F2]; done) | (simp [F2]; omega)) ?_
   refine AW.region mixed [] [none, none, none, none] (by kernel_rfl) fun G22 R22 hG22 hR22 => ?_
   try simp [F2]
   repeat' apply And.intro
   any_goals (first | exact hG22 _ (by kernel_rfl) | refine hR22 _ _ _ ?_ | omega | (unfold maxLen; omega) | (simp [F2]; done) | (simp [F2]; omega))
   refine hK20 _ _ _ ?_
   refine Can.weak [(2, AV.ptr 1 0), (3, AV.ptr 2 0)] [(0, .cells [AV.lst false false (List.map (AV.int .i64) v0), AV.int .i64 v30]), (1, .cells [AV.lst true true (List.map (AV.int .i64) ([] : List Int)), AV.lst true true (List.map (AV.int .i64) ([] : List Int)), AV.lst true true (List.map (AV.int .i64) ([] : List Int)), AV.int .i64 0, AV.int .i64 0, AV.int .i64 0, AV.int .i64 0]), (2, .cells [AV.lst false false (List.map (AV.int .i64) (([0, 1, 2, 3, 4, 5, 6] : List Int).take (IntKind.wrap .i64 (2 + v16)).toNat)), AV.lst false true (List.map (AV.int .i64) ([0, 1] : List Int)), AV.slc 3 0 1 (([IntKind.wrap .i64 (1 + v18), IntKind.wrap .i64 (1 + v20)] : List Int).length) true, AV.int .i64 v22, AV.int .i64 v10, AV.int .i64 v12, AV.int .i64 v14]), (3, .cells (List.map (AV.int .i64) ([IntKind.wrap .i64 (1 + v18), IntKind.wrap .i64 (1 + v20)] : List Int)))] 4 (by simp [F2]) (by simp [F2]) (by simp) ?_
   refine Can.flg [] [(2, .cells [AV.lst false false (List.map (AV.int .i64) (([0, 1, 2, 3, 4, 5, 6] : List Int).take (IntKind.wrap .i64 (2 + v16)).toNat)), AV.lst false false (List.map (AV.int .i64) ([0, 1] : List Int)), AV.slc 3 0 1 (([IntKind.wrap .i64 (1 + v18), IntKind.wrap .i64 (1 + v20)] : List Int).length) true, AV.int .i64 v22, AV.int .i64 v10, AV.int .i64 v12, AV.int .i64 v14])] trivial ⟨⟨AObj.cells [AV.lst false false (List.map (AV.int .i64) (([0, 1, 2, 3, 4, 5, 6] : List Int).take (IntKind.wrap .i64 (2 + v16)).toNat)), AV.lst false true (List.map (AV.int .i64) ([0, 1] : List Int)), AV.slc 3 0 1 (([IntKind.wrap .i64 (1 + v18), IntKind.wrap .i64 (1 + v20)] : List Int).length) true, AV.int .i64 v22, AV.int .i64 v10, AV.int .i64 v12, AV.int .i64 v14], by simp [F2], (.mk (.cons (.same _) (.cons (.lst (by simp)) (.cons (.same _) (.cons (.same _) (.cons (.same _) (.cons (.same _) (.cons (.same _) .nil))))))))⟩, trivial⟩ (by simp) ?_
   exact Can.join ((([0, 1] : List Int), v30)) hF (by simp [F2]) (by simp [F2]) (by simp)
  ·replace hF := ite_f h24 hF
   have h24_ := h24
   try simp at h24_
   have F3 := And.intro F1 (And.intro h24 h24_)
   refine AW.condF (by decide) (by first | (simp [F3]; done) | (simp [F3]; omega)) ?_
   refine AW.skip ?_
   refine hK20 _ _ _ ?_
   refine Can.flg [] [(2, .cells [AV.lst false false (List.map (AV.int .i64) (([0, 1, 2, 3, 4, 5, 6] : List Int).take (IntKind.wrap .i64 (2 + v16)).toNat)), AV.lst false false (List.map (AV.int .i64) ([0] : List Int)), AV.slc 3 0 1 (([IntKind.wrap .i64 (1 + v18), IntKind.wrap .i64 (1 + v20)] : List Int).length) true, AV.int .i64 v22, AV.int .i64 v10, AV.int .i64 v12, AV.int .i64 v14])] trivial ⟨⟨AObj.cells [AV.lst false false (List.map (AV.int .i64) (([0, 1, 2, 3, 4, 5, 6] : List Int).take (IntKind.wrap .i64 (2 + v16)).toNat)), AV.lst false true (List.map (AV.int .i64) ([0] : List Int)), AV.slc 3 0 1 (([IntKind.wrap .i64 (1 + v18), IntKind.wrap .i64 (1 + v20)] : List Int).length) true, AV.int .i64 v22, AV.int .i64 v10, AV.int .i64 v12, AV.int .i64 v14], by simp [F3], (.mk (.cons (.same _) (.cons (.lst (by simp)) (.cons (.same _) (.cons (.same _) (.cons (.same _) (.cons (.same _) (.cons (.same _) .nil))))))))⟩, trivial⟩ (by simp) ?_
   exact Can.join ((([0] : List Int), v30)) hF (by simp [F3]) (by simp [F3]) (by simp)
 ·rintro ⟨v24, v25⟩ hF
  try dsimp only at hF
  unfold mill_Rules.J1 at hF
  refine AW.seqR mixed [] [none, none, none, none, none, none, none, none, none, none, none, none, none, none, none, none] (by kernel_rfl) fun G18 R18 hG18 hR18 => ?_
  obtain ⟨⟨h10, h11⟩, hF⟩ := chk_elim hF
  have h11_ := ne_of_lt h11
  obtain ⟨v26, h12, h13, h14, hF⟩ := idx_elim hF
  have h14_ := get_of h14
  try simp at h14_
  have h13_ := h13
  try simp at h13_
  have h14z := head_of h14
  have h14__ := get_of (map_get ((AV.int .i64)) h14)
  try simp at h14__
  obtain ⟨⟨h15, h16⟩, hF⟩ := chk_elim hF
  have h16_ := ne_of_lt h16
  obtain ⟨v27, h17, h18, h19, hF⟩ := idx_elim hF
  have h19_ := get_of h19
  try simp at h19_
  have h18_ := h18
  try simp at h18_
  have h19__ := get_of (map_get ((AV.int .i64)) h19)
  try simp at h19__
  obtain ⟨v28, h20, hF⟩ := let1_elim hF
  have h20_ := h20
  try simp at h20_
  obtain ⟨⟨h21, h22⟩, hF⟩ := chk_elim hF
  have h22_ := ne_of_lt h22
  have F4 := And.intro F1 (And.intro h10 (And.intro h11 (And.intro h11_ (And.intro h12 (And.intro h13 (And.intro h14 (And.intro h14_ (And.intro h13_ (And.intro h14z (And.intro h14__ (And.intro h15 (And.intro h16 (And.intro h16_ (And.intro h17 (And.intro h18 (And.intro h19 (And.intro h19_ (And.intro h18_ (And.intro h19__ (And.intro h20 (And.intro h20_ (And.intro h21 (And.intro h22 h22_)))))))))))))))))))))))
  try simp [F4]
  repeat' apply And.intro
  any_goals (first | exact hG18 _ (by kernel_rfl) | refine hR18 _ _ _ ?_ | omega | (unfold maxLen; omega) | (simp [F4]; done) | (simp [F4]; omega))
  refine AW.wk [(2, AV.ptr 1 0), (3, AV.ptr 2 0)] [(0, .cells [AV.lst false false (List.map (AV.int .i64) v0), AV.int .i64 v25]), (1, .cells [AV.lst true true (List.map (AV.int .i64) ([] : List Int)), AV.lst true true (List.map (AV.int .i64) ([] : List Int)), AV.lst true true (List.map (AV.int .i64) ([] : List Int)), AV.int .i64 0, AV.int .i64 0, AV.int .i64 0, AV.int .i64 0]), (2, .cells [AV.lst false false (List.map (AV.int .i64) (([0, 1, 2, 3, 4, 5, 6] : List Int).take (IntKind.wrap .i64 (2 + v16)).toNat)), AV.lst false false (List.map (AV.int .i64) v24), AV.slc 3 0 1 ((([IntKind.wrap .i64 (1 + v18), IntKind.wrap .i64 (1 + v20)] : List Int).set (1 : Int).toNat v28).length) true, AV.int .i64 v22, AV.int .i64 v10, AV.int .i64 v12, AV.int .i64 v14]), (3, .cells (List.map (AV.int .i64) (([IntKind.wrap .i64 (1 + v18), IntKind.wrap .i64 (1 + v20)] : List Int).set (1 : Int).toNat v28)))] 4 (by simp [F4]) (by simp [F4]) (by simp) ?_
  refine AW.seqR mixed [] [none, none] (by kernel_rfl) fun G19 R19 hG19 hR19 => ?_
  try simp [F4]
  repeat' apply And.intro
  any_goals (first | exact hG19 _ (by kernel_rfl) | refine hR19 _ _ _ ?_ | omega | (unfold maxLen; omega) | (simp [F4]; done) | (simp [F4]; omega))
  refine AW.wk [(2, AV.ptr 1 0)] [(0, .cells [AV.lst false false (List.map (AV.int .i64) v0), AV.int .i64 v25]), (1, .cells [AV.lst false false (List.map (AV.int .i64) (([0, 1, 2, 3, 4, 5, 6] : List Int).take (IntKind.wrap .i64 (2 + v16)).toNat)), AV.lst false false (List.map (AV.int .i64) v24), AV.slc 3 0 1 ((([IntKind.wrap .i64 (1 + v18), IntKind.wrap .i64 (1 + v20)] : List Int).set (1 : Int).toNat v28).length) true, AV.int .i64 v22, AV.int .i64 v10, AV.int .i64 v12, AV.int .i64 v14]), (3, .cells (List.map (AV.int .i64) (([IntKind.wrap .i64 (1 + v18), IntKind.wrap .i64 (1 + v20)] : List Int).set (1 : Int).toNat v28)))] 4 (by simp [F4]) (by simp [F4]) (by simp) ?_
  refine AW.rnm (m := 1) h0 [(0, 0), (1, 3), (2, 1)] [(2, AV.ptr 2 0)] [(0, .cells [AV.lst false false (List.map (AV.int .i64) v0), AV.int .i64 v25]), (1, .cells (List.map (AV.int .i64) (([IntKind.wrap .i64 (1 + v18), IntKind.wrap .i64 (1 + v20)] : List Int).set (1 : Int).toNat v28))), (2, .cells [AV.lst false false (List.map (AV.int .i64) (([0, 1, 2, 3, 4, 5, 6] : List Int).take (IntKind.wrap .i64 (2 + v16)).toNat)), AV.lst false false (List.map (AV.int .i64) v24), AV.slc 1 0 1 ((([IntKind.wrap .i64 (1 + v18), IntKind.wrap .i64 (1 + v20)] : List Int).set (1 : Int).toNat v28).length) true, AV.int .i64 v22, AV.int .i64 v10, AV.int .i64 v12, AV.int .i64 v14])] 3 (by decide) (by decide) (by decide) rfl (by simp [F4]) (by simp [F4]) ?_
  refine AW.flg [] [(2, .cells [AV.lst false false (List.map (AV.int .i64) (([0, 1, 2, 3, 4, 5, 6] : List Int).take (IntKind.wrap .i64 (2 + v16)).toNat)), AV.lst false false (List.map (AV.int .i64) v24), AV.slc 1 0 1 ((([IntKind.wrap .i64 (1 + v18), IntKind.wrap .i64 (1 + v20)] : List Int).set (1 : Int).toNat v28).length) false, AV.int .i64 v22, AV.int .i64 v10, AV.int .i64 v12, AV.int .i64 v14])] trivial ⟨⟨AObj.cells [AV.lst false false (List.map (AV.int .i64) (([0, 1, 2, 3, 4, 5, 6] : List Int).take (IntKind.wrap .i64 (2 + v16)).toNat)), AV.lst false false (List.map (AV.int .i64) v24), AV.slc 1 0 1 ((([IntKind.wrap .i64 (1 + v18), IntKind.wrap .i64 (1 + v20)] : List Int).set (1 : Int).toNat v28).length) true, AV.int .i64 v22, AV.int .i64 v10, AV.int .i64 v12, AV.int .i64 v14], by simp [F4], (.mk (.cons (.same _) (.cons (.same _) (.cons .slc (.cons (.same _) (.cons (.same _) (.cons (.same _) (.cons (.same _) .nil))))))))⟩, trivial⟩ (by simp) ?_
  simp only [Option.some.injEq, Prod.mk.injEq] at hF
  obtain ⟨e0, e1, e2, e3, e4, e5, e6, e7⟩ := hF
  subst e0 e1 e2 e3 e4 e5 e6 e7
  refine AW.ret (hQ _ _ _ ?_ (matchO_0 ?_)).1
  ·simp [Try.f19, F4]
  ·simp [F4]
end Go.TF
