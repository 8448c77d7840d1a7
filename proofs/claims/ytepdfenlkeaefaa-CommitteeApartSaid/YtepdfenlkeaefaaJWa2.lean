/- Walks: the Go text computes the Lean functions (printed by a program of our own). -/
import Derived.Test.YtepdfenlkeaefaaJPu
import Derived.Test.YtepdfenlkeaefaaJAbsT
import Derived.Test.YtepdfenlkeaefaaJWa0
import Derived.Test.YtepdfenlkeaefaaJWa1
set_option linter.unusedVariables false
set_option linter.unusedSimpArgs false
set_option maxRecDepth 100000
namespace Go.TF
open Go Go.Abs Go.Proofs Go.Proofs.YtepdfenlkeaefaaJT
set_option maxHeartbeats 4000000 in
theorem w_made_Dice_Some (k : Nat) (v0 : (List Int)) (v1 : Int) (v2 : Int) (v3 : (List Int)) (v4 : Int) (hF : made_Dice_Some k v0 v1 v2 = some (v3, v4)) :
  FCall Try.prog 33 [AV.ptr 0 0, AV.int .i64 v2] [.cells [AV.lst false false (List.map (AV.int .i64) v0), AV.int .i64 v1]] (AV.slc 1 0 1 v3.length false) [some (.cells [AV.lst false false (List.map (AV.int .i64) v0), AV.int .i64 v4]), some (.grow (List.map (AV.int .i64) v3))] := by
 unfold made_Dice_Some at hF
 refine FCall.enter Try.func33 rfl (by simp) (by decide) (by simp) (by simp) (by simp) (by simp) (by simp) ?_
 intro c0 w0 Q h0 hQ
 refine AW.wk [(0, AV.ptr 0 0), (1, AV.int .i64 v2)] [(0, .cells [AV.lst false false (List.map (AV.int .i64) v0), AV.int .i64 v1])] 1 (by simp) (by simp) (by simp) ?_
 refine AW.seqR mixed [] [none] (by kernel_rfl) fun G81 R81 hG81 hR81 => ?_
 try simp
 repeat' apply And.intro
 any_goals (first | exact hG81 _ (by kernel_rfl) | refine hR81 _ _ _ ?_ | omega | (unfold maxLen; omega) | (simp; done) | (simp; omega))
 refine AW.wk [(0, AV.ptr 0 0), (1, AV.int .i64 v2)] [(0, .cells [AV.lst false false (List.map (AV.int .i64) v0), AV.int .i64 v1])] 1 (by simp) (by simp) (by simp) ?_
 refine AW.seqR mixed [] [none] (by kernel_rfl) fun G82 R82 hG82 hR82 => ?_
 try simp
 repeat' apply And.intro
 any_goals (first | exact hG82 _ (by kernel_rfl) | refine hR82 _ _ _ ?_ | omega | (unfold maxLen; omega) | (simp; done) | (simp; omega))
 refine AW.wk [(0, AV.ptr 0 0), (1, AV.int .i64 v2), (5, AV.lst true true (List.map (AV.int .i64) ([] : List Int)))] [(0, .cells [AV.lst false false (List.map (AV.int .i64) v0), AV.int .i64 v1])] 1 (by simp) (by simp) (by simp) ?_
 refine AW.seq fun K121 hK121 => ?_
 refine AW.seqR mixed [] [none] (by kernel_rfl) fun G122 R122 hG122 hR122 => ?_
 try simp
 repeat' apply And.intro
 any_goals (first | exact hG122 _ (by kernel_rfl) | refine hR122 _ _ _ ?_ | omega | (unfold maxLen; omega) | (simp; done) | (simp; omega))
 refine AW.wk [(0, AV.ptr 0 0), (1, AV.int .i64 v2), (5, AV.lst true true (List.map (AV.int .i64) ([] : List Int))), (6, AV.int .i64 0)] [(0, .cells [AV.lst false false (List.map (AV.int .i64) v0), AV.int .i64 v1])] 1 (by simp) (by simp) (by simp) ?_
 refine AW.block ?_
 refine AW.own' 5 1 true (by simp) (by decide) ?_
 refine AW.loopF (α := (Int × Int × (List Int))) (fun n (v5, v6, v7) => made_Dice_Some.L1 k v0 v2 n v5 v6 v7 = some (v3, v4)) (fun (v5, v6, v7) => [(0, AV.ptr 0 0), (1, AV.int .i64 v2), (5, AV.slc 1 0 1 v7.length false), (6, AV.int .i64 v5)]) (fun (v5, v6, v7) => [(0, .cells [AV.lst false false (List.map (AV.int .i64) v0), AV.int .i64 v6]), (1, .grow (List.map (AV.int .i64) v7))]) 2 k ((0, v1, ([] : List Int))) hF (by simp) (by simp) (by simp) ?_
 rintro (_|n1) ⟨v5, v6, v7⟩ hF K150 hK150
 ·try dsimp only at hF
  rw [made_Dice_Some.L1] at hF; cases hF
 try dsimp only at hF
 rw [made_Dice_Some.L1] at hF
 refine AW.seq fun K152 hK152 => ?_
 refine AW.seqR mixed [] [none, none, none] (by kernel_rfl) fun G153 R153 hG153 hR153 => ?_
 try simp
 repeat' apply And.intro
 any_goals (first | exact hG153 _ (by kernel_rfl) | refine hR153 _ _ _ ?_ | omega | (unfold maxLen; omega) | (simp; done) | (simp; omega))
 refine AW.wk [(0, AV.ptr 0 0), (1, AV.int .i64 v2), (5, AV.slc 1 0 1 v7.length false), (6, AV.int .i64 v5), (9, AV.bool (decide (v5 < v2)))] [(0, .cells [AV.lst false false (List.map (AV.int .i64) v0), AV.int .i64 v6]), (1, .grow (List.map (AV.int .i64) v7))] 2 (by simp) (by simp) (by simp) ?_
 by_cases h1 : v5 < v2
 ·replace hF := ite_t h1 hF
  have h1_ := h1
  try simp at h1_
  refine AW.condT (by decide) (by first | (simp [h1, h1_]; done) | (simp [h1, h1_]; omega)) ?_
  refine AW.skip ?_
  refine hK152 _ _ _ ?_
  refine AW.midF (α := (Int × (List Int))) (fun (v8, v9) => made_Dice_Some.J2 k v5 (fun v5_ v6_ v7_ => made_Dice_Some.L1 k v0 v2 n1 v5_ v6_ v7_) v8 v9 = some (v3, v4)) (fun (v8, v9) => [(0, AV.ptr 0 0), (1, AV.int .i64 v2), (5, AV.slc 1 0 1 v9.length false), (6, AV.int .i64 v5)]) (fun (v8, v9) => [(0, .cells [AV.lst false false (List.map (AV.int .i64) v0), AV.int .i64 v8]), (1, .grow (List.map (AV.int .i64) v9))]) 2 (fun K157 hK157 => ?_) ?_
  ·refine AW.block ?_
   refine AW.seqR mixed [] [none, none, none] (by kernel_rfl) fun G158 R158 hG158 hR158 => ?_
   try simp [h1, h1_]
   repeat' apply And.intro
   try any_goals (first | omega | (unfold maxLen; omega) | (simp [h1, h1_]; done))
   obtain ⟨v10, v11, h2, hF⟩ := bnd2_elim hF
   refine aCall_l (w_made_Dice_Next k _ _ _ _ _ h2) (by simp) [0] [] [0] rfl (.cons (.same (by simp [h1, h1_])) (.cons (.same (by simp [h1, h1_])) .nil)) (by simp [h1, h1_]) (by decide) (by simp) (by simp) (.inl rfl) (by simp) (by simp) ?_
   try simp [h1, h1_]
   repeat' apply And.intro
   any_goals (first | exact hG158 _ (by kernel_rfl) | refine hR158 _ _ _ ?_ | omega | (unfold maxLen; omega) | (simp [h1, h1_]; done) | (simp [h1, h1_]; omega))
   refine AW.wk [(0, AV.ptr 0 0), (1, AV.int .i64 v2), (5, AV.slc 1 0 1 v7.length false), (6, AV.int .i64 v5), (14, AV.bool (v10 == 0))] [(0, .cells [AV.lst false false (List.map (AV.int .i64) v0), AV.int .i64 v11]), (1, .grow (List.map (AV.int .i64) v7))] 2 (by simp [h1, h1_]) (by simp [h1, h1_]) (by simp) ?_
   by_cases h3 : v10 = 0
   ·replace hF := ite_t h3 hF
    have h3q : v10 = 0 := h3
    have h3_ := eqb_t h3q
    have h3__ := neb_f h3q
    have F1 := And.intro h1 (And.intro h1_ (And.intro h3_ (And.intro h3__ h3q)))
    refine AW.condT (by decide) (by first | (simp [F1]; done) | (simp [F1]; omega)) ?_
    refine AW.region mixed [] [none, none, none, none, none] (by kernel_rfl) fun G159 R159 hG159 hR159 => ?_
    obtain ⟨h4, hF⟩ := chk_elim hF
    have h4_ := h4
    try simp at h4_
    have F2 := And.intro F1 h4
    try simp [F2]
    repeat' apply And.intro
    any_goals (first | exact hG159 _ (by kernel_rfl) | refine hR159 _ _ _ ?_ | omega | (unfold maxLen; omega) | (simp [F2]; done) | (simp [F2]; omega))
    refine hK157 _ _ _ ?_
    refine Can.weak [(0, AV.ptr 0 0), (1, AV.int .i64 v2), (5, AV.slc 2 0 1 ((v7 ++ ([v5] : List Int)).length) false), (6, AV.int .i64 v5)] [(0, .cells [AV.lst false false (List.map (AV.int .i64) v0), AV.int .i64 v11]), (2, .grow (List.map (AV.int .i64) (v7 ++ ([v5] : List Int))))] 3 (by simp [F2] <;> omega) (by simp [F2]) (by simp) ?_
    refine Can.ren (m := 1) h0 [(0, 0), (1, 2)] [(0, AV.ptr 0 0), (1, AV.int .i64 v2), (5, AV.slc 1 0 1 ((v7 ++ ([v5] : List Int)).length) false), (6, AV.int .i64 v5)] [(0, .cells [AV.lst false false (List.map (AV.int .i64) v0), AV.int .i64 v11]), (1, .grow (List.map (AV.int .i64) (v7 ++ ([v5] : List Int))))] 2 (by decide) (by decide) (by decide) rfl (by simp [F2]) (by simp [F2]) ?_
    exact Can.join ((v11, v7 ++ ([v5] : List Int))) hF (by simp [F2]) (by simp [F2]) (by simp)
   ·replace hF := ite_f h3 hF
    have h3_ := eqb_f h3
    have h3__ := neb_t h3
    have F3 := And.intro h1 (And.intro h1_ (And.intro h3 (And.intro h3_ h3__)))
    refine AW.condF (by decide) (by first | (simp [F3]; done) | (simp [F3]; omega)) ?_
    refine AW.skip ?_
    refine hK157 _ _ _ ?_
    exact Can.join ((v11, v7)) hF (by simp [F3]) (by simp [F3]) (by simp)
  ·rintro ⟨v8, v9⟩ hF
   try dsimp only at hF
   unfold made_Dice_Some.J2 at hF
   refine AW.region mixed [] [none, none, none] (by kernel_rfl) fun G156 R156 hG156 hR156 => ?_
   try simp [h1, h1_]
   repeat' apply And.intro
   any_goals (first | exact hG156 _ (by kernel_rfl) | refine hR156 _ _ _ ?_ | omega | (unfold maxLen; omega) | (simp [h1, h1_]; done) | (simp [h1, h1_]; omega))
   refine hK150 _ _ _ ?_
   refine Can.weak [(0, AV.ptr 0 0), (1, AV.int .i64 v2), (5, AV.slc 1 0 1 v9.length false), (6, AV.int .i64 (IntKind.wrap .i64 (v5 + 1)))] [(0, .cells [AV.lst false false (List.map (AV.int .i64) v0), AV.int .i64 v8]), (1, .grow (List.map (AV.int .i64) v9))] 2 (by simp [h1, h1_]) (by simp [h1, h1_]) (by simp) ?_
   exact Can.next (k' := n1) ((IntKind.wrap .i64 (v5 + 1), v8, v9)) (by omega) hF (by simp [h1, h1_]) (by simp [h1, h1_]) (by simp)
 ·replace hF := ite_f h1 hF
  have h1_ := h1
  try simp at h1_
  refine AW.condF (by decide) (by first | (simp [h1, h1_]; done) | (simp [h1, h1_]; omega)) ?_
  refine AW.exit ?_
  try simp
  refine hK121 _ _ _ ?_
  refine AW.seqR mixed [] [none, none] (by kernel_rfl) fun G160 R160 hG160 hR160 => ?_
  try simp [h1, h1_]
  repeat' apply And.intro
  any_goals (first | exact hG160 _ (by kernel_rfl) | refine hR160 _ _ _ ?_ | omega | (unfold maxLen; omega) | (simp [h1, h1_]; done) | (simp [h1, h1_]; omega))
  refine AW.wk [(4, AV.slc 1 0 1 v7.length false)] [(0, .cells [AV.lst false false (List.map (AV.int .i64) v0), AV.int .i64 v6]), (1, .grow (List.map (AV.int .i64) v7))] 2 (by simp [h1, h1_]) (by simp [h1, h1_]) (by simp) ?_
  simp only [Option.some.injEq, Prod.mk.injEq] at hF
  obtain ⟨e0, e1⟩ := hF
  subst e0 e1
  refine AW.ret (hQ _ _ _ ?_ (matchO_0 ?_)).1
  ·simp [Try.f33, h1, h1_]
  ·simp [h1, h1_]
set_option maxHeartbeats 4000000 in
theorem w_mill_Keys (k : Nat) (v0 : (List Int)) (v1 : Int) (v2 : Int) (v3 : (List Int)) (v4 : Int) (hF : mill_Keys k v0 v1 v2 = some (v3, v4)) :
  FCall Try.prog 49 [AV.ptr 0 0, AV.int .i64 v2] [.cells [AV.lst false false (List.map (AV.int .i64) v0), AV.int .i64 v1]] (AV.lst false false (List.map (AV.int .i64) v3)) [some (.cells [AV.lst false false (List.map (AV.int .i64) v0), AV.int .i64 v4])] := by
 unfold mill_Keys at hF
 refine FCall.enter Try.func49 rfl (by simp) (by decide) (by simp) (by simp) (by simp) (by simp) (by simp) ?_
 intro c0 w0 Q h0 hQ
 refine AW.wk [(0, AV.ptr 0 0), (1, AV.int .i64 v2)] [(0, .cells [AV.lst false false (List.map (AV.int .i64) v0), AV.int .i64 v1])] 1 (by simp) (by simp) (by simp) ?_
 refine AW.seqR mixed [] [none] (by kernel_rfl) fun G9 R9 hG9 hR9 => ?_
 try simp
 repeat' apply And.intro
 any_goals (first | exact hG9 _ (by kernel_rfl) | refine hR9 _ _ _ ?_ | omega | (unfold maxLen; omega) | (simp; done) | (simp; omega))
 refine AW.wk [(0, AV.ptr 0 0), (1, AV.int .i64 v2)] [(0, .cells [AV.lst false false (List.map (AV.int .i64) v0), AV.int .i64 v1])] 1 (by simp) (by simp) (by simp) ?_
 refine AW.seqR mixed [] [none, none, none, none] (by kernel_rfl) fun G10 R10 hG10 hR10 => ?_
 try simp
 repeat' apply And.intro
 try any_goals (first | omega | (unfold maxLen; omega) | (simp; done))
 obtain ⟨v5, v6, h1, hF⟩ := bnd2_elim hF
 refine aCall_l (w_made_Dice_Some k _ _ _ _ _ h1) (by simp) [0] [] [0] rfl (.cons (.same (by simp)) (.cons (.same (by simp)) .nil)) (by simp) (by decide) (by simp) (by simp) (.inl rfl) (by simp) (by simp) ?_
 try simp
 repeat' apply And.intro
 any_goals (first | exact hG10 _ (by kernel_rfl) | refine hR10 _ _ _ ?_ | omega | (unfold maxLen; omega) | (simp; done) | (simp; omega))
 refine AW.wk [(0, AV.ptr 0 0), (1, AV.int .i64 v2), (5, AV.slc 1 0 1 v5.length false)] [(0, .cells [AV.lst false false (List.map (AV.int .i64) v0), AV.int .i64 v6]), (1, .grow (List.map (AV.int .i64) v5))] 2 (by simp) (by simp) (by simp) ?_
 refine AW.midF (α := ((List Int) × Int)) (fun (v7, v8) => mill_Keys.J1 k v7 v8 = some (v3, v4)) (fun (v7, v8) => [(5, AV.lst false false (List.map (AV.int .i64) v7))]) (fun (v7, v8) => [(0, .cells [AV.lst false false (List.map (AV.int .i64) v0), AV.int .i64 v8])]) 1 (fun K14 hK14 => ?_) ?_
 ·refine AW.seqR mixed [] [none, none, none] (by kernel_rfl) fun G15 R15 hG15 hR15 => ?_
  try simp
  repeat' apply And.intro
  any_goals (first | exact hG15 _ (by kernel_rfl) | refine hR15 _ _ _ ?_ | omega | (unfold maxLen; omega) | (simp; done) | (simp; omega))
  refine AW.wk [(0, AV.ptr 0 0), (1, AV.int .i64 v2), (5, AV.slc 1 0 1 v5.length false), (11, AV.bool ((v5.length : Int) == 0))] [(0, .cells [AV.lst false false (List.map (AV.int .i64) v0), AV.int .i64 v6]), (1, .grow (List.map (AV.int .i64) v5))] 2 (by simp) (by simp) (by simp) ?_
  by_cases h2 : (v5.length : Int) = 0
  ·replace hF := ite_t h2 hF
   have h2q : (v5.length : Int) = 0 := h2
   have h2_ := eqb_t h2q
   have h2__ := neb_f h2q
   have F1 := And.intro h2_ (And.intro h2__ h2q)
   refine AW.condT (by decide) (by first | (simp [F1]; done) | (simp [F1]; omega)) ?_
   refine AW.region mixed [] [none, none, none, none, none] (by kernel_rfl) fun G16 R16 hG16 hR16 => ?_
   try simp [F1]
   repeat' apply And.intro
   try any_goals (first | omega | (unfold maxLen; omega) | (simp [F1]; done))
   obtain ⟨v9, v10, h3, hF⟩ := bnd2_elim hF
   refine aCall_l (w_made_Dice_Next k _ _ _ _ _ h3) (by simp) [0] [] [0] rfl (.cons (.same (by simp [F1])) (.cons (.same (by simp [F1])) .nil)) (by simp [F1]) (by decide) (by simp) (by simp) (.inl rfl) (by simp) (by simp) ?_
   try simp [F1]
   repeat' apply And.intro
   any_goals (first | exact hG16 _ (by kernel_rfl) | refine hR16 _ _ _ ?_ | omega | (unfold maxLen; omega) | (simp [F1]; done) | (simp [F1]; omega))
   refine hK14 _ _ _ ?_
   refine Can.weak [(5, AV.lst false true (List.map (AV.int .i64) ([v9] : List Int)))] [(0, .cells [AV.lst false false (List.map (AV.int .i64) v0), AV.int .i64 v10])] 2 (by simp [F1]) (by simp [F1]) (by simp) ?_
   refine Can.ren (m := 1) h0 [(0, 0)] [(5, AV.lst false true (List.map (AV.int .i64) ([v9] : List Int)))] [(0, .cells [AV.lst false false (List.map (AV.int .i64) v0), AV.int .i64 v10])] 1 (by decide) (by decide) (by decide) rfl (by simp [F1]) (by simp [F1]) ?_
   refine Can.flg [(5, AV.lst false false (List.map (AV.int .i64) ([v9] : List Int)))] [] ⟨(.lst (by simp)), trivial⟩ trivial (by simp) ?_
   exact Can.join ((([v9] : List Int), v10)) hF (by simp [F1]) (by simp [F1]) (by simp)
  ·replace hF := ite_f h2 hF
   have h2_ := eqb_f h2
   have h2__ := neb_t h2
   have F2 := And.intro h2 (And.intro h2_ h2__)
   refine AW.condF (by decide) (by first | (simp [F2]; done) | (simp [F2]; omega)) ?_
   refine AW.skip ?_
   refine hK14 _ _ _ ?_
   refine Can.freeze 1 (o := .grow (List.map (AV.int .i64) v5)) (by simp [F2]) rfl [(5, AV.lst false false (List.map (AV.int .i64) v5))] [] ⟨(.l (by simp) (by simp) (by simp) (by simp)), trivial⟩ trivial ?_
   refine Can.ren (m := 1) h0 [(0, 0)] [(5, AV.lst false false (List.map (AV.int .i64) v5))] [(0, .cells [AV.lst false false (List.map (AV.int .i64) v0), AV.int .i64 v6])] 1 (by decide) (by decide) (by decide) rfl (by simp [F2]) (by simp [F2]) ?_
   exact Can.join ((v5, v6)) hF (by simp [F2]) (by simp [F2]) (by simp)
 ·rintro ⟨v7, v8⟩ hF
  try dsimp only at hF
  unfold mill_Keys.J1 at hF
  refine AW.seqR mixed [] [none, none] (by kernel_rfl) fun G13 R13 hG13 hR13 => ?_
  try simp
  repeat' apply And.intro
  any_goals (first | exact hG13 _ (by kernel_rfl) | refine hR13 _ _ _ ?_ | omega | (unfold maxLen; omega) | (simp; done) | (simp; omega))
  refine AW.wk [(4, AV.lst false false (List.map (AV.int .i64) v7))] [(0, .cells [AV.lst false false (List.map (AV.int .i64) v0), AV.int .i64 v8])] 1 (by simp) (by simp) (by simp) ?_
  simp only [Option.some.injEq, Prod.mk.injEq] at hF
  obtain ⟨e0, e1⟩ := hF
  subst e0 e1
  refine AW.ret (hQ _ _ _ ?_ (matchO_0 ?_)).1
  ·simp [Try.f49]
  ·simp
set_option maxHeartbeats 4000000 in
theorem w_lists_In (k : Nat) (v0 : Int) (v1 : Int) (v2 : Int) (v3 : Bool) (hF : lists_In k v0 v1 v2 = some v3) :
  FCall Try.prog 101 [AV.int .i64 v0, AV.int .i64 v1, AV.int .i64 v2] [] (AV.bool v3) [] := by
 unfold lists_In at hF
 refine FCall.enter Try.func101 rfl (by simp) (by decide) (by simp) (by simp) (by simp) (by simp) (by simp) ?_
 intro c0 w0 Q h0 hQ
 refine AW.wk [(0, AV.int .i64 v0), (1, AV.int .i64 v1), (2, AV.int .i64 v2)] [] 0 (by simp) (by simp) (by simp) ?_
 refine AW.seqR mixed [] [none] (by kernel_rfl) fun G3 R3 hG3 hR3 => ?_
 try simp
 repeat' apply And.intro
 any_goals (first | exact hG3 _ (by kernel_rfl) | refine hR3 _ _ _ ?_ | omega | (unfold maxLen; omega) | (simp; done) | (simp; omega))
 refine AW.wk [(0, AV.int .i64 v0), (1, AV.int .i64 v1), (2, AV.int .i64 v2)] [] 0 (by simp) (by simp) (by simp) ?_
 refine AW.seqR mixed [] [none, none, none, none, some (10, true), some (10, true), some (10, true), none, none] (by kernel_rfl) fun G4 R4 hG4 hR4 => ?_
 by_cases h1 : v1 ≤ v0
 ·replace hF := ite_t h1 hF
  have h1_ := h1
  try simp at h1_
  try simp [h1, h1_]
  repeat' apply And.intro
  any_goals (first | exact hG4 _ (by kernel_rfl) | refine hR4 _ _ _ ?_ | omega | (unfold maxLen; omega) | (simp [h1, h1_]; done) | (simp [h1, h1_]; omega))
  refine AW.wk [(6, AV.bool (decide (v0 ≤ v2)))] [] 0 (by simp [h1, h1_]) (by simp [h1, h1_]) (by simp) ?_
  simp only [Option.some.injEq] at hF
  subst hF
  refine AW.ret (hQ _ _ _ ?_ (matchO_0 ?_)).1
  ·simp [Try.f101, h1, h1_]
  ·simp [h1, h1_]
 ·replace hF := ite_f h1 hF
  have h1_ := h1
  try simp at h1_
  try simp [h1, h1_]
  repeat' apply And.intro
  any_goals (first | exact hG4 _ (by kernel_rfl) | refine hR4 _ _ _ ?_ | omega | (unfold maxLen; omega) | (simp [h1, h1_]; done) | (simp [h1, h1_]; omega))
  refine AW.wk [(6, AV.bool false)] [] 0 (by simp [h1, h1_]) (by simp [h1, h1_]) (by simp) ?_
  simp only [Option.some.injEq] at hF
  subst hF
  refine AW.ret (hQ _ _ _ ?_ (matchO_0 ?_)).1
  ·simp [Try.f101, h1, h1_]
  ·simp [h1, h1_]
set_option maxHeartbeats 4000000 in
theorem w_lists_Rising (k : Nat) (v0 : (List Int)) (v1 : Int) (v2 : Int) (v3 : Bool) (hF : lists_Rising k v0 v1 v2 = some v3) :
  FCall Try.prog 100 [AV.lst false false (List.map (AV.int .i64) v0), AV.int .i64 v1, AV.int .i64 v2] [] (AV.bool v3) [] := by
 unfold lists_Rising at hF
 refine FCall.enter Try.func100 rfl (by simp) (by decide) (by simp) (by simp) (by simp) (by simp) (by simp) ?_
 intro c0 w0 Q h0 hQ
 refine AW.wk [(0, AV.lst false false (List.map (AV.int .i64) v0)), (1, AV.int .i64 v1), (2, AV.int .i64 v2)] [] 0 (by simp) (by simp) (by simp) ?_
 refine AW.seqR mixed [] [none] (by kernel_rfl) fun G112 R112 hG112 hR112 => ?_
 try simp
 repeat' apply And.intro
 any_goals (first | exact hG112 _ (by kernel_rfl) | refine hR112 _ _ _ ?_ | omega | (unfold maxLen; omega) | (simp; done) | (simp; omega))
 refine AW.wk [(0, AV.lst false false (List.map (AV.int .i64) v0)), (1, AV.int .i64 v1), (2, AV.int .i64 v2)] [] 0 (by simp) (by simp) (by simp) ?_
 refine AW.seq fun K167 hK167 => ?_
 refine AW.seqR mixed [] [none, none, none] (by kernel_rfl) fun G168 R168 hG168 hR168 => ?_
 try simp
 repeat' apply And.intro
 any_goals (first | exact hG168 _ (by kernel_rfl) | refine hR168 _ _ _ ?_ | omega | (unfold maxLen; omega) | (simp; done) | (simp; omega))
 refine AW.wk [(0, AV.lst false false (List.map (AV.int .i64) v0)), (1, AV.int .i64 v1), (2, AV.int .i64 v2), (9, AV.lst false false (List.map (AV.int .i64) v0)), (10, AV.int .i64 (v0.length : Int)), (11, AV.int .i64 0)] [] 0 (by simp) (by simp) (by simp) ?_
 refine AW.block ?_
 refine AW.loopF (α := Int) (fun n v4 => lists_Rising.L1 k v0 v1 v2 n v4 = some v3) (fun v4 => [(0, AV.lst false false (List.map (AV.int .i64) v0)), (1, AV.int .i64 v1), (2, AV.int .i64 v2), (9, AV.lst false false (List.map (AV.int .i64) v0)), (10, AV.int .i64 (v0.length : Int)), (11, AV.int .i64 v4)]) (fun v4 => []) 0 k (0) hF (by simp) (by simp) (by simp) ?_
 rintro (_|n1) v4 hF K207 hK207
 ·try dsimp only at hF
  rw [lists_Rising.L1] at hF; cases hF
 try dsimp only at hF
 rw [lists_Rising.L1] at hF
 refine AW.seqR mixed [] [none] (by kernel_rfl) fun G208 R208 hG208 hR208 => ?_
 try simp
 repeat' apply And.intro
 any_goals (first | exact hG208 _ (by kernel_rfl) | refine hR208 _ _ _ ?_ | omega | (unfold maxLen; omega) | (simp; done) | (simp; omega))
 refine AW.wk [(0, AV.lst false false (List.map (AV.int .i64) v0)), (1, AV.int .i64 v1), (2, AV.int .i64 v2), (9, AV.lst false false (List.map (AV.int .i64) v0)), (10, AV.int .i64 (v0.length : Int)), (11, AV.int .i64 v4), (12, AV.bool (decide (v4 < (v0.length : Int))))] [] 0 (by simp) (by simp) (by simp) ?_
 refine AW.seq fun K209 hK209 => ?_
 by_cases h1 : v4 < (v0.length : Int)
 ·replace hF := ite_t h1 hF
  have h1_ := h1
  try simp at h1_
  refine AW.condT (by decide) (by first | (simp [h1, h1_]; done) | (simp [h1, h1_]; omega)) ?_
  refine AW.skip ?_
  refine hK209 _ _ _ ?_
  refine AW.midF (α := Unit) (fun _ => lists_Rising.J2 k v4 (fun v4_ => lists_Rising.L1 k v0 v1 v2 n1 v4_) = some v3) (fun _ => [(0, AV.lst false false (List.map (AV.int .i64) v0)), (1, AV.int .i64 v1), (2, AV.int .i64 v2), (9, AV.lst false false (List.map (AV.int .i64) v0)), (10, AV.int .i64 (v0.length : Int)), (11, AV.int .i64 v4)]) (fun _ => []) 0 (fun K216 hK216 => ?_) ?_
  ·refine AW.block ?_
   refine AW.seqR mixed [] [none, none, none, none, none] (by kernel_rfl) fun G217 R217 hG217 hR217 => ?_
   obtain ⟨v5, h2, h3, h4, hF⟩ := idx_elim hF
   have h4_ := get_of h4
   try simp at h4_
   have h3_ := h3
   try simp at h3_
   have F1 := And.intro h1 (And.intro h1_ (And.intro h2 (And.intro h3 (And.intro h4 (And.intro h4_ h3_)))))
   try simp [F1]
   repeat' apply And.intro
   any_goals (first | exact hG217 _ (by kernel_rfl) | refine hR217 _ _ _ ?_ | omega | (unfold maxLen; omega) | (simp [F1]; done) | (simp [F1]; omega))
   refine AW.wk [(0, AV.lst false false (List.map (AV.int .i64) v0)), (1, AV.int .i64 v1), (2, AV.int .i64 v2), (7, AV.int .i64 v4), (8, AV.int .i64 v5), (9, AV.lst false false (List.map (AV.int .i64) v0)), (10, AV.int .i64 (v0.length : Int)), (11, AV.int .i64 v4)] [] 0 (by simp [F1]) (by simp [F1]) (by simp) ?_
   refine AW.seqR mixed [] [none, none, none, none, some (19, false), some (19, false), some (19, false), none, none, some (24, false), some (24, false), some (24, false), some (27, true), some (27, true), some (27, true), some (27, true), some (27, true), some (27, true), some (27, true), some (24, false), none] (by kernel_rfl) fun G218 R218 hG218 hR218 => ?_
   by_cases h5 : v5 < v1
   ·replace hF := ite_t h5 hF
    have h5_ := h5
    try simp at h5_
    have F2 := And.intro F1 (And.intro h5 h5_)
    try simp [F2]
    repeat' apply And.intro
    any_goals (first | exact hG218 _ (by kernel_rfl) | refine hR218 _ _ _ ?_ | omega | (unfold maxLen; omega) | (simp [F2]; done) | (simp [F2]; omega))
    refine AW.wk [(0, AV.lst false false (List.map (AV.int .i64) v0)), (1, AV.int .i64 v1), (2, AV.int .i64 v2), (9, AV.lst false false (List.map (AV.int .i64) v0)), (10, AV.int .i64 (v0.length : Int)), (11, AV.int .i64 v4), (36, AV.bool true)] [] 0 (by simp [F2]) (by simp [F2]) (by simp) ?_
    refine AW.condT (by decide) (by simp [F2]) ?_
    refine AW.seqR mixed [] [none] (by kernel_rfl) fun G219 R219 hG219 hR219 => ?_
    try simp [F2]
    repeat' apply And.intro
    any_goals (first | exact hG219 _ (by kernel_rfl) | refine hR219 _ _ _ ?_ | omega | (unfold maxLen; omega) | (simp [F2]; done) | (simp [F2]; omega))
    refine AW.wk [(6, AV.bool false)] [] 0 (by simp [F2]) (by simp [F2]) (by simp) ?_
    simp only [Option.some.injEq] at hF
    subst hF
    refine AW.ret (hQ _ _ _ ?_ (matchO_0 ?_)).1
    ·simp [Try.f100, F2]
    ·simp [F2]
   ·replace hF := ite_f h5 hF
    have h5_ := h5
    try simp at h5_
    by_cases h6 : v2 < v5
    ·replace hF := ite_t h6 hF
     have h6_ := h6
     try simp at h6_
     have F3 := And.intro F1 (And.intro h5 (And.intro h5_ (And.intro h6 h6_)))
     try simp [F3]
     repeat' apply And.intro
     any_goals (first | exact hG218 _ (by kernel_rfl) | refine hR218 _ _ _ ?_ | omega | (unfold maxLen; omega) | (simp [F3]; done) | (simp [F3]; omega))
     refine AW.wk [(0, AV.lst false false (List.map (AV.int .i64) v0)), (1, AV.int .i64 v1), (2, AV.int .i64 v2), (9, AV.lst false false (List.map (AV.int .i64) v0)), (10, AV.int .i64 (v0.length : Int)), (11, AV.int .i64 v4), (36, AV.bool true)] [] 0 (by simp [F3]) (by simp [F3]) (by simp) ?_
     refine AW.condT (by decide) (by simp [F3]) ?_
     refine AW.seqR mixed [] [none] (by kernel_rfl) fun G220 R220 hG220 hR220 => ?_
     try simp [F3]
     repeat' apply And.intro
     any_goals (first | exact hG220 _ (by kernel_rfl) | refine hR220 _ _ _ ?_ | omega | (unfold maxLen; omega) | (simp [F3]; done) | (simp [F3]; omega))
     refine AW.wk [(6, AV.bool false)] [] 0 (by simp [F3]) (by simp [F3]) (by simp) ?_
     simp only [Option.some.injEq] at hF
     subst hF
     refine AW.ret (hQ _ _ _ ?_ (matchO_0 ?_)).1
     ·simp [Try.f100, F3]
     ·simp [F3]
    ·replace hF := ite_f h6 hF
     have h6_ := h6
     try simp at h6_
     by_cases h7 : 0 < v4
     ·replace hF := ite_t h7 hF
      have h7_ := h7
      try simp at h7_
      obtain ⟨v6, h8, h9, h10, hF⟩ := idx_elim hF
      have h10_ := get_of h10
      try simp at h10_
      have h9_ := h9
      try simp at h9_
      have F4 := And.intro F1 (And.intro h5 (And.intro h5_ (And.intro h6 (And.intro h6_ (And.intro h7 (And.intro h7_ (And.intro h8 (And.intro h9 (And.intro h10 (And.intro h10_ h9_))))))))))
      try simp [F4]
      repeat' apply And.intro
      any_goals (first | exact hG218 _ (by kernel_rfl) | refine hR218 _ _ _ ?_ | omega | (unfold maxLen; omega) | (simp [F4]; done) | (simp [F4]; omega))
      refine AW.wk [(0, AV.lst false false (List.map (AV.int .i64) v0)), (1, AV.int .i64 v1), (2, AV.int .i64 v2), (9, AV.lst false false (List.map (AV.int .i64) v0)), (10, AV.int .i64 (v0.length : Int)), (11, AV.int .i64 v4), (36, AV.bool (decide (v5 ≤ v6)))] [] 0 (by simp [F4]) (by simp [F4]) (by simp) ?_
      by_cases h11 : v5 ≤ v6
      ·replace hF := ite_t h11 hF
       have h11_ := h11
       try simp at h11_
       have F5 := And.intro F4 (And.intro h11 h11_)
       refine AW.condT (by decide) (by first | (simp [F5]; done) | (simp [F5]; omega)) ?_
       refine AW.seqR mixed [] [none] (by kernel_rfl) fun G221 R221 hG221 hR221 => ?_
       try simp [F5]
       repeat' apply And.intro
       any_goals (first | exact hG221 _ (by kernel_rfl) | refine hR221 _ _ _ ?_ | omega | (unfold maxLen; omega) | (simp [F5]; done) | (simp [F5]; omega))
       refine AW.wk [(6, AV.bool false)] [] 0 (by simp [F5]) (by simp [F5]) (by simp) ?_
       simp only [Option.some.injEq] at hF
       subst hF
       refine AW.ret (hQ _ _ _ ?_ (matchO_0 ?_)).1
       ·simp [Try.f100, F5]
       ·simp [F5]
      ·replace hF := ite_f h11 hF
       have h11_ := h11
       try simp at h11_
       have F6 := And.intro F4 (And.intro h11 h11_)
       refine AW.condF (by decide) (by first | (simp [F6]; done) | (simp [F6]; omega)) ?_
       refine AW.skip ?_
       refine hK216 _ _ _ ?_
       exact Can.join (()) hF (by simp [F6]) (by simp [F6]) (by simp)
     ·replace hF := ite_f h7 hF
      have h7_ := h7
      try simp at h7_
      have F7 := And.intro F1 (And.intro h5 (And.intro h5_ (And.intro h6 (And.intro h6_ (And.intro h7 h7_)))))
      try simp [F7]
      repeat' apply And.intro
      any_goals (first | exact hG218 _ (by kernel_rfl) | refine hR218 _ _ _ ?_ | omega | (unfold maxLen; omega) | (simp [F7]; done) | (simp [F7]; omega))
      refine AW.wk [(0, AV.lst false false (List.map (AV.int .i64) v0)), (1, AV.int .i64 v1), (2, AV.int .i64 v2), (9, AV.lst false false (List.map (AV.int .i64) v0)), (10, AV.int .i64 (v0.length : Int)), (11, AV.int .i64 v4), (36, AV.bool false)] [] 0 (by simp [F7]) (by simp [F7]) (by simp) ?_
      refine AW.condF (by decide) (by simp [F7]) ?_
      refine AW.skip ?_
      refine hK216 _ _ _ ?_
      exact Can.join (()) hF (by simp [F7]) (by simp [F7]) (by simp)
  ·rintro ⟨⟩ hF
   try dsimp only at hF
   unfold lists_Rising.J2 at hF
   refine AW.region mixed [] [none, none] (by kernel_rfl) fun G215 R215 hG215 hR215 => ?_
   try simp [h1, h1_]
   repeat' apply And.intro
   any_goals (first | exact hG215 _ (by kernel_rfl) | refine hR215 _ _ _ ?_ | omega | (unfold maxLen; omega) | (simp [h1, h1_]; done) | (simp [h1, h1_]; omega))
   refine hK207 _ _ _ ?_
   refine Can.weak [(0, AV.lst false false (List.map (AV.int .i64) v0)), (1, AV.int .i64 v1), (2, AV.int .i64 v2), (9, AV.lst false false (List.map (AV.int .i64) v0)), (10, AV.int .i64 (v0.length : Int)), (11, AV.int .i64 (IntKind.wrap .i64 (v4 + 1)))] [] 0 (by simp [h1, h1_]) (by simp [h1, h1_]) (by simp) ?_
   exact Can.next (k' := n1) (IntKind.wrap .i64 (v4 + 1)) (by omega) hF (by simp [h1, h1_]) (by simp [h1, h1_]) (by simp)
 ·replace hF := ite_f h1 hF
  have h1_ := h1
  try simp at h1_
  refine AW.condF (by decide) (by first | (simp [h1, h1_]; done) | (simp [h1, h1_]; omega)) ?_
  refine AW.exit ?_
  try simp
  refine hK167 _ _ _ ?_
  refine AW.seqR mixed [] [none] (by kernel_rfl) fun G222 R222 hG222 hR222 => ?_
  try simp [h1, h1_]
  repeat' apply And.intro
  any_goals (first | exact hG222 _ (by kernel_rfl) | refine hR222 _ _ _ ?_ | omega | (unfold maxLen; omega) | (simp [h1, h1_]; done) | (simp [h1, h1_]; omega))
  refine AW.wk [(6, AV.bool true)] [] 0 (by simp [h1, h1_]) (by simp [h1, h1_]) (by simp) ?_
  simp only [Option.some.injEq] at hF
  subst hF
  refine AW.ret (hQ _ _ _ ?_ (matchO_0 ?_)).1
  ·simp [Try.f100, h1, h1_]
  ·simp [h1, h1_]
set_option maxHeartbeats 4000000 in
theorem w_slices_Index_int_int (k : Nat) (v0 : (List Int)) (v1 : Int) (v2 : Int) (hF : slices_Index_int_int k v0 v1 = some v2) :
  FCall Try.prog 135 [AV.lst false false (List.map (AV.int .i64) v0), AV.int .i64 v1] [] (AV.int .i64 v2) [] := by
 unfold slices_Index_int_int at hF
 refine FCall.enter Try.func135 rfl (by simp) (by decide) (by simp) (by simp) (by simp) (by simp) (by simp) ?_
 intro c0 w0 Q h0 hQ
 refine AW.wk [(0, AV.lst false false (List.map (AV.int .i64) v0)), (1, AV.int .i64 v1)] [] 0 (by simp) (by simp) (by simp) ?_
 refine AW.seqR mixed [] [none] (by kernel_rfl) fun G88 R88 hG88 hR88 => ?_
 try simp
 repeat' apply And.intro
 any_goals (first | exact hG88 _ (by kernel_rfl) | refine hR88 _ _ _ ?_ | omega | (unfold maxLen; omega) | (simp; done) | (simp; omega))
 refine AW.wk [(0, AV.lst false false (List.map (AV.int .i64) v0)), (1, AV.int .i64 v1)] [] 0 (by simp) (by simp) (by simp) ?_
 refine AW.seq fun K131 hK131 => ?_
 refine AW.seqR mixed [] [none, none, none] (by kernel_rfl) fun G132 R132 hG132 hR132 => ?_
 try simp
 repeat' apply And.intro
 any_goals (first | exact hG132 _ (by kernel_rfl) | refine hR132 _ _ _ ?_ | omega | (unfold maxLen; omega) | (simp; done) | (simp; omega))
 refine AW.wk [(0, AV.lst false false (List.map (AV.int .i64) v0)), (1, AV.int .i64 v1), (7, AV.int .i64 (v0.length : Int)), (8, AV.int .i64 0)] [] 0 (by simp) (by simp) (by simp) ?_
 refine AW.block ?_
 refine AW.loopF (α := Int) (fun n v3 => slices_Index_int_int.L1 k v0 v1 n v3 = some v2) (fun v3 => [(0, AV.lst false false (List.map (AV.int .i64) v0)), (1, AV.int .i64 v1), (7, AV.int .i64 (v0.length : Int)), (8, AV.int .i64 v3)]) (fun v3 => []) 0 k (0) hF (by simp) (by simp) (by simp) ?_
 rintro (_|n1) v3 hF K163 hK163
 ·try dsimp only at hF
  rw [slices_Index_int_int.L1] at hF; cases hF
 try dsimp only at hF
 rw [slices_Index_int_int.L1] at hF
 refine AW.seqR mixed [] [none] (by kernel_rfl) fun G164 R164 hG164 hR164 => ?_
 try simp
 repeat' apply And.intro
 any_goals (first | exact hG164 _ (by kernel_rfl) | refine hR164 _ _ _ ?_ | omega | (unfold maxLen; omega) | (simp; done) | (simp; omega))
 refine AW.wk [(0, AV.lst false false (List.map (AV.int .i64) v0)), (1, AV.int .i64 v1), (7, AV.int .i64 (v0.length : Int)), (8, AV.int .i64 v3), (9, AV.bool (decide (v3 < (v0.length : Int))))] [] 0 (by simp) (by simp) (by simp) ?_
 refine AW.seq fun K165 hK165 => ?_
 by_cases h1 : v3 < (v0.length : Int)
 ·replace hF := ite_t h1 hF
  have h1_ := h1
  try simp at h1_
  refine AW.condT (by decide) (by first | (simp [h1, h1_]; done) | (simp [h1, h1_]; omega)) ?_
  refine AW.skip ?_
  refine hK165 _ _ _ ?_
  refine AW.seq fun K169 hK169 => ?_
  refine AW.block ?_
  refine AW.seqR mixed [] [none, none] (by kernel_rfl) fun G170 R170 hG170 hR170 => ?_
  try simp [h1, h1_]
  repeat' apply And.intro
  any_goals (first | exact hG170 _ (by kernel_rfl) | refine hR170 _ _ _ ?_ | omega | (unfold maxLen; omega) | (simp [h1, h1_]; done) | (simp [h1, h1_]; omega))
  refine AW.wk [(0, AV.lst false false (List.map (AV.int .i64) v0)), (1, AV.int .i64 v1), (5, AV.int .i64 v3), (7, AV.int .i64 (v0.length : Int)), (8, AV.int .i64 v3)] [] 0 (by simp [h1, h1_]) (by simp [h1, h1_]) (by simp) ?_
  refine AW.seqR mixed [] [none, none, none, none, none, none] (by kernel_rfl) fun G171 R171 hG171 hR171 => ?_
  obtain ⟨v4, h2, h3, h4, hF⟩ := idx_elim hF
  have h4_ := get_of h4
  try simp at h4_
  have h3_ := h3
  try simp at h3_
  have F1 := And.intro h1 (And.intro h1_ (And.intro h2 (And.intro h3 (And.intro h4 (And.intro h4_ h3_)))))
  try simp [F1]
  repeat' apply And.intro
  any_goals (first | exact hG171 _ (by kernel_rfl) | refine hR171 _ _ _ ?_ | omega | (unfold maxLen; omega) | (simp [F1]; done) | (simp [F1]; omega))
  refine AW.wk [(0, AV.lst false false (List.map (AV.int .i64) v0)), (1, AV.int .i64 v1), (5, AV.int .i64 v3), (7, AV.int .i64 (v0.length : Int)), (8, AV.int .i64 v3), (16, AV.bool (v1 == v4))] [] 0 (by simp [F1]) (by simp [F1]) (by simp) ?_
  by_cases h5 : v1 = v4
  ·replace hF := ite_t h5 hF
   have h5q : v1 = v4 := h5
   have h5_ := eqb_t h5q
   have h5__ := neb_f h5q
   have F2 := And.intro F1 (And.intro h5_ h5__)
   refine AW.condT (by decide) (by first | (simp [F2]; done) | (simp [F2]; omega)) ?_
   refine AW.seqR mixed [] [none, none] (by kernel_rfl) fun G172 R172 hG172 hR172 => ?_
   try simp [F2]
   repeat' apply And.intro
   any_goals (first | exact hG172 _ (by kernel_rfl) | refine hR172 _ _ _ ?_ | omega | (unfold maxLen; omega) | (simp [F2]; done) | (simp [F2]; omega))
   refine AW.wk [(4, AV.int .i64 v3)] [] 0 (by simp [F2]) (by simp [F2]) (by simp) ?_
   simp only [Option.some.injEq] at hF
   subst hF
   refine AW.ret (hQ _ _ _ ?_ (matchO_0 ?_)).1
   ·simp [Try.f135, F2]
   ·simp [F2]
  ·replace hF := ite_f h5 hF
   have h5_ := eqb_f h5
   have h5__ := neb_t h5
   have F3 := And.intro F1 (And.intro h5 (And.intro h5_ h5__))
   refine AW.condF (by decide) (by first | (simp [F3]; done) | (simp [F3]; omega)) ?_
   refine AW.skip ?_
   refine hK169 _ _ _ ?_
   refine AW.region mixed [] [none, none] (by kernel_rfl) fun G173 R173 hG173 hR173 => ?_
   try simp [F3]
   repeat' apply And.intro
   any_goals (first | exact hG173 _ (by kernel_rfl) | refine hR173 _ _ _ ?_ | omega | (unfold maxLen; omega) | (simp [F3]; done) | (simp [F3]; omega))
   refine hK163 _ _ _ ?_
   refine Can.weak [(0, AV.lst false false (List.map (AV.int .i64) v0)), (1, AV.int .i64 v1), (7, AV.int .i64 (v0.length : Int)), (8, AV.int .i64 (IntKind.wrap .i64 (v3 + 1)))] [] 0 (by simp [F3]) (by simp [F3]) (by simp) ?_
   exact Can.next (k' := n1) (IntKind.wrap .i64 (v3 + 1)) (by omega) hF (by simp [F3]) (by simp [F3]) (by simp)
 ·replace hF := ite_f h1 hF
  have h1_ := h1
  try simp at h1_
  refine AW.condF (by decide) (by first | (simp [h1, h1_]; done) | (simp [h1, h1_]; omega)) ?_
  refine AW.exit ?_
  try simp
  refine hK131 _ _ _ ?_
  refine AW.seqR mixed [] [none] (by kernel_rfl) fun G174 R174 hG174 hR174 => ?_
  try simp [h1, h1_]
  repeat' apply And.intro
  any_goals (first | exact hG174 _ (by kernel_rfl) | refine hR174 _ _ _ ?_ | omega | (unfold maxLen; omega) | (simp [h1, h1_]; done) | (simp [h1, h1_]; omega))
  refine AW.wk [(4, AV.int .i64 (-1))] [] 0 (by simp [h1, h1_]) (by simp [h1, h1_]) (by simp) ?_
  simp only [Option.some.injEq] at hF
  subst hF
  refine AW.ret (hQ _ _ _ ?_ (matchO_0 ?_)).1
  ·simp [Try.f135, h1, h1_]
  ·simp [h1, h1_]
set_option maxHeartbeats 4000000 in
theorem w_slices_Contains_int_int (k : Nat) (v0 : (List Int)) (v1 : Int) (v2 : Bool) (hF : slices_Contains_int_int k v0 v1 = some v2) :
  FCall Try.prog 123 [AV.lst false false (List.map (AV.int .i64) v0), AV.int .i64 v1] [] (AV.bool v2) [] := by
 unfold slices_Contains_int_int at hF
 refine FCall.enter Try.func123 rfl (by simp) (by decide) (by simp) (by simp) (by simp) (by simp) (by simp) ?_
 intro c0 w0 Q h0 hQ
 refine AW.wk [(0, AV.lst false false (List.map (AV.int .i64) v0)), (1, AV.int .i64 v1)] [] 0 (by simp) (by simp) (by simp) ?_
 refine AW.seqR mixed [] [none] (by kernel_rfl) fun G3 R3 hG3 hR3 => ?_
 try simp
 repeat' apply And.intro
 any_goals (first | exact hG3 _ (by kernel_rfl) | refine hR3 _ _ _ ?_ | omega | (unfold maxLen; omega) | (simp; done) | (simp; omega))
 refine AW.wk [(0, AV.lst false false (List.map (AV.int .i64) v0)), (1, AV.int .i64 v1)] [] 0 (by simp) (by simp) (by simp) ?_
 refine AW.seqR mixed [] [none, none, none, none, none] (by kernel_rfl) fun G4 R4 hG4 hR4 => ?_
 try simp
 repeat' apply And.intro
 try any_goals (first | omega | (unfold maxLen; omega) | (simp; done))
 obtain ⟨v3, h1, hF⟩ := bnd1_elim hF
 refine aCall_l (w_slices_Index_int_int k _ _ _ h1) (by simp) [] [] [] rfl (.cons (.same (by simp)) (.cons (.same (by simp)) .nil)) (by simp) (by decide) (by simp) (by simp) (.inl rfl) (by simp) (by simp) ?_
 try simp
 repeat' apply And.intro
 any_goals (first | exact hG4 _ (by kernel_rfl) | refine hR4 _ _ _ ?_ | omega | (unfold maxLen; omega) | (simp; done) | (simp; omega))
 refine AW.wk [(4, AV.bool (decide (0 ≤ v3)))] [] 0 (by simp) (by simp) (by simp) ?_
 simp only [Option.some.injEq] at hF
 subst hF
 refine AW.ret (hQ _ _ _ ?_ (matchO_0 ?_)).1
 ·simp [Try.f123]
 ·simp
set_option maxHeartbeats 4000000 in
theorem w_graph_fits (k : Nat) (v0 : Int) (v1 : (List api_Edge)) (v2 : (List Int)) (v3 : Int) (v4 : Int) (v5 : Int) (v6 : Bool) (hF : graph_fits k v0 v1 v2 v3 v4 v5 = some v6) :
  FCall Try.prog 117 [AV.agg [AV.int .i64 v0, AV.lst false false (List.map api_Edge.av v1), AV.lst false false (List.map (AV.int .i64) v2)], AV.agg [AV.int .i64 v3, AV.int .i64 v4, AV.int .i64 v5]] [] (AV.bool v6) [] := by
 unfold graph_fits at hF
 refine FCall.enter Try.func117 rfl (by simp) (by decide) (by simp) (by simp) (by simp) (by simp) (by simp) ?_
 intro c0 w0 Q h0 hQ
 refine AW.wk [(0, AV.agg [AV.int .i64 v0, AV.lst false false (List.map api_Edge.av v1), AV.lst false false (List.map (AV.int .i64) v2)]), (1, AV.agg [AV.int .i64 v3, AV.int .i64 v4, AV.int .i64 v5])] [] 0 (by simp) (by simp) (by simp) ?_
 refine AW.seqR mixed [] [none, none, none] (by kernel_rfl) fun G3 R3 hG3 hR3 => ?_
 try simp
 repeat' apply And.intro
 any_goals (first | exact hG3 _ (by kernel_rfl) | refine hR3 _ _ _ ?_ | omega | (unfold maxLen; omega) | (simp; done) | (simp; omega))
 refine AW.wk [(2, AV.ptr 0 0), (3, AV.ptr 1 0)] [(0, .cells [AV.int .i64 v0, AV.lst false false (List.map api_Edge.av v1), AV.lst false false (List.map (AV.int .i64) v2)]), (1, .cells [AV.int .i64 v3, AV.int .i64 v4, AV.int .i64 v5])] 2 (by simp) (by simp) (by simp) ?_
 refine AW.seqR mixed [] [none, none, none, none, none, none, none, some (11, true), some (11, true), some (11, true), some (11, true), some (11, true), some (11, true), none, none, some (19, true), some (19, true), some (19, true), some (19, true), some (19, true), none, none, some (26, true), some (26, true), some (26, true), some (26, true), some (26, true), some (26, true), none, none, some (34, true), some (34, true), some (34, true), some (34, true), some (34, true), some (34, true), none, none] (by kernel_rfl) fun G4 R4 hG4 hR4 => ?_
 try simp
 repeat' apply And.intro
 try any_goals (first | omega | (unfold maxLen; omega) | (simp; done))
 obtain ⟨v7, h1, hF⟩ := bnd1_elim hF
 refine aCall_l (w_lists_In k _ _ _ _ h1) (by simp) [] [] [] rfl (.cons (.same (by simp)) (.cons (.same (by simp)) (.cons (.same (by simp)) .nil))) (by simp) (by decide) (by simp) (by simp) (.inl rfl) (by simp) (by simp) ?_
 by_cases h2 : v7 = true
 ·replace hF := ite_t h2 hF
  have h2_ := h2
  try simp at h2_
  try simp [h2, h2_]
  repeat' apply And.intro
  try any_goals (first | omega | (unfold maxLen; omega) | (simp [h2, h2_]; done))
  obtain ⟨v8, h3, hF⟩ := bnd1_elim hF
  refine aCall_l (w_lists_In k _ _ _ _ h3) (by simp) [] [] [] rfl (.cons (.same (by simp [h2, h2_])) (.cons (.same (by simp [h2, h2_])) (.cons (.same (by simp [h2, h2_])) .nil))) (by simp [h2, h2_]) (by decide) (by simp) (by simp) (.inl rfl) (by simp) (by simp) ?_
  by_cases h4 : v8 = true
  ·replace hF := ite_t h4 hF
   have h4_ := h4
   try simp at h4_
   by_cases h5 : v3 ≠ v4
   ·replace hF := ite_t h5 hF
    have h5_ := eqb_f h5
    have h5__ := neb_t h5
    have F1 := And.intro h2 (And.intro h2_ (And.intro h4 (And.intro h4_ (And.intro h5 (And.intro h5_ h5__)))))
    try simp [F1]
    repeat' apply And.intro
    try any_goals (first | omega | (unfold maxLen; omega) | (simp [F1]; done))
    obtain ⟨v9, h6, hF⟩ := bnd1_elim hF
    refine aCall_l (w_slices_Contains_int_int k _ _ _ h6) (by simp) [] [] [] rfl (.cons (.same (by simp [F1])) (.cons (.same (by simp [F1])) .nil)) (by simp [F1]) (by decide) (by simp) (by simp) (.inl rfl) (by simp) (by simp) ?_
    by_cases h7 : (!v9) = true
    ·replace hF := ite_t h7 hF
     have h7_ := h7
     try simp at h7_
     have F2 := And.intro F1 (And.intro h7 h7_)
     try simp [F2]
     repeat' apply And.intro
     try any_goals (first | omega | (unfold maxLen; omega) | (simp [F2]; done))
     obtain ⟨v10, h8, hF⟩ := bnd1_elim hF
     refine aCall_l (w_slices_Contains_int_int k _ _ _ h8) (by simp) [] [] [] rfl (.cons (.same (by simp [F2])) (.cons (.same (by simp [F2])) .nil)) (by simp [F2]) (by decide) (by simp) (by simp) (.inl rfl) (by simp) (by simp) ?_
     try simp [F2]
     repeat' apply And.intro
     any_goals (first | exact hG4 _ (by kernel_rfl) | refine hR4 _ _ _ ?_ | omega | (unfold maxLen; omega) | (simp [F2]; done) | (simp [F2]; omega))
     refine AW.wk [(4, AV.bool (!v10))] [] 2 (by simp [F2]) (by simp [F2]) (by simp) ?_
     simp only [Option.some.injEq] at hF
     subst hF
     refine AW.ret (hQ _ _ _ ?_ (matchO_0 ?_)).1
     ·simp [Try.f117, F2]
     ·simp [F2]
    ·replace hF := ite_f h7 hF
     have h7_ := h7
     try simp at h7_
     have F3 := And.intro F1 (And.intro h7 h7_)
     try simp [F3]
     repeat' apply And.intro
     any_goals (first | exact hG4 _ (by kernel_rfl) | refine hR4 _ _ _ ?_ | omega | (unfold maxLen; omega) | (simp [F3]; done) | (simp [F3]; omega))
     refine AW.wk [(4, AV.bool false)] [] 2 (by simp [F3]) (by simp [F3]) (by simp) ?_
     simp only [Option.some.injEq] at hF
     subst hF
     refine AW.ret (hQ _ _ _ ?_ (matchO_0 ?_)).1
     ·simp [Try.f117, F3]
     ·simp [F3]
   ·replace hF := ite_f h5 hF
    have h5q : v3 = v4 := Classical.not_not.1 h5
    have h5_ := eqb_t h5q
    have h5__ := neb_f h5q
    have F4 := And.intro h2 (And.intro h2_ (And.intro h4 (And.intro h4_ (And.intro h5_ h5__))))
    try simp [F4]
    repeat' apply And.intro
    any_goals (first | exact hG4 _ (by kernel_rfl) | refine hR4 _ _ _ ?_ | omega | (unfold maxLen; omega) | (simp [F4]; done) | (simp [F4]; omega))
    refine AW.wk [(4, AV.bool false)] [] 2 (by simp [F4]) (by simp [F4]) (by simp) ?_
    simp only [Option.some.injEq] at hF
    subst hF
    refine AW.ret (hQ _ _ _ ?_ (matchO_0 ?_)).1
    ·simp [Try.f117, F4]
    ·simp [F4]
  ·replace hF := ite_f h4 hF
   have h4_ := h4
   try simp at h4_
   have F5 := And.intro h2 (And.intro h2_ (And.intro h4 h4_))
   try simp [F5]
   repeat' apply And.intro
   any_goals (first | exact hG4 _ (by kernel_rfl) | refine hR4 _ _ _ ?_ | omega | (unfold maxLen; omega) | (simp [F5]; done) | (simp [F5]; omega))
   refine AW.wk [(4, AV.bool false)] [] 2 (by simp [F5]) (by simp [F5]) (by simp) ?_
   simp only [Option.some.injEq] at hF
   subst hF
   refine AW.ret (hQ _ _ _ ?_ (matchO_0 ?_)).1
   ·simp [Try.f117, F5]
   ·simp [F5]
 ·replace hF := ite_f h2 hF
  have h2_ := h2
  try simp at h2_
  try simp [h2, h2_]
  repeat' apply And.intro
  any_goals (first | exact hG4 _ (by kernel_rfl) | refine hR4 _ _ _ ?_ | omega | (unfold maxLen; omega) | (simp [h2, h2_]; done) | (simp [h2, h2_]; omega))
  refine AW.wk [(4, AV.bool false)] [] 2 (by simp [h2, h2_]) (by simp [h2, h2_]) (by simp) ?_
  simp only [Option.some.injEq] at hF
  subst hF
  refine AW.ret (hQ _ _ _ ?_ (matchO_0 ?_)).1
  ·simp [Try.f117, h2, h2_]
  ·simp [h2, h2_]
set_option maxHeartbeats 4000000 in
theorem w_cmp_isNaN_int (k : Nat) (v0 : Int) (v1 : Bool) (hF : cmp_isNaN_int k v0 = some v1) :
  FCall Try.prog 136 [AV.int .i64 v0] [] (AV.bool v1) [] := by
 unfold cmp_isNaN_int at hF
 refine FCall.enter Try.func136 rfl (by simp) (by decide) (by simp) (by simp) (by simp) (by simp) (by simp) ?_
 intro c0 w0 Q h0 hQ
 refine AW.wk [(0, AV.int .i64 v0)] [] 0 (by simp) (by simp) (by simp) ?_
 refine AW.seqR mixed [] [none] (by kernel_rfl) fun G3 R3 hG3 hR3 => ?_
 try simp
 repeat' apply And.intro
 any_goals (first | exact hG3 _ (by kernel_rfl) | refine hR3 _ _ _ ?_ | omega | (unfold maxLen; omega) | (simp; done) | (simp; omega))
 refine AW.wk [(0, AV.int .i64 v0)] [] 0 (by simp) (by simp) (by simp) ?_
 refine AW.seqR mixed [] [none, none, none, none] (by kernel_rfl) fun G4 R4 hG4 hR4 => ?_
 try simp
 repeat' apply And.intro
 any_goals (first | exact hG4 _ (by kernel_rfl) | refine hR4 _ _ _ ?_ | omega | (unfold maxLen; omega) | (simp; done) | (simp; omega))
 refine AW.wk [(2, AV.bool (v0 != v0))] [] 0 (by simp) (by simp) (by simp) ?_
 simp only [Option.some.injEq] at hF
 subst hF
 refine AW.ret (hQ _ _ _ ?_ (matchO_0 ?_)).1
 ·simp [Try.f136]
 ·simp
set_option maxHeartbeats 4000000 in
theorem w_cmp_Compare_int (k : Nat) (v0 : Int) (v1 : Int) (v2 : Int) (hF : cmp_Compare_int k v0 v1 = some v2) :
  FCall Try.prog 125 [AV.int .i64 v0, AV.int .i64 v1] [] (AV.int .i64 v2) [] := by
 unfold cmp_Compare_int at hF
 refine FCall.enter Try.func125 rfl (by simp) (by decide) (by simp) (by simp) (by simp) (by simp) (by simp) ?_
 intro c0 w0 Q h0 hQ
 refine AW.wk [(0, AV.int .i64 v0), (1, AV.int .i64 v1)] [] 0 (by simp) (by simp) (by simp) ?_
 refine AW.seqR mixed [] [none] (by kernel_rfl) fun G35 R35 hG35 hR35 => ?_
 try simp
 repeat' apply And.intro
 any_goals (first | exact hG35 _ (by kernel_rfl) | refine hR35 _ _ _ ?_ | omega | (unfold maxLen; omega) | (simp; done) | (simp; omega))
 refine AW.wk [(0, AV.int .i64 v0), (1, AV.int .i64 v1)] [] 0 (by simp) (by simp) (by simp) ?_
 refine AW.seqR mixed [] [none, none, none] (by kernel_rfl) fun G36 R36 hG36 hR36 => ?_
 try simp
 repeat' apply And.intro
 try any_goals (first | omega | (unfold maxLen; omega) | (simp; done))
 obtain ⟨v3, h1, hF⟩ := bnd1_elim hF
 refine aCall_l (w_cmp_isNaN_int k _ _ h1) (by simp) [] [] [] rfl (.cons (.same (by simp)) .nil) (by simp) (by decide) (by simp) (by simp) (.inl rfl) (by simp) (by simp) ?_
 try simp
 repeat' apply And.intro
 any_goals (first | exact hG36 _ (by kernel_rfl) | refine hR36 _ _ _ ?_ | omega | (unfold maxLen; omega) | (simp; done) | (simp; omega))
 refine AW.wk [(0, AV.int .i64 v0), (1, AV.int .i64 v1), (5, AV.bool v3)] [] 0 (by simp) (by simp) (by simp) ?_
 refine AW.seqR mixed [] [none, none, none] (by kernel_rfl) fun G37 R37 hG37 hR37 => ?_
 try simp
 repeat' apply And.intro
 try any_goals (first | omega | (unfold maxLen; omega) | (simp; done))
 obtain ⟨v4, h2, hF⟩ := bnd1_elim hF
 refine aCall_l (w_cmp_isNaN_int k _ _ h2) (by simp) [] [] [] rfl (.cons (.same (by simp)) .nil) (by simp) (by decide) (by simp) (by simp) (.inl rfl) (by simp) (by simp) ?_
 try simp
 repeat' apply And.intro
 any_goals (first | exact hG37 _ (by kernel_rfl) | refine hR37 _ _ _ ?_ | omega | (unfold maxLen; omega) | (simp; done) | (simp; omega))
 refine AW.wk [(0, AV.int .i64 v0), (1, AV.int .i64 v1), (5, AV.bool v3), (6, AV.bool v4)] [] 0 (by simp) (by simp) (by simp) ?_
 refine AW.seq fun K45 hK45 => ?_
 refine AW.seqR mixed [] [none] (by kernel_rfl) fun G46 R46 hG46 hR46 => ?_
 try simp
 repeat' apply And.intro
 any_goals (first | exact hG46 _ (by kernel_rfl) | refine hR46 _ _ _ ?_ | omega | (unfold maxLen; omega) | (simp; done) | (simp; omega))
 refine AW.wk [(0, AV.int .i64 v0), (1, AV.int .i64 v1), (6, AV.bool v4), (11, AV.bool v3)] [] 0 (by simp) (by simp) (by simp) ?_
 by_cases h3 : v3 = true
 ·replace hF := ite_t h3 hF
  have h3_ := h3
  try simp at h3_
  refine AW.condT (by decide) (by first | (simp [h3, h3_]; done) | (simp [h3, h3_]; omega)) ?_
  refine AW.seq fun K49 hK49 => ?_
  refine AW.seqR mixed [] [none] (by kernel_rfl) fun G50 R50 hG50 hR50 => ?_
  try simp [h3, h3_]
  repeat' apply And.intro
  any_goals (first | exact hG50 _ (by kernel_rfl) | refine hR50 _ _ _ ?_ | omega | (unfold maxLen; omega) | (simp [h3, h3_]; done) | (simp [h3, h3_]; omega))
  refine AW.wk [(12, AV.bool v4)] [] 0 (by simp [h3, h3_]) (by simp [h3, h3_]) (by simp) ?_
  by_cases h4 : v4 = true
  ·replace hF := ite_t h4 hF
   have h4_ := h4
   try simp at h4_
   have F1 := And.intro h3 (And.intro h3_ (And.intro h4 h4_))
   refine AW.condT (by decide) (by first | (simp [F1]; done) | (simp [F1]; omega)) ?_
   refine AW.seqR mixed [] [none] (by kernel_rfl) fun G51 R51 hG51 hR51 => ?_
   try simp [F1]
   repeat' apply And.intro
   any_goals (first | exact hG51 _ (by kernel_rfl) | refine hR51 _ _ _ ?_ | omega | (unfold maxLen; omega) | (simp [F1]; done) | (simp [F1]; omega))
   refine AW.wk [(4, AV.int .i64 0)] [] 0 (by simp [F1]) (by simp [F1]) (by simp) ?_
   simp only [Option.some.injEq] at hF
   subst hF
   refine AW.ret (hQ _ _ _ ?_ (matchO_0 ?_)).1
   ·simp [Try.f125, F1]
   ·simp [F1]
  ·replace hF := ite_f h4 hF
   have h4_ := h4
   try simp at h4_
   have F2 := And.intro h3 (And.intro h3_ (And.intro h4 h4_))
   refine AW.condF (by decide) (by first | (simp [F2]; done) | (simp [F2]; omega)) ?_
   refine AW.skip ?_
   refine hK49 _ _ _ ?_
   refine AW.seqR mixed [] [none] (by kernel_rfl) fun G52 R52 hG52 hR52 => ?_
   try simp [F2]
   repeat' apply And.intro
   any_goals (first | exact hG52 _ (by kernel_rfl) | refine hR52 _ _ _ ?_ | omega | (unfold maxLen; omega) | (simp [F2]; done) | (simp [F2]; omega))
   refine AW.wk [(4, AV.int .i64 (-1))] [] 0 (by simp [F2]) (by simp [F2]) (by simp) ?_
   simp only [Option.some.injEq] at hF
   subst hF
   refine AW.ret (hQ _ _ _ ?_ (matchO_0 ?_)).1
   ·simp [Try.f125, F2]
   ·simp [F2]
 ·replace hF := ite_f h3 hF
  have h3_ := h3
  try simp at h3_
  refine AW.condF (by decide) (by first | (simp [h3, h3_]; done) | (simp [h3, h3_]; omega)) ?_
  refine AW.skip ?_
  refine hK45 _ _ _ ?_
  refine AW.seq fun K55 hK55 => ?_
  refine AW.seqR mixed [] [none] (by kernel_rfl) fun G56 R56 hG56 hR56 => ?_
  try simp [h3, h3_]
  repeat' apply And.intro
  any_goals (first | exact hG56 _ (by kernel_rfl) | refine hR56 _ _ _ ?_ | omega | (unfold maxLen; omega) | (simp [h3, h3_]; done) | (simp [h3, h3_]; omega))
  refine AW.wk [(0, AV.int .i64 v0), (1, AV.int .i64 v1), (13, AV.bool v4)] [] 0 (by simp [h3, h3_]) (by simp [h3, h3_]) (by simp) ?_
  by_cases h5 : v4 = true
  ·replace hF := ite_t h5 hF
   have h5_ := h5
   try simp at h5_
   have F3 := And.intro h3 (And.intro h3_ (And.intro h5 h5_))
   refine AW.condT (by decide) (by first | (simp [F3]; done) | (simp [F3]; omega)) ?_
   refine AW.seqR mixed [] [none] (by kernel_rfl) fun G57 R57 hG57 hR57 => ?_
   try simp [F3]
   repeat' apply And.intro
   any_goals (first | exact hG57 _ (by kernel_rfl) | refine hR57 _ _ _ ?_ | omega | (unfold maxLen; omega) | (simp [F3]; done) | (simp [F3]; omega))
   refine AW.wk [(4, AV.int .i64 1)] [] 0 (by simp [F3]) (by simp [F3]) (by simp) ?_
   simp only [Option.some.injEq] at hF
   subst hF
   refine AW.ret (hQ _ _ _ ?_ (matchO_0 ?_)).1
   ·simp [Try.f125, F3]
   ·simp [F3]
  ·replace hF := ite_f h5 hF
   have h5_ := h5
   try simp at h5_
   have F4 := And.intro h3 (And.intro h3_ (And.intro h5 h5_))
   refine AW.condF (by decide) (by first | (simp [F4]; done) | (simp [F4]; omega)) ?_
   refine AW.skip ?_
   refine hK55 _ _ _ ?_
   refine AW.seq fun K60 hK60 => ?_
   refine AW.seqR mixed [] [none, none, none] (by kernel_rfl) fun G61 R61 hG61 hR61 => ?_
   try simp [F4]
   repeat' apply And.intro
   any_goals (first | exact hG61 _ (by kernel_rfl) | refine hR61 _ _ _ ?_ | omega | (unfold maxLen; omega) | (simp [F4]; done) | (simp [F4]; omega))
   refine AW.wk [(0, AV.int .i64 v0), (1, AV.int .i64 v1), (16, AV.bool (decide (v0 < v1)))] [] 0 (by simp [F4]) (by simp [F4]) (by simp) ?_
   by_cases h6 : v0 < v1
   ·replace hF := ite_t h6 hF
    have h6_ := h6
    try simp at h6_
    have F5 := And.intro F4 (And.intro h6 h6_)
    refine AW.condT (by decide) (by first | (simp [F5]; done) | (simp [F5]; omega)) ?_
    refine AW.seqR mixed [] [none] (by kernel_rfl) fun G62 R62 hG62 hR62 => ?_
    try simp [F5]
    repeat' apply And.intro
    any_goals (first | exact hG62 _ (by kernel_rfl) | refine hR62 _ _ _ ?_ | omega | (unfold maxLen; omega) | (simp [F5]; done) | (simp [F5]; omega))
    refine AW.wk [(4, AV.int .i64 (-1))] [] 0 (by simp [F5]) (by simp [F5]) (by simp) ?_
    simp only [Option.some.injEq] at hF
    subst hF
    refine AW.ret (hQ _ _ _ ?_ (matchO_0 ?_)).1
    ·simp [Try.f125, F5]
    ·simp [F5]
   ·replace hF := ite_f h6 hF
    have h6_ := h6
    try simp at h6_
    have F6 := And.intro F4 (And.intro h6 h6_)
    refine AW.condF (by decide) (by first | (simp [F6]; done) | (simp [F6]; omega)) ?_
    refine AW.skip ?_
    refine hK60 _ _ _ ?_
    refine AW.seq fun K65 hK65 => ?_
    refine AW.seqR mixed [] [none, none, none] (by kernel_rfl) fun G66 R66 hG66 hR66 => ?_
    try simp [F6]
    repeat' apply And.intro
    any_goals (first | exact hG66 _ (by kernel_rfl) | refine hR66 _ _ _ ?_ | omega | (unfold maxLen; omega) | (simp [F6]; done) | (simp [F6]; omega))
    refine AW.wk [(19, AV.bool (decide (v1 < v0)))] [] 0 (by simp [F6]) (by simp [F6]) (by simp) ?_
    by_cases h7 : v1 < v0
    ·replace hF := ite_t h7 hF
     have h7_ := h7
     try simp at h7_
     have F7 := And.intro F6 (And.intro h7 h7_)
     refine AW.condT (by decide) (by first | (simp [F7]; done) | (simp [F7]; omega)) ?_
     refine AW.seqR mixed [] [none] (by kernel_rfl) fun G67 R67 hG67 hR67 => ?_
     try simp [F7]
     repeat' apply And.intro
     any_goals (first | exact hG67 _ (by kernel_rfl) | refine hR67 _ _ _ ?_ | omega | (unfold maxLen; omega) | (simp [F7]; done) | (simp [F7]; omega))
     refine AW.wk [(4, AV.int .i64 1)] [] 0 (by simp [F7]) (by simp [F7]) (by simp) ?_
     simp only [Option.some.injEq] at hF
     subst hF
     refine AW.ret (hQ _ _ _ ?_ (matchO_0 ?_)).1
     ·simp [Try.f125, F7]
     ·simp [F7]
    ·replace hF := ite_f h7 hF
     have h7_ := h7
     try simp at h7_
     have F8 := And.intro F6 (And.intro h7 h7_)
     refine AW.condF (by decide) (by first | (simp [F8]; done) | (simp [F8]; omega)) ?_
     refine AW.skip ?_
     refine hK65 _ _ _ ?_
     refine AW.seqR mixed [] [none] (by kernel_rfl) fun G68 R68 hG68 hR68 => ?_
     try simp [F8]
     repeat' apply And.intro
     any_goals (first | exact hG68 _ (by kernel_rfl) | refine hR68 _ _ _ ?_ | omega | (unfold maxLen; omega) | (simp [F8]; done) | (simp [F8]; omega))
     refine AW.wk [(4, AV.int .i64 0)] [] 0 (by simp [F8]) (by simp [F8]) (by simp) ?_
     simp only [Option.some.injEq] at hF
     subst hF
     refine AW.ret (hQ _ _ _ ?_ (matchO_0 ?_)).1
     ·simp [Try.f125, F8]
     ·simp [F8]
set_option maxHeartbeats 4000000 in
theorem w_cmp_Or_int (k : Nat) (v0 : (List Int)) (v1 : Int) (hF : cmp_Or_int k v0 = some v1) :
  FCall Try.prog 124 [AV.lst false false (List.map (AV.int .i64) v0)] [] (AV.int .i64 v1) [] := by
 unfold cmp_Or_int at hF
 refine FCall.enter Try.func124 rfl (by simp) (by decide) (by simp) (by simp) (by simp) (by simp) (by simp) ?_
 intro c0 w0 Q h0 hQ
 refine AW.wk [(0, AV.lst false false (List.map (AV.int .i64) v0))] [] 0 (by simp) (by simp) (by simp) ?_
 refine AW.seqR mixed [] [none] (by kernel_rfl) fun G89 R89 hG89 hR89 => ?_
 try simp
 repeat' apply And.intro
 any_goals (first | exact hG89 _ (by kernel_rfl) | refine hR89 _ _ _ ?_ | omega | (unfold maxLen; omega) | (simp; done) | (simp; omega))
 refine AW.wk [(0, AV.lst false false (List.map (AV.int .i64) v0))] [] 0 (by simp) (by simp) (by simp) ?_
 refine AW.seqR mixed [] [none] (by kernel_rfl) fun G90 R90 hG90 hR90 => ?_
 try simp
 repeat' apply And.intro
 any_goals (first | exact hG90 _ (by kernel_rfl) | refine hR90 _ _ _ ?_ | omega | (unfold maxLen; omega) | (simp; done) | (simp; omega))
 refine AW.wk [(0, AV.lst false false (List.map (AV.int .i64) v0)), (3, AV.int .i64 0)] [] 0 (by simp) (by simp) (by simp) ?_
 refine AW.seq fun K133 hK133 => ?_
 refine AW.seqR mixed [] [none, none, none] (by kernel_rfl) fun G134 R134 hG134 hR134 => ?_
 try simp
 repeat' apply And.intro
 any_goals (first | exact hG134 _ (by kernel_rfl) | refine hR134 _ _ _ ?_ | omega | (unfold maxLen; omega) | (simp; done) | (simp; omega))
 refine AW.wk [(3, AV.int .i64 0), (6, AV.lst false false (List.map (AV.int .i64) v0)), (7, AV.int .i64 (v0.length : Int)), (8, AV.int .i64 0)] [] 0 (by simp) (by simp) (by simp) ?_
 refine AW.block ?_
 refine AW.loopF (α := Int) (fun n v2 => cmp_Or_int.L1 k v0 n v2 = some v1) (fun v2 => [(3, AV.int .i64 0), (6, AV.lst false false (List.map (AV.int .i64) v0)), (7, AV.int .i64 (v0.length : Int)), (8, AV.int .i64 v2)]) (fun v2 => []) 0 k (0) hF (by simp) (by simp) (by simp) ?_
 rintro (_|n1) v2 hF K165 hK165
 ·try dsimp only at hF
  rw [cmp_Or_int.L1] at hF; cases hF
 try dsimp only at hF
 rw [cmp_Or_int.L1] at hF
 refine AW.seqR mixed [] [none] (by kernel_rfl) fun G166 R166 hG166 hR166 => ?_
 try simp
 repeat' apply And.intro
 any_goals (first | exact hG166 _ (by kernel_rfl) | refine hR166 _ _ _ ?_ | omega | (unfold maxLen; omega) | (simp; done) | (simp; omega))
 refine AW.wk [(3, AV.int .i64 0), (6, AV.lst false false (List.map (AV.int .i64) v0)), (7, AV.int .i64 (v0.length : Int)), (8, AV.int .i64 v2), (9, AV.bool (decide (v2 < (v0.length : Int))))] [] 0 (by simp) (by simp) (by simp) ?_
 refine AW.seq fun K167 hK167 => ?_
 by_cases h1 : v2 < (v0.length : Int)
 ·replace hF := ite_t h1 hF
  have h1_ := h1
  try simp at h1_
  refine AW.condT (by decide) (by first | (simp [h1, h1_]; done) | (simp [h1, h1_]; omega)) ?_
  refine AW.skip ?_
  refine hK167 _ _ _ ?_
  refine AW.seq fun K171 hK171 => ?_
  refine AW.block ?_
  refine AW.seqR mixed [] [none, none, none] (by kernel_rfl) fun G172 R172 hG172 hR172 => ?_
  obtain ⟨v3, h2, h3, h4, hF⟩ := idx_elim hF
  have h4_ := get_of h4
  try simp at h4_
  have h3_ := h3
  try simp at h3_
  have F1 := And.intro h1 (And.intro h1_ (And.intro h2 (And.intro h3 (And.intro h4 (And.intro h4_ h3_)))))
  try simp [F1]
  repeat' apply And.intro
  any_goals (first | exact hG172 _ (by kernel_rfl) | refine hR172 _ _ _ ?_ | omega | (unfold maxLen; omega) | (simp [F1]; done) | (simp [F1]; omega))
  refine AW.wk [(3, AV.int .i64 0), (5, AV.int .i64 v3), (6, AV.lst false false (List.map (AV.int .i64) v0)), (7, AV.int .i64 (v0.length : Int)), (8, AV.int .i64 v2)] [] 0 (by simp [F1]) (by simp [F1]) (by simp) ?_
  refine AW.seqR mixed [] [none, none, none] (by kernel_rfl) fun G173 R173 hG173 hR173 => ?_
  try simp [F1]
  repeat' apply And.intro
  any_goals (first | exact hG173 _ (by kernel_rfl) | refine hR173 _ _ _ ?_ | omega | (unfold maxLen; omega) | (simp [F1]; done) | (simp [F1]; omega))
  refine AW.wk [(3, AV.int .i64 0), (5, AV.int .i64 v3), (6, AV.lst false false (List.map (AV.int .i64) v0)), (7, AV.int .i64 (v0.length : Int)), (8, AV.int .i64 v2), (14, AV.bool (v3 != 0))] [] 0 (by simp [F1]) (by simp [F1]) (by simp) ?_
  by_cases h5 : v3 ≠ 0
  ·replace hF := ite_t h5 hF
   have h5_ := eqb_f h5
   have h5__ := neb_t h5
   have F2 := And.intro F1 (And.intro h5 (And.intro h5_ h5__))
   refine AW.condT (by decide) (by first | (simp [F2]; done) | (simp [F2]; omega)) ?_
   refine AW.seqR mixed [] [none, none] (by kernel_rfl) fun G174 R174 hG174 hR174 => ?_
   try simp [F2]
   repeat' apply And.intro
   any_goals (first | exact hG174 _ (by kernel_rfl) | refine hR174 _ _ _ ?_ | omega | (unfold maxLen; omega) | (simp [F2]; done) | (simp [F2]; omega))
   refine AW.wk [(2, AV.int .i64 v3)] [] 0 (by simp [F2]) (by simp [F2]) (by simp) ?_
   simp only [Option.some.injEq] at hF
   subst hF
   refine AW.ret (hQ _ _ _ ?_ (matchO_0 ?_)).1
   ·simp [Try.f124, F2]
   ·simp [F2]
  ·replace hF := ite_f h5 hF
   have h5q : v3 = 0 := Classical.not_not.1 h5
   have h5_ := eqb_t h5q
   have h5__ := neb_f h5q
   have F3 := And.intro F1 (And.intro h5_ (And.intro h5__ h5q))
   refine AW.condF (by decide) (by first | (simp [F3]; done) | (simp [F3]; omega)) ?_
   refine AW.skip ?_
   refine hK171 _ _ _ ?_
   refine AW.region mixed [] [none, none] (by kernel_rfl) fun G175 R175 hG175 hR175 => ?_
   try simp [F3]
   repeat' apply And.intro
   any_goals (first | exact hG175 _ (by kernel_rfl) | refine hR175 _ _ _ ?_ | omega | (unfold maxLen; omega) | (simp [F3]; done) | (simp [F3]; omega))
   refine hK165 _ _ _ ?_
   refine Can.weak [(3, AV.int .i64 0), (6, AV.lst false false (List.map (AV.int .i64) v0)), (7, AV.int .i64 (v0.length : Int)), (8, AV.int .i64 (IntKind.wrap .i64 (v2 + 1)))] [] 0 (by simp [F3]) (by simp [F3]) (by simp) ?_
   exact Can.next (k' := n1) (IntKind.wrap .i64 (v2 + 1)) (by omega) hF (by simp [F3]) (by simp [F3]) (by simp)
 ·replace hF := ite_f h1 hF
  have h1_ := h1
  try simp at h1_
  refine AW.condF (by decide) (by first | (simp [h1, h1_]; done) | (simp [h1, h1_]; omega)) ?_
  refine AW.exit ?_
  try simp
  refine hK133 _ _ _ ?_
  refine AW.seqR mixed [] [none, none] (by kernel_rfl) fun G176 R176 hG176 hR176 => ?_
  try simp [h1, h1_]
  repeat' apply And.intro
  any_goals (first | exact hG176 _ (by kernel_rfl) | refine hR176 _ _ _ ?_ | omega | (unfold maxLen; omega) | (simp [h1, h1_]; done) | (simp [h1, h1_]; omega))
  refine AW.wk [(2, AV.int .i64 0)] [] 0 (by simp [h1, h1_]) (by simp [h1, h1_]) (by simp) ?_
  simp only [Option.some.injEq] at hF
  subst hF
  refine AW.ret (hQ _ _ _ ?_ (matchO_0 ?_)).1
  ·simp [Try.f124, h1, h1_]
  ·simp [h1, h1_]
set_option maxHeartbeats 4000000 in
theorem w_graph_compare (k : Nat) (v0 : Int) (v1 : Int) (v2 : Int) (v3 : Int) (v4 : Int) (v5 : Int) (v6 : Int) (hF : graph_compare k v0 v1 v2 v3 v4 v5 = some v6) :
  FCall Try.prog 118 [AV.agg [AV.int .i64 v0, AV.int .i64 v1, AV.int .i64 v2], AV.agg [AV.int .i64 v3, AV.int .i64 v4, AV.int .i64 v5]] [] (AV.int .i64 v6) [] := by
 unfold graph_compare at hF
 refine FCall.enter Try.func118 rfl (by simp) (by decide) (by simp) (by simp) (by simp) (by simp) (by simp) ?_
 intro c0 w0 Q h0 hQ
 refine AW.wk [(0, AV.agg [AV.int .i64 v0, AV.int .i64 v1, AV.int .i64 v2]), (1, AV.agg [AV.int .i64 v3, AV.int .i64 v4, AV.int .i64 v5])] [] 0 (by simp) (by simp) (by simp) ?_
 refine AW.seqR mixed [] [none, none, none] (by kernel_rfl) fun G3 R3 hG3 hR3 => ?_
 try simp
 repeat' apply And.intro
 any_goals (first | exact hG3 _ (by kernel_rfl) | refine hR3 _ _ _ ?_ | omega | (unfold maxLen; omega) | (simp; done) | (simp; omega))
 refine AW.wk [(2, AV.ptr 0 0), (3, AV.ptr 1 0)] [(0, .cells [AV.int .i64 v0, AV.int .i64 v1, AV.int .i64 v2]), (1, .cells [AV.int .i64 v3, AV.int .i64 v4, AV.int .i64 v5])] 2 (by simp) (by simp) (by simp) ?_
 refine AW.seqR mixed [] [none, none, none, none, none, none, none, none, none, none, none, none, none] (by kernel_rfl) fun G4 R4 hG4 hR4 => ?_
 try simp
 repeat' apply And.intro
 try any_goals (first | omega | (unfold maxLen; omega) | (simp; done))
 obtain ⟨v7, h1, hF⟩ := bnd1_elim hF
 refine aCall_l (w_cmp_Compare_int k _ _ _ h1) (by simp) [] [] [] rfl (.cons (.same (by simp)) (.cons (.same (by simp)) .nil)) (by simp) (by decide) (by simp) (by simp) (.inl rfl) (by simp) (by simp) ?_
 try simp
 repeat' apply And.intro
 try any_goals (first | omega | (unfold maxLen; omega) | (simp; done))
 obtain ⟨v8, h2, hF⟩ := bnd1_elim hF
 refine aCall_l (w_cmp_Compare_int k _ _ _ h2) (by simp) [] [] [] rfl (.cons (.same (by simp)) (.cons (.same (by simp)) .nil)) (by simp) (by decide) (by simp) (by simp) (.inl rfl) (by simp) (by simp) ?_
 try simp
 repeat' apply And.intro
 try any_goals (first | omega | (unfold maxLen; omega) | (simp; done))
 obtain ⟨v9, h3, hF⟩ := bnd1_elim hF
 refine aCall_l (w_cmp_Or_int k _ _ h3) (by simp) [] [] [] rfl (.cons (Coe.fl (by simp)) .nil) (by simp) (by decide) (by simp) (by simp) (.inl rfl) (by simp) (by simp) ?_
 try simp
 repeat' apply And.intro
 any_goals (first | exact hG4 _ (by kernel_rfl) | refine hR4 _ _ _ ?_ | omega | (unfold maxLen; omega) | (simp; done) | (simp; omega))
 refine AW.wk [(4, AV.int .i64 v9)] [] 2 (by simp) (by simp) (by simp) ?_
 simp only [Option.some.injEq] at hF
 subst hF
 refine AW.ret (hQ _ _ _ ?_ (matchO_0 ?_)).1
 ·simp [Try.f118]
 ·simp
set_option maxHeartbeats 4000000 in
theorem w_graph_Check (k : Nat) (v0 : Int) (v1 : (List api_Edge)) (v2 : (List Int)) (v3 : Int) (hF : graph_Check k v0 v1 v2 = some v3) :
  FCall Try.prog 99 [AV.agg [AV.int .i64 v0, AV.lst false false (List.map api_Edge.av v1), AV.lst false false (List.map (AV.int .i64) v2)]] [] (AV.int .i64 v3) [] := by
 unfold graph_Check at hF
 refine FCall.enter Try.func99 rfl (by simp) (by decide) (by simp) (by simp) (by simp) (by simp) (by simp) ?_
 intro c0 w0 Q h0 hQ
 refine AW.wk [(0, AV.agg [AV.int .i64 v0, AV.lst false false (List.map api_Edge.av v1), AV.lst false false (List.map (AV.int .i64) v2)])] [] 0 (by simp) (by simp) (by simp) ?_
 refine AW.seqR mixed [] [none, none] (by kernel_rfl) fun G121 R121 hG121 hR121 => ?_
 try simp
 repeat' apply And.intro
 any_goals (first | exact hG121 _ (by kernel_rfl) | refine hR121 _ _ _ ?_ | omega | (unfold maxLen; omega) | (simp; done) | (simp; omega))
 refine AW.wk [(1, AV.ptr 0 0)] [(0, .cells [AV.int .i64 v0, AV.lst false false (List.map api_Edge.av v1), AV.lst false false (List.map (AV.int .i64) v2)])] 1 (by simp) (by simp) (by simp) ?_
 refine AW.seq fun K126 hK126 => ?_
 refine AW.seqR mixed [] [none, none, none, none, none, some (9, false), some (9, false), some (9, false), some (9, false), none, none, some (15, false), some (15, false), some (15, false), some (15, false), some (15, false), some (15, false), some (15, false), none] (by kernel_rfl) fun G127 R127 hG127 hR127 => ?_
 try simp
 repeat' apply And.intro
 try any_goals (first | omega | (unfold maxLen; omega) | (simp; done))
 obtain ⟨v4, h1, hF⟩ := bnd1_elim hF
 refine aCall_l (w_lists_In k _ _ _ _ h1) (by simp) [] [] [] rfl (.cons (.same (by simp)) (.cons (.same (by simp)) (.cons (.same (by simp)) .nil))) (by simp) (by decide) (by simp) (by simp) (.inl rfl) (by simp) (by simp) ?_
 by_cases h2 : (!v4) = true
 ·replace hF := ite_t h2 hF
  have h2_ := h2
  try simp at h2_
  try simp [h2, h2_]
  repeat' apply And.intro
  any_goals (first | exact hG127 _ (by kernel_rfl) | refine hR127 _ _ _ ?_ | omega | (unfold maxLen; omega) | (simp [h2, h2_]; done) | (simp [h2, h2_]; omega))
  refine AW.wk [(1, AV.ptr 0 0), (23, AV.bool true)] [(0, .cells [AV.int .i64 v0, AV.lst false false (List.map api_Edge.av v1), AV.lst false false (List.map (AV.int .i64) v2)])] 1 (by simp [h2, h2_]) (by simp [h2, h2_]) (by simp) ?_
  refine AW.condT (by decide) (by simp [h2, h2_]) ?_
  refine AW.seqR mixed [] [none] (by kernel_rfl) fun G128 R128 hG128 hR128 => ?_
  try simp [h2, h2_]
  repeat' apply And.intro
  any_goals (first | exact hG128 _ (by kernel_rfl) | refine hR128 _ _ _ ?_ | omega | (unfold maxLen; omega) | (simp [h2, h2_]; done) | (simp [h2, h2_]; omega))
  refine AW.wk [(2, AV.int .i64 14)] [] 1 (by simp [h2, h2_]) (by simp [h2, h2_]) (by simp) ?_
  simp only [Option.some.injEq] at hF
  subst hF
  refine AW.ret (hQ _ _ _ ?_ (matchO_0 ?_)).1
  ·simp [Try.f99, h2, h2_]
  ·simp [h2, h2_]
 ·replace hF := ite_f h2 hF
  have h2_ := h2
  try simp at h2_
  by_cases h3 : 500 < (v1.length : Int)
  ·replace hF := ite_t h3 hF
   have h3_ := h3
   try simp at h3_
   have F1 := And.intro h2 (And.intro h2_ (And.intro h3 h3_))
   try simp [F1]
   repeat' apply And.intro
   any_goals (first | exact hG127 _ (by kernel_rfl) | refine hR127 _ _ _ ?_ | omega | (unfold maxLen; omega) | (simp [F1]; done) | (simp [F1]; omega))
   refine AW.wk [(1, AV.ptr 0 0), (23, AV.bool true)] [(0, .cells [AV.int .i64 v0, AV.lst false false (List.map api_Edge.av v1), AV.lst false false (List.map (AV.int .i64) v2)])] 1 (by simp [F1]) (by simp [F1]) (by simp) ?_
   refine AW.condT (by decide) (by simp [F1]) ?_
   refine AW.seqR mixed [] [none] (by kernel_rfl) fun G129 R129 hG129 hR129 => ?_
   try simp [F1]
   repeat' apply And.intro
   any_goals (first | exact hG129 _ (by kernel_rfl) | refine hR129 _ _ _ ?_ | omega | (unfold maxLen; omega) | (simp [F1]; done) | (simp [F1]; omega))
   refine AW.wk [(2, AV.int .i64 14)] [] 1 (by simp [F1]) (by simp [F1]) (by simp) ?_
   simp only [Option.some.injEq] at hF
   subst hF
   refine AW.ret (hQ _ _ _ ?_ (matchO_0 ?_)).1
   ·simp [Try.f99, F1]
   ·simp [F1]
  ·replace hF := ite_f h3 hF
   have h3_ := h3
   try simp at h3_
   have F2 := And.intro h2 (And.intro h2_ (And.intro h3 h3_))
   try simp [F2]
   repeat' apply And.intro
   try any_goals (first | omega | (unfold maxLen; omega) | (simp [F2]; done))
   obtain ⟨v5, h4, hF⟩ := bnd1_elim hF
   refine aCall_l (w_lists_Rising k _ _ _ _ h4) (by simp) [] [] [] rfl (.cons (.same (by simp [F2])) (.cons (.same (by simp [F2])) (.cons (.same (by simp [F2])) .nil))) (by simp [F2]) (by decide) (by simp) (by simp) (.inl rfl) (by simp) (by simp) ?_
   try simp [F2]
   repeat' apply And.intro
   any_goals (first | exact hG127 _ (by kernel_rfl) | refine hR127 _ _ _ ?_ | omega | (unfold maxLen; omega) | (simp [F2]; done) | (simp [F2]; omega))
   refine AW.wk [(1, AV.ptr 0 0), (23, AV.bool (!v5))] [(0, .cells [AV.int .i64 v0, AV.lst false false (List.map api_Edge.av v1), AV.lst false false (List.map (AV.int .i64) v2)])] 1 (by simp [F2]) (by simp [F2]) (by simp) ?_
   by_cases h5 : (!v5) = true
   ·replace hF := ite_t h5 hF
    have h5_ := h5
    try simp at h5_
    have F3 := And.intro F2 (And.intro h5 h5_)
    refine AW.condT (by decide) (by first | (simp [F3]; done) | (simp [F3]; omega)) ?_
    refine AW.seqR mixed [] [none] (by kernel_rfl) fun G130 R130 hG130 hR130 => ?_
    try simp [F3]
    repeat' apply And.intro
    any_goals (first | exact hG130 _ (by kernel_rfl) | refine hR130 _ _ _ ?_ | omega | (unfold maxLen; omega) | (simp [F3]; done) | (simp [F3]; omega))
    refine AW.wk [(2, AV.int .i64 14)] [] 1 (by simp [F3]) (by simp [F3]) (by simp) ?_
    simp only [Option.some.injEq] at hF
    subst hF
    refine AW.ret (hQ _ _ _ ?_ (matchO_0 ?_)).1
    ·simp [Try.f99, F3]
    ·simp [F3]
   ·replace hF := ite_f h5 hF
    have h5_ := h5
    try simp at h5_
    have F4 := And.intro F2 (And.intro h5 h5_)
    refine AW.condF (by decide) (by first | (simp [F4]; done) | (simp [F4]; omega)) ?_
    refine AW.skip ?_
    refine hK126 _ _ _ ?_
    refine AW.seq fun K185 hK185 => ?_
    refine AW.seqR mixed [] [none, none, none, none] (by kernel_rfl) fun G186 R186 hG186 hR186 => ?_
    try simp [F4]
    repeat' apply And.intro
    any_goals (first | exact hG186 _ (by kernel_rfl) | refine hR186 _ _ _ ?_ | omega | (unfold maxLen; omega) | (simp [F4]; done) | (simp [F4]; omega))
    refine AW.wk [(1, AV.ptr 0 0), (25, AV.lst false false (List.map api_Edge.av v1)), (26, AV.int .i64 (v1.length : Int)), (27, AV.int .i64 0)] [(0, .cells [AV.int .i64 v0, AV.lst false false (List.map api_Edge.av v1), AV.lst false false (List.map (AV.int .i64) v2)])] 1 (by simp [F4]) (by simp [F4]) (by simp) ?_
    refine AW.block ?_
    refine AW.loopF (α := Int) (fun n v6 => graph_Check.L1 k v0 v1 v2 n v6 = some v3) (fun v6 => [(1, AV.ptr 0 0), (25, AV.lst false false (List.map api_Edge.av v1)), (26, AV.int .i64 (v1.length : Int)), (27, AV.int .i64 v6)]) (fun v6 => [(0, .cells [AV.int .i64 v0, AV.lst false false (List.map api_Edge.av v1), AV.lst false false (List.map (AV.int .i64) v2)])]) 1 k (0) hF (by simp [F4]) (by simp [F4]) (by simp) ?_
    rintro (_|n1) v6 hF K225 hK225
    ·try dsimp only at hF
     rw [graph_Check.L1] at hF; cases hF
    try dsimp only at hF
    rw [graph_Check.L1] at hF
    refine AW.seqR mixed [] [none] (by kernel_rfl) fun G226 R226 hG226 hR226 => ?_
    try simp [F4]
    repeat' apply And.intro
    any_goals (first | exact hG226 _ (by kernel_rfl) | refine hR226 _ _ _ ?_ | omega | (unfold maxLen; omega) | (simp [F4]; done) | (simp [F4]; omega))
    refine AW.wk [(1, AV.ptr 0 0), (25, AV.lst false false (List.map api_Edge.av v1)), (26, AV.int .i64 (v1.length : Int)), (27, AV.int .i64 v6), (28, AV.bool (decide (v6 < (v1.length : Int))))] [(0, .cells [AV.int .i64 v0, AV.lst false false (List.map api_Edge.av v1), AV.lst false false (List.map (AV.int .i64) v2)])] 1 (by simp [F4]) (by simp [F4]) (by simp) ?_
    refine AW.seq fun K227 hK227 => ?_
    by_cases h6 : v6 < (v1.length : Int)
    ·replace hF := ite_t h6 hF
     have h6_ := h6
     try simp at h6_
     have F5 := And.intro F4 (And.intro h6 h6_)
     refine AW.condT (by decide) (by first | (simp [F5]; done) | (simp [F5]; omega)) ?_
     refine AW.skip ?_
     refine hK227 _ _ _ ?_
     refine AW.midF (α := Unit) (fun _ => graph_Check.J2 k v6 (fun v6_ => graph_Check.L1 k v0 v1 v2 n1 v6_) = some v3) (fun _ => [(1, AV.ptr 0 0), (25, AV.lst false false (List.map api_Edge.av v1)), (26, AV.int .i64 (v1.length : Int)), (27, AV.int .i64 v6)]) (fun _ => [(0, .cells [AV.int .i64 v0, AV.lst false false (List.map api_Edge.av v1), AV.lst false false (List.map (AV.int .i64) v2)])]) 1 (fun K234 hK234 => ?_) ?_
     ·refine AW.block ?_
      refine AW.seqR mixed [] [none, none, none, none, none, none] (by kernel_rfl) fun G235 R235 hG235 hR235 => ?_
      obtain ⟨v7, h7, h8, h9, hF⟩ := idx_elim hF
      have h9_ := get_of h9
      try simp at h9_
      have h8_ := h8
      try simp at h8_
      have F6 := And.intro F5 (And.intro h7 (And.intro h8 (And.intro h9 (And.intro h9_ h8_))))
      try simp [F6]
      repeat' apply And.intro
      any_goals (first | exact hG235 _ (by kernel_rfl) | refine hR235 _ _ _ ?_ | omega | (unfold maxLen; omega) | (simp [F6]; done) | (simp [F6]; omega))
      refine AW.wk [(1, AV.ptr 0 0), (3, AV.int .i64 v6), (4, AV.ptr 1 0), (25, AV.lst false false (List.map api_Edge.av v1)), (26, AV.int .i64 (v1.length : Int)), (27, AV.int .i64 v6)] [(0, .cells [AV.int .i64 v0, AV.lst false false (List.map api_Edge.av v1), AV.lst false false (List.map (AV.int .i64) v2)]), (1, .cells [AV.int .i64 v7.From, AV.int .i64 v7.To, AV.int .i64 v7.Level])] 2 (by simp [F6]) (by simp [F6]) (by simp) ?_
      refine AW.seqR mixed [] [none, none, none, none, none, some (36, false), some (36, false), some (36, false), some (36, false), none, none, some (42, false), some (42, false), some (42, false), some (45, true), some (45, true), some (45, true), some (45, true), some (45, true), some (45, true), some (45, true), some (45, true), some (45, true), some (42, false), none] (by kernel_rfl) fun G236 R236 hG236 hR236 => ?_
      try simp [F6]
      repeat' apply And.intro
      try any_goals (first | omega | (unfold maxLen; omega) | (simp [F6]; done))
      obtain ⟨v8, h10, hF⟩ := bnd1_elim hF
      refine aCall_l (w_graph_fits k _ _ _ _ _ _ _ h10) (by simp) [] [] [] rfl (.cons (.same (by simp [F6])) (.cons (.same (by simp [F6])) .nil)) (by simp [F6]) (by decide) (by simp) (by simp) (.inl rfl) (by simp) (by simp) ?_
      by_cases h11 : (!v8) = true
      ·replace hF := ite_t h11 hF
       have h11_ := h11
       try simp at h11_
       have F7 := And.intro F6 (And.intro h11 h11_)
       try simp [F7]
       repeat' apply And.intro
       any_goals (first | exact hG236 _ (by kernel_rfl) | refine hR236 _ _ _ ?_ | omega | (unfold maxLen; omega) | (simp [F7]; done) | (simp [F7]; omega))
       refine AW.wk [(1, AV.ptr 0 0), (25, AV.lst false false (List.map api_Edge.av v1)), (26, AV.int .i64 (v1.length : Int)), (27, AV.int .i64 v6), (56, AV.bool true)] [(0, .cells [AV.int .i64 v0, AV.lst false false (List.map api_Edge.av v1), AV.lst false false (List.map (AV.int .i64) v2)])] 2 (by simp [F7]) (by simp [F7]) (by simp) ?_
       refine AW.condT (by decide) (by simp [F7]) ?_
       refine AW.seqR mixed [] [none] (by kernel_rfl) fun G237 R237 hG237 hR237 => ?_
       try simp [F7]
       repeat' apply And.intro
       any_goals (first | exact hG237 _ (by kernel_rfl) | refine hR237 _ _ _ ?_ | omega | (unfold maxLen; omega) | (simp [F7]; done) | (simp [F7]; omega))
       refine AW.wk [(2, AV.int .i64 14)] [] 2 (by simp [F7]) (by simp [F7]) (by simp) ?_
       simp only [Option.some.injEq] at hF
       subst hF
       refine AW.ret (hQ _ _ _ ?_ (matchO_0 ?_)).1
       ·simp [Try.f99, F7]
       ·simp [F7]
      ·replace hF := ite_f h11 hF
       have h11_ := h11
       try simp at h11_
       have F8 := And.intro F6 (And.intro h11 h11_)
       try simp [F8]
       repeat' apply And.intro
       try any_goals (first | omega | (unfold maxLen; omega) | (simp [F8]; done))
       obtain ⟨v9, h12, hF⟩ := bnd1_elim hF
       refine aCall_l (w_lists_In k _ _ _ _ h12) (by simp) [] [] [] rfl (.cons (.same (by simp [F8])) (.cons (.same (by simp [F8])) (.cons (.same (by simp [F8])) .nil))) (by simp [F8]) (by decide) (by simp) (by simp) (.inl rfl) (by simp) (by simp) ?_
       by_cases h13 : (!v9) = true
       ·replace hF := ite_t h13 hF
        have h13_ := h13
        try simp at h13_
        have F9 := And.intro F8 (And.intro h13 h13_)
        try simp [F9]
        repeat' apply And.intro
        any_goals (first | exact hG236 _ (by kernel_rfl) | refine hR236 _ _ _ ?_ | omega | (unfold maxLen; omega) | (simp [F9]; done) | (simp [F9]; omega))
        refine AW.wk [(1, AV.ptr 0 0), (25, AV.lst false false (List.map api_Edge.av v1)), (26, AV.int .i64 (v1.length : Int)), (27, AV.int .i64 v6), (56, AV.bool true)] [(0, .cells [AV.int .i64 v0, AV.lst false false (List.map api_Edge.av v1), AV.lst false false (List.map (AV.int .i64) v2)])] 2 (by simp [F9]) (by simp [F9]) (by simp) ?_
        refine AW.condT (by decide) (by simp [F9]) ?_
        refine AW.seqR mixed [] [none] (by kernel_rfl) fun G238 R238 hG238 hR238 => ?_
        try simp [F9]
        repeat' apply And.intro
        any_goals (first | exact hG238 _ (by kernel_rfl) | refine hR238 _ _ _ ?_ | omega | (unfold maxLen; omega) | (simp [F9]; done) | (simp [F9]; omega))
        refine AW.wk [(2, AV.int .i64 14)] [] 2 (by simp [F9]) (by simp [F9]) (by simp) ?_
        simp only [Option.some.injEq] at hF
        subst hF
        refine AW.ret (hQ _ _ _ ?_ (matchO_0 ?_)).1
        ·simp [Try.f99, F9]
        ·simp [F9]
       ·replace hF := ite_f h13 hF
        have h13_ := h13
        try simp at h13_
        by_cases h14 : 0 < v6
        ·replace hF := ite_t h14 hF
         have h14_ := h14
         try simp at h14_
         obtain ⟨v10, h15, h16, h17, hF⟩ := idx_elim hF
         have h17_ := get_of h17
         try simp at h17_
         have h16_ := h16
         try simp at h16_
         have F10 := And.intro F8 (And.intro h13 (And.intro h13_ (And.intro h14 (And.intro h14_ (And.intro h15 (And.intro h16 (And.intro h17 (And.intro h17_ h16_))))))))
         try simp [F10]
         repeat' apply And.intro
         try any_goals (first | omega | (unfold maxLen; omega) | (simp [F10]; done))
         obtain ⟨v11, h18, hF⟩ := bnd1_elim hF
         refine aCall_l (w_graph_compare k _ _ _ _ _ _ _ h18) (by simp) [] [] [] rfl (.cons (.same (by simp [F10])) (.cons (.same (by simp [F10])) .nil)) (by simp [F10]) (by decide) (by simp) (by simp) (.inl rfl) (by simp) (by simp) ?_
         try simp [F10]
         repeat' apply And.intro
         any_goals (first | exact hG236 _ (by kernel_rfl) | refine hR236 _ _ _ ?_ | omega | (unfold maxLen; omega) | (simp [F10]; done) | (simp [F10]; omega))
         refine AW.wk [(1, AV.ptr 0 0), (25, AV.lst false false (List.map api_Edge.av v1)), (26, AV.int .i64 (v1.length : Int)), (27, AV.int .i64 v6), (56, AV.bool (decide (0 ≤ v11)))] [(0, .cells [AV.int .i64 v0, AV.lst false false (List.map api_Edge.av v1), AV.lst false false (List.map (AV.int .i64) v2)])] 2 (by simp [F10]) (by simp [F10]) (by simp) ?_
         by_cases h19 : 0 ≤ v11
         ·replace hF := ite_t h19 hF
          have h19_ := h19
          try simp at h19_
          have F11 := And.intro F10 (And.intro h19 h19_)
          refine AW.condT (by decide) (by first | (simp [F11]; done) | (simp [F11]; omega)) ?_
          refine AW.seqR mixed [] [none] (by kernel_rfl) fun G239 R239 hG239 hR239 => ?_
          try simp [F11]
          repeat' apply And.intro
          any_goals (first | exact hG239 _ (by kernel_rfl) | refine hR239 _ _ _ ?_ | omega | (unfold maxLen; omega) | (simp [F11]; done) | (simp [F11]; omega))
          refine AW.wk [(2, AV.int .i64 14)] [] 2 (by simp [F11]) (by simp [F11]) (by simp) ?_
          simp only [Option.some.injEq] at hF
          subst hF
          refine AW.ret (hQ _ _ _ ?_ (matchO_0 ?_)).1
          ·simp [Try.f99, F11]
          ·simp [F11]
         ·replace hF := ite_f h19 hF
          have h19_ := h19
          try simp at h19_
          have F12 := And.intro F10 (And.intro h19 h19_)
          refine AW.condF (by decide) (by first | (simp [F12]; done) | (simp [F12]; omega)) ?_
          refine AW.skip ?_
          refine hK234 _ _ _ ?_
          refine Can.ren (m := 0) h0 [(0, 0)] [(1, AV.ptr 0 0), (25, AV.lst false false (List.map api_Edge.av v1)), (26, AV.int .i64 (v1.length : Int)), (27, AV.int .i64 v6)] [(0, .cells [AV.int .i64 v0, AV.lst false false (List.map api_Edge.av v1), AV.lst false false (List.map (AV.int .i64) v2)])] 1 (by decide) (by decide) (by decide) rfl (by simp [F12]) (by simp [F12]) ?_
          exact Can.join (()) hF (by simp [F12]) (by simp [F12]) (by simp)
        ·replace hF := ite_f h14 hF
         have h14_ := h14
         try simp at h14_
         have F13 := And.intro F8 (And.intro h13 (And.intro h13_ (And.intro h14 h14_)))
         try simp [F13]
         repeat' apply And.intro
         any_goals (first | exact hG236 _ (by kernel_rfl) | refine hR236 _ _ _ ?_ | omega | (unfold maxLen; omega) | (simp [F13]; done) | (simp [F13]; omega))
         refine AW.wk [(1, AV.ptr 0 0), (25, AV.lst false false (List.map api_Edge.av v1)), (26, AV.int .i64 (v1.length : Int)), (27, AV.int .i64 v6), (56, AV.bool false)] [(0, .cells [AV.int .i64 v0, AV.lst false false (List.map api_Edge.av v1), AV.lst false false (List.map (AV.int .i64) v2)])] 2 (by simp [F13]) (by simp [F13]) (by simp) ?_
         refine AW.condF (by decide) (by simp [F13]) ?_
         refine AW.skip ?_
         refine hK234 _ _ _ ?_
         refine Can.ren (m := 0) h0 [(0, 0)] [(1, AV.ptr 0 0), (25, AV.lst false false (List.map api_Edge.av v1)), (26, AV.int .i64 (v1.length : Int)), (27, AV.int .i64 v6)] [(0, .cells [AV.int .i64 v0, AV.lst false false (List.map api_Edge.av v1), AV.lst false false (List.map (AV.int .i64) v2)])] 1 (by decide) (by decide) (by decide) rfl (by simp [F13]) (by simp [F13]) ?_
         exact Can.join (()) hF (by simp [F13]) (by simp [F13]) (by simp)
     ·rintro ⟨⟩ hF
      try dsimp only at hF
      unfold graph_Check.J2 at hF
      refine AW.region mixed [] [none, none] (by kernel_rfl) fun G233 R233 hG233 hR233 => ?_
      try simp [F5]
      repeat' apply And.intro
      any_goals (first | exact hG233 _ (by kernel_rfl) | refine hR233 _ _ _ ?_ | omega | (unfold maxLen; omega) | (simp [F5]; done) | (simp [F5]; omega))
      refine hK225 _ _ _ ?_
      refine Can.weak [(1, AV.ptr 0 0), (25, AV.lst false false (List.map api_Edge.av v1)), (26, AV.int .i64 (v1.length : Int)), (27, AV.int .i64 (IntKind.wrap .i64 (v6 + 1)))] [(0, .cells [AV.int .i64 v0, AV.lst false false (List.map api_Edge.av v1), AV.lst false false (List.map (AV.int .i64) v2)])] 1 (by simp [F5]) (by simp [F5]) (by simp) ?_
      exact Can.next (k' := n1) (IntKind.wrap .i64 (v6 + 1)) (by omega) hF (by simp [F5]) (by simp [F5]) (by simp)
    ·replace hF := ite_f h6 hF
     have h6_ := h6
     try simp at h6_
     have F14 := And.intro F4 (And.intro h6 h6_)
     refine AW.condF (by decide) (by first | (simp [F14]; done) | (simp [F14]; omega)) ?_
     refine AW.exit ?_
     try simp
     refine hK185 _ _ _ ?_
     refine AW.seqR mixed [] [none] (by kernel_rfl) fun G240 R240 hG240 hR240 => ?_
     try simp [F14]
     repeat' apply And.intro
     any_goals (first | exact hG240 _ (by kernel_rfl) | refine hR240 _ _ _ ?_ | omega | (unfold maxLen; omega) | (simp [F14]; done) | (simp [F14]; omega))
     refine AW.wk [(2, AV.int .i64 0)] [] 1 (by simp [F14]) (by simp [F14]) (by simp) ?_
     simp only [Option.some.injEq] at hF
     subst hF
     refine AW.ret (hQ _ _ _ ?_ (matchO_0 ?_)).1
     ·simp [Try.f99, F14]
     ·simp [F14]
set_option maxHeartbeats 4000000 in
theorem w_capacity_Check (k : Nat) (v0 : Int) (v1 : (List api_Edge)) (v2 : (List Int)) (v3 : (List Int)) (v4 : (List Int)) (v5 : Int) (v6 : Int) (hF : capacity_Check k v0 v1 v2 v3 v4 v5 = some v6) :
  FCall Try.prog 68 [AV.agg [AV.int .i64 v0, AV.lst false false (List.map api_Edge.av v1), AV.lst false false (List.map (AV.int .i64) v2)], AV.agg [AV.lst false false (List.map (AV.int .i64) v3), AV.lst false false (List.map (AV.int .i64) v4), AV.int .i64 v5]] [] (AV.int .i64 v6) [] := by
 unfold capacity_Check at hF
 refine FCall.enter Try.func68 rfl (by simp) (by decide) (by simp) (by simp) (by simp) (by simp) (by simp) ?_
 intro c0 w0 Q h0 hQ
 refine AW.wk [(0, AV.agg [AV.int .i64 v0, AV.lst false false (List.map api_Edge.av v1), AV.lst false false (List.map (AV.int .i64) v2)]), (1, AV.agg [AV.lst false false (List.map (AV.int .i64) v3), AV.lst false false (List.map (AV.int .i64) v4), AV.int .i64 v5])] [] 0 (by simp) (by simp) (by simp) ?_
 refine AW.seqR mixed [] [none, none, none] (by kernel_rfl) fun G114 R114 hG114 hR114 => ?_
 try simp
 repeat' apply And.intro
 any_goals (first | exact hG114 _ (by kernel_rfl) | refine hR114 _ _ _ ?_ | omega | (unfold maxLen; omega) | (simp; done) | (simp; omega))
 refine AW.wk [(2, AV.ptr 0 0), (3, AV.ptr 1 0)] [(0, .cells [AV.int .i64 v0, AV.lst false false (List.map api_Edge.av v1), AV.lst false false (List.map (AV.int .i64) v2)]), (1, .cells [AV.lst false false (List.map (AV.int .i64) v3), AV.lst false false (List.map (AV.int .i64) v4), AV.int .i64 v5])] 2 (by simp) (by simp) (by simp) ?_
 refine AW.seq fun K118 hK118 => ?_
 refine AW.seqR mixed [] [none, none, none] (by kernel_rfl) fun G119 R119 hG119 hR119 => ?_
 try simp
 repeat' apply And.intro
 try any_goals (first | omega | (unfold maxLen; omega) | (simp; done))
 obtain ⟨v7, h1, hF⟩ := bnd1_elim hF
 refine aCall_l (w_graph_Check k _ _ _ _ h1) (by simp) [] [] [] rfl (.cons (.same (by simp)) .nil) (by simp) (by decide) (by simp) (by simp) (.inl rfl) (by simp) (by simp) ?_
 try simp
 repeat' apply And.intro
 any_goals (first | exact hG119 _ (by kernel_rfl) | refine hR119 _ _ _ ?_ | omega | (unfold maxLen; omega) | (simp; done) | (simp; omega))
 refine AW.wk [(2, AV.ptr 0 0), (3, AV.ptr 1 0), (5, AV.int .i64 v7)] [(0, .cells [AV.int .i64 v0, AV.lst false false (List.map api_Edge.av v1), AV.lst false false (List.map (AV.int .i64) v2)]), (1, .cells [AV.lst false false (List.map (AV.int .i64) v3), AV.lst false false (List.map (AV.int .i64) v4), AV.int .i64 v5])] 2 (by simp) (by simp) (by simp) ?_
 refine AW.seqR mixed [] [none, none] (by kernel_rfl) fun G120 R120 hG120 hR120 => ?_
 try simp
 repeat' apply And.intro
 any_goals (first | exact hG120 _ (by kernel_rfl) | refine hR120 _ _ _ ?_ | omega | (unfold maxLen; omega) | (simp; done) | (simp; omega))
 refine AW.wk [(2, AV.ptr 0 0), (3, AV.ptr 1 0), (5, AV.int .i64 v7), (11, AV.bool (v7 != 0))] [(0, .cells [AV.int .i64 v0, AV.lst false false (List.map api_Edge.av v1), AV.lst false false (List.map (AV.int .i64) v2)]), (1, .cells [AV.lst false false (List.map (AV.int .i64) v3), AV.lst false false (List.map (AV.int .i64) v4), AV.int .i64 v5])] 2 (by simp) (by simp) (by simp) ?_
 by_cases h2 : v7 ≠ 0
 ·replace hF := ite_t h2 hF
  have h2_ := eqb_f h2
  have h2__ := neb_t h2
  have F1 := And.intro h2 (And.intro h2_ h2__)
  refine AW.condT (by decide) (by first | (simp [F1]; done) | (simp [F1]; omega)) ?_
  refine AW.seqR mixed [] [none, none] (by kernel_rfl) fun G121 R121 hG121 hR121 => ?_
  try simp [F1]
  repeat' apply And.intro
  any_goals (first | exact hG121 _ (by kernel_rfl) | refine hR121 _ _ _ ?_ | omega | (unfold maxLen; omega) | (simp [F1]; done) | (simp [F1]; omega))
  refine AW.wk [(4, AV.int .i64 v7)] [] 2 (by simp [F1]) (by simp [F1]) (by simp) ?_
  simp only [Option.some.injEq] at hF
  subst hF
  refine AW.ret (hQ _ _ _ ?_ (matchO_0 ?_)).1
  ·simp [Try.f68, F1]
  ·simp [F1]
 ·replace hF := ite_f h2 hF
  have h2q : v7 = 0 := Classical.not_not.1 h2
  have h2_ := eqb_t h2q
  have h2__ := neb_f h2q
  have F2 := And.intro h2_ (And.intro h2__ h2q)
  refine AW.condF (by decide) (by first | (simp [F2]; done) | (simp [F2]; omega)) ?_
  refine AW.skip ?_
  refine hK118 _ _ _ ?_
  refine AW.seq fun K127 hK127 => ?_
  refine AW.seqR mixed [] [none, none, none, none, none, some (17, false), some (17, false), some (17, false), some (17, false), some (17, false), some (17, false), some (17, false), none, none, some (26, false), some (26, false), some (26, false), some (26, false), some (26, false), none, none, some (33, false), some (33, false), some (33, false), some (33, false), none] (by kernel_rfl) fun G128 R128 hG128 hR128 => ?_
  by_cases h3 : (v3.length : Int) = 0
  ·replace hF := ite_t h3 hF
   have h3q : (v3.length : Int) = 0 := h3
   have h3_ := eqb_t h3q
   have h3__ := neb_f h3q
   have F3 := And.intro F2 (And.intro h3_ (And.intro h3__ h3q))
   try simp [F3]
   repeat' apply And.intro
   any_goals (first | exact hG128 _ (by kernel_rfl) | refine hR128 _ _ _ ?_ | omega | (unfold maxLen; omega) | (simp [F3]; done) | (simp [F3]; omega))
   refine AW.wk [(3, AV.ptr 1 0), (38, AV.bool true)] [(1, .cells [AV.lst false false (List.map (AV.int .i64) v3), AV.lst false false (List.map (AV.int .i64) v4), AV.int .i64 v5])] 2 (by simp [F3]) (by simp [F3]) (by simp) ?_
   refine AW.condT (by decide) (by simp [F3]) ?_
   refine AW.seqR mixed [] [none] (by kernel_rfl) fun G129 R129 hG129 hR129 => ?_
   try simp [F3]
   repeat' apply And.intro
   any_goals (first | exact hG129 _ (by kernel_rfl) | refine hR129 _ _ _ ?_ | omega | (unfold maxLen; omega) | (simp [F3]; done) | (simp [F3]; omega))
   refine AW.wk [(4, AV.int .i64 15)] [] 2 (by simp [F3]) (by simp [F3]) (by simp) ?_
   simp only [Option.some.injEq] at hF
   subst hF
   refine AW.ret (hQ _ _ _ ?_ (matchO_0 ?_)).1
   ·simp [Try.f68, F3]
   ·simp [F3]
  ·replace hF := ite_f h3 hF
   have h3_ := eqb_f h3
   have h3__ := neb_t h3
   have F4 := And.intro F2 (And.intro h3 (And.intro h3_ h3__))
   try simp [F4]
   repeat' apply And.intro
   try any_goals (first | omega | (unfold maxLen; omega) | (simp [F4]; done))
   obtain ⟨v8, h4, hF⟩ := bnd1_elim hF
   refine aCall_l (w_lists_Rising k _ _ _ _ h4) (by simp) [] [] [] rfl (.cons (.same (by simp [F4])) (.cons (.same (by simp [F4])) (.cons (.same (by simp [F4])) .nil))) (by simp [F4]) (by decide) (by simp) (by simp) (.inl rfl) (by simp) (by simp) ?_
   by_cases h5 : (!v8) = true
   ·replace hF := ite_t h5 hF
    have h5_ := h5
    try simp at h5_
    have F5 := And.intro F4 (And.intro h5 h5_)
    try simp [F5]
    repeat' apply And.intro
    any_goals (first | exact hG128 _ (by kernel_rfl) | refine hR128 _ _ _ ?_ | omega | (unfold maxLen; omega) | (simp [F5]; done) | (simp [F5]; omega))
    refine AW.wk [(3, AV.ptr 1 0), (38, AV.bool true)] [(1, .cells [AV.lst false false (List.map (AV.int .i64) v3), AV.lst false false (List.map (AV.int .i64) v4), AV.int .i64 v5])] 2 (by simp [F5]) (by simp [F5]) (by simp) ?_
    refine AW.condT (by decide) (by simp [F5]) ?_
    refine AW.seqR mixed [] [none] (by kernel_rfl) fun G130 R130 hG130 hR130 => ?_
    try simp [F5]
    repeat' apply And.intro
    any_goals (first | exact hG130 _ (by kernel_rfl) | refine hR130 _ _ _ ?_ | omega | (unfold maxLen; omega) | (simp [F5]; done) | (simp [F5]; omega))
    refine AW.wk [(4, AV.int .i64 15)] [] 2 (by simp [F5]) (by simp [F5]) (by simp) ?_
    simp only [Option.some.injEq] at hF
    subst hF
    refine AW.ret (hQ _ _ _ ?_ (matchO_0 ?_)).1
    ·simp [Try.f68, F5]
    ·simp [F5]
   ·replace hF := ite_f h5 hF
    have h5_ := h5
    try simp at h5_
    have F6 := And.intro F4 (And.intro h5 h5_)
    try simp [F6]
    repeat' apply And.intro
    try any_goals (first | omega | (unfold maxLen; omega) | (simp [F6]; done))
    obtain ⟨v9, h6, hF⟩ := bnd1_elim hF
    refine aCall_l (w_lists_In k _ _ _ _ h6) (by simp) [] [] [] rfl (.cons (.same (by simp [F6])) (.cons (.same (by simp [F6])) (.cons (.same (by simp [F6])) .nil))) (by simp [F6]) (by decide) (by simp) (by simp) (.inl rfl) (by simp) (by simp) ?_
    by_cases h7 : (!v9) = true
    ·replace hF := ite_t h7 hF
     have h7_ := h7
     try simp at h7_
     have F7 := And.intro F6 (And.intro h7 h7_)
     try simp [F7]
     repeat' apply And.intro
     any_goals (first | exact hG128 _ (by kernel_rfl) | refine hR128 _ _ _ ?_ | omega | (unfold maxLen; omega) | (simp [F7]; done) | (simp [F7]; omega))
     refine AW.wk [(3, AV.ptr 1 0), (38, AV.bool true)] [(1, .cells [AV.lst false false (List.map (AV.int .i64) v3), AV.lst false false (List.map (AV.int .i64) v4), AV.int .i64 v5])] 2 (by simp [F7]) (by simp [F7]) (by simp) ?_
     refine AW.condT (by decide) (by simp [F7]) ?_
     refine AW.seqR mixed [] [none] (by kernel_rfl) fun G131 R131 hG131 hR131 => ?_
     try simp [F7]
     repeat' apply And.intro
     any_goals (first | exact hG131 _ (by kernel_rfl) | refine hR131 _ _ _ ?_ | omega | (unfold maxLen; omega) | (simp [F7]; done) | (simp [F7]; omega))
     refine AW.wk [(4, AV.int .i64 15)] [] 2 (by simp [F7]) (by simp [F7]) (by simp) ?_
     simp only [Option.some.injEq] at hF
     subst hF
     refine AW.ret (hQ _ _ _ ?_ (matchO_0 ?_)).1
     ·simp [Try.f68, F7]
     ·simp [F7]
    ·replace hF := ite_f h7 hF
     have h7_ := h7
     try simp at h7_
     have F8 := And.intro F6 (And.intro h7 h7_)
     try simp [F8]
     repeat' apply And.intro
     try any_goals (first | omega | (unfold maxLen; omega) | (simp [F8]; done))
     obtain ⟨v10, h8, hF⟩ := bnd1_elim hF
     refine aCall_l (w_lists_In k _ _ _ _ h8) (by simp) [] [] [] rfl (.cons (.same (by simp [F8])) (.cons (.same (by simp [F8])) (.cons (.same (by simp [F8])) .nil))) (by simp [F8]) (by decide) (by simp) (by simp) (.inl rfl) (by simp) (by simp) ?_
     try simp [F8]
     repeat' apply And.intro
     any_goals (first | exact hG128 _ (by kernel_rfl) | refine hR128 _ _ _ ?_ | omega | (unfold maxLen; omega) | (simp [F8]; done) | (simp [F8]; omega))
     refine AW.wk [(3, AV.ptr 1 0), (38, AV.bool (!v10))] [(1, .cells [AV.lst false false (List.map (AV.int .i64) v3), AV.lst false false (List.map (AV.int .i64) v4), AV.int .i64 v5])] 2 (by simp [F8]) (by simp [F8]) (by simp) ?_
     by_cases h9 : (!v10) = true
     ·replace hF := ite_t h9 hF
      have h9_ := h9
      try simp at h9_
      have F9 := And.intro F8 (And.intro h9 h9_)
      refine AW.condT (by decide) (by first | (simp [F9]; done) | (simp [F9]; omega)) ?_
      refine AW.seqR mixed [] [none] (by kernel_rfl) fun G132 R132 hG132 hR132 => ?_
      try simp [F9]
      repeat' apply And.intro
      any_goals (first | exact hG132 _ (by kernel_rfl) | refine hR132 _ _ _ ?_ | omega | (unfold maxLen; omega) | (simp [F9]; done) | (simp [F9]; omega))
      refine AW.wk [(4, AV.int .i64 15)] [] 2 (by simp [F9]) (by simp [F9]) (by simp) ?_
      simp only [Option.some.injEq] at hF
      subst hF
      refine AW.ret (hQ _ _ _ ?_ (matchO_0 ?_)).1
      ·simp [Try.f68, F9]
      ·simp [F9]
     ·replace hF := ite_f h9 hF
      have h9_ := h9
      try simp at h9_
      have F10 := And.intro F8 (And.intro h9 h9_)
      refine AW.condF (by decide) (by first | (simp [F10]; done) | (simp [F10]; omega)) ?_
      refine AW.skip ?_
      refine hK127 _ _ _ ?_
      refine AW.seq fun K179 hK179 => ?_
      refine AW.seqR mixed [] [none, none, none, none] (by kernel_rfl) fun G180 R180 hG180 hR180 => ?_
      try simp [F10]
      repeat' apply And.intro
      any_goals (first | exact hG180 _ (by kernel_rfl) | refine hR180 _ _ _ ?_ | omega | (unfold maxLen; omega) | (simp [F10]; done) | (simp [F10]; omega))
      refine AW.wk [(3, AV.ptr 1 0), (40, AV.lst false false (List.map (AV.int .i64) v4)), (41, AV.int .i64 (v4.length : Int)), (42, AV.int .i64 0)] [(1, .cells [AV.lst false false (List.map (AV.int .i64) v3), AV.lst false false (List.map (AV.int .i64) v4), AV.int .i64 v5])] 2 (by simp [F10]) (by simp [F10]) (by simp) ?_
      refine AW.block ?_
      refine AW.rnm (m := 0) h0 [(0, 1)] [(3, AV.ptr 0 0), (40, AV.lst false false (List.map (AV.int .i64) v4)), (41, AV.int .i64 (v4.length : Int)), (42, AV.int .i64 0)] [(0, .cells [AV.lst false false (List.map (AV.int .i64) v3), AV.lst false false (List.map (AV.int .i64) v4), AV.int .i64 v5])] 1 (by decide) (by decide) (by decide) rfl (by simp [F10]) (by simp [F10]) ?_
      refine AW.loopF (α := Int) (fun n v11 => capacity_Check.L1 k v4 n v11 = some v6) (fun v11 => [(3, AV.ptr 0 0), (40, AV.lst false false (List.map (AV.int .i64) v4)), (41, AV.int .i64 (v4.length : Int)), (42, AV.int .i64 v11)]) (fun v11 => [(0, .cells [AV.lst false false (List.map (AV.int .i64) v3), AV.lst false false (List.map (AV.int .i64) v4), AV.int .i64 v5])]) 1 k (0) hF (by simp [F10]) (by simp [F10]) (by simp) ?_
      rintro (_|n1) v11 hF K213 hK213
      ·try dsimp only at hF
       rw [capacity_Check.L1] at hF; cases hF
      try dsimp only at hF
      rw [capacity_Check.L1] at hF
      refine AW.seqR mixed [] [none] (by kernel_rfl) fun G214 R214 hG214 hR214 => ?_
      try simp [F10]
      repeat' apply And.intro
      any_goals (first | exact hG214 _ (by kernel_rfl) | refine hR214 _ _ _ ?_ | omega | (unfold maxLen; omega) | (simp [F10]; done) | (simp [F10]; omega))
      refine AW.wk [(3, AV.ptr 0 0), (40, AV.lst false false (List.map (AV.int .i64) v4)), (41, AV.int .i64 (v4.length : Int)), (42, AV.int .i64 v11), (43, AV.bool (decide (v11 < (v4.length : Int))))] [(0, .cells [AV.lst false false (List.map (AV.int .i64) v3), AV.lst false false (List.map (AV.int .i64) v4), AV.int .i64 v5])] 1 (by simp [F10]) (by simp [F10]) (by simp) ?_
      refine AW.seq fun K215 hK215 => ?_
      by_cases h10 : v11 < (v4.length : Int)
      ·replace hF := ite_t h10 hF
       have h10_ := h10
       try simp at h10_
       have F11 := And.intro F10 (And.intro h10 h10_)
       refine AW.condT (by decide) (by first | (simp [F11]; done) | (simp [F11]; omega)) ?_
       refine AW.skip ?_
       refine hK215 _ _ _ ?_
       refine AW.midF (α := Unit) (fun _ => capacity_Check.J2 k v11 (fun v11_ => capacity_Check.L1 k v4 n1 v11_) = some v6) (fun _ => [(3, AV.ptr 0 0), (40, AV.lst false false (List.map (AV.int .i64) v4)), (41, AV.int .i64 (v4.length : Int)), (42, AV.int .i64 v11)]) (fun _ => [(0, .cells [AV.lst false false (List.map (AV.int .i64) v3), AV.lst false false (List.map (AV.int .i64) v4), AV.int .i64 v5])]) 1 (fun K221 hK221 => ?_) ?_
       ·refine AW.block ?_
        refine AW.seqR mixed [] [none, none, none, none, none] (by kernel_rfl) fun G222 R222 hG222 hR222 => ?_
        obtain ⟨v12, h11, h12, h13, hF⟩ := idx_elim hF
        have h13_ := get_of h13
        try simp at h13_
        have h12_ := h12
        try simp at h12_
        have F12 := And.intro F11 (And.intro h11 (And.intro h12 (And.intro h13 (And.intro h13_ h12_))))
        try simp [F12]
        repeat' apply And.intro
        any_goals (first | exact hG222 _ (by kernel_rfl) | refine hR222 _ _ _ ?_ | omega | (unfold maxLen; omega) | (simp [F12]; done) | (simp [F12]; omega))
        refine AW.wk [(3, AV.ptr 0 0), (6, AV.int .i64 v11), (7, AV.int .i64 v12), (40, AV.lst false false (List.map (AV.int .i64) v4)), (41, AV.int .i64 (v4.length : Int)), (42, AV.int .i64 v11)] [(0, .cells [AV.lst false false (List.map (AV.int .i64) v3), AV.lst false false (List.map (AV.int .i64) v4), AV.int .i64 v5])] 1 (by simp [F12]) (by simp [F12]) (by simp) ?_
        refine AW.seqR mixed [] [none, none, none, none, some (50, false), some (50, false), some (50, false), some (53, true), some (53, true), some (53, true), some (53, true), some (53, true), some (53, true), some (53, true), some (53, true), some (50, false), none] (by kernel_rfl) fun G223 R223 hG223 hR223 => ?_
        try simp [F12]
        repeat' apply And.intro
        try any_goals (first | omega | (unfold maxLen; omega) | (simp [F12]; done))
        obtain ⟨v13, h14, hF⟩ := bnd1_elim hF
        refine aCall_l (w_lists_In k _ _ _ _ h14) (by simp) [] [] [] rfl (.cons (.same (by simp [F12])) (.cons (.same (by simp [F12])) (.cons (.same (by simp [F12])) .nil))) (by simp [F12]) (by decide) (by simp) (by simp) (.inl rfl) (by simp) (by simp) ?_
        by_cases h15 : (!v13) = true
        ·replace hF := ite_t h15 hF
         have h15_ := h15
         try simp at h15_
         have F13 := And.intro F12 (And.intro h15 h15_)
         try simp [F13]
         repeat' apply And.intro
         any_goals (first | exact hG223 _ (by kernel_rfl) | refine hR223 _ _ _ ?_ | omega | (unfold maxLen; omega) | (simp [F13]; done) | (simp [F13]; omega))
         refine AW.wk [(3, AV.ptr 0 0), (40, AV.lst false false (List.map (AV.int .i64) v4)), (41, AV.int .i64 (v4.length : Int)), (42, AV.int .i64 v11), (63, AV.bool true)] [(0, .cells [AV.lst false false (List.map (AV.int .i64) v3), AV.lst false false (List.map (AV.int .i64) v4), AV.int .i64 v5])] 1 (by simp [F13]) (by simp [F13]) (by simp) ?_
         refine AW.condT (by decide) (by simp [F13]) ?_
         refine AW.seqR mixed [] [none] (by kernel_rfl) fun G224 R224 hG224 hR224 => ?_
         try simp [F13]
         repeat' apply And.intro
         any_goals (first | exact hG224 _ (by kernel_rfl) | refine hR224 _ _ _ ?_ | omega | (unfold maxLen; omega) | (simp [F13]; done) | (simp [F13]; omega))
         refine AW.wk [(4, AV.int .i64 15)] [] 1 (by simp [F13]) (by simp [F13]) (by simp) ?_
         simp only [Option.some.injEq] at hF
         subst hF
         refine AW.ret (hQ _ _ _ ?_ (matchO_0 ?_)).1
         ·simp [Try.f68, F13]
         ·simp [F13]
        ·replace hF := ite_f h15 hF
         have h15_ := h15
         try simp at h15_
         by_cases h16 : 0 < v11
         ·replace hF := ite_t h16 hF
          have h16_ := h16
          try simp at h16_
          obtain ⟨v14, h17, h18, h19, hF⟩ := idx_elim hF
          have h19_ := get_of h19
          try simp at h19_
          have h18_ := h18
          try simp at h18_
          have F14 := And.intro F12 (And.intro h15 (And.intro h15_ (And.intro h16 (And.intro h16_ (And.intro h17 (And.intro h18 (And.intro h19 (And.intro h19_ h18_))))))))
          try simp [F14]
          repeat' apply And.intro
          any_goals (first | exact hG223 _ (by kernel_rfl) | refine hR223 _ _ _ ?_ | omega | (unfold maxLen; omega) | (simp [F14]; done) | (simp [F14]; omega))
          refine AW.wk [(3, AV.ptr 0 0), (40, AV.lst false false (List.map (AV.int .i64) v4)), (41, AV.int .i64 (v4.length : Int)), (42, AV.int .i64 v11), (63, AV.bool (decide (v14 < v12)))] [(0, .cells [AV.lst false false (List.map (AV.int .i64) v3), AV.lst false false (List.map (AV.int .i64) v4), AV.int .i64 v5])] 1 (by simp [F14]) (by simp [F14]) (by simp) ?_
          by_cases h20 : v14 < v12
          ·replace hF := ite_t h20 hF
           have h20_ := h20
           try simp at h20_
           have F15 := And.intro F14 (And.intro h20 h20_)
           refine AW.condT (by decide) (by first | (simp [F15]; done) | (simp [F15]; omega)) ?_
           refine AW.seqR mixed [] [none] (by kernel_rfl) fun G225 R225 hG225 hR225 => ?_
           try simp [F15]
           repeat' apply And.intro
           any_goals (first | exact hG225 _ (by kernel_rfl) | refine hR225 _ _ _ ?_ | omega | (unfold maxLen; omega) | (simp [F15]; done) | (simp [F15]; omega))
           refine AW.wk [(4, AV.int .i64 15)] [] 1 (by simp [F15]) (by simp [F15]) (by simp) ?_
           simp only [Option.some.injEq] at hF
           subst hF
           refine AW.ret (hQ _ _ _ ?_ (matchO_0 ?_)).1
           ·simp [Try.f68, F15]
           ·simp [F15]
          ·replace hF := ite_f h20 hF
           have h20_ := h20
           try simp at h20_
           have F16 := And.intro F14 (And.intro h20 h20_)
           refine AW.condF (by decide) (by first | (simp [F16]; done) | (simp [F16]; omega)) ?_
           refine AW.skip ?_
           refine hK221 _ _ _ ?_
           exact Can.join (()) hF (by simp [F16]) (by simp [F16]) (by simp)
         ·replace hF := ite_f h16 hF
          have h16_ := h16
          try simp at h16_
          have F17 := And.intro F12 (And.intro h15 (And.intro h15_ (And.intro h16 h16_)))
          try simp [F17]
          repeat' apply And.intro
          any_goals (first | exact hG223 _ (by kernel_rfl) | refine hR223 _ _ _ ?_ | omega | (unfold maxLen; omega) | (simp [F17]; done) | (simp [F17]; omega))
          refine AW.wk [(3, AV.ptr 0 0), (40, AV.lst false false (List.map (AV.int .i64) v4)), (41, AV.int .i64 (v4.length : Int)), (42, AV.int .i64 v11), (63, AV.bool false)] [(0, .cells [AV.lst false false (List.map (AV.int .i64) v3), AV.lst false false (List.map (AV.int .i64) v4), AV.int .i64 v5])] 1 (by simp [F17]) (by simp [F17]) (by simp) ?_
          refine AW.condF (by decide) (by simp [F17]) ?_
          refine AW.skip ?_
          refine hK221 _ _ _ ?_
          exact Can.join (()) hF (by simp [F17]) (by simp [F17]) (by simp)
       ·rintro ⟨⟩ hF
        try dsimp only at hF
        unfold capacity_Check.J2 at hF
        refine AW.region mixed [] [none, none] (by kernel_rfl) fun G220 R220 hG220 hR220 => ?_
        try simp [F11]
        repeat' apply And.intro
        any_goals (first | exact hG220 _ (by kernel_rfl) | refine hR220 _ _ _ ?_ | omega | (unfold maxLen; omega) | (simp [F11]; done) | (simp [F11]; omega))
        refine hK213 _ _ _ ?_
        refine Can.weak [(3, AV.ptr 0 0), (40, AV.lst false false (List.map (AV.int .i64) v4)), (41, AV.int .i64 (v4.length : Int)), (42, AV.int .i64 (IntKind.wrap .i64 (v11 + 1)))] [(0, .cells [AV.lst false false (List.map (AV.int .i64) v3), AV.lst false false (List.map (AV.int .i64) v4), AV.int .i64 v5])] 1 (by simp [F11]) (by simp [F11]) (by simp) ?_
        exact Can.next (k' := n1) (IntKind.wrap .i64 (v11 + 1)) (by omega) hF (by simp [F11]) (by simp [F11]) (by simp)
      ·replace hF := ite_f h10 hF
       have h10_ := h10
       try simp at h10_
       have F18 := And.intro F10 (And.intro h10 h10_)
       refine AW.condF (by decide) (by first | (simp [F18]; done) | (simp [F18]; omega)) ?_
       refine AW.exit ?_
       try simp
       refine hK179 _ _ _ ?_
       refine AW.seqR mixed [] [none] (by kernel_rfl) fun G226 R226 hG226 hR226 => ?_
       try simp [F18]
       repeat' apply And.intro
       any_goals (first | exact hG226 _ (by kernel_rfl) | refine hR226 _ _ _ ?_ | omega | (unfold maxLen; omega) | (simp [F18]; done) | (simp [F18]; omega))
       refine AW.wk [(4, AV.int .i64 0)] [] 1 (by simp [F18]) (by simp [F18]) (by simp) ?_
       simp only [Option.some.injEq] at hF
       subst hF
       refine AW.ret (hQ _ _ _ ?_ (matchO_0 ?_)).1
       ·simp [Try.f68, F18]
       ·simp [F18]
end Go.TF
