/- Walks: the Go text computes the Lean functions (printed by a program of our own). -/
import Derived.Test.YtepdfenlkeaefaaJPu
import Derived.Test.YtepdfenlkeaefaaJAbsT
import Derived.Test.YtepdfenlkeaefaaJWa0
import Derived.Test.YtepdfenlkeaefaaJWa1
import Derived.Test.YtepdfenlkeaefaaJWa2
set_option linter.unusedVariables false
set_option linter.unusedSimpArgs false
set_option maxRecDepth 100000
namespace Go.TF
open Go Go.Abs Go.Proofs Go.Proofs.YtepdfenlkeaefaaJT
set_option maxHeartbeats 4000000 in
theorem w_roster_Check (k : Nat) (v0 : (List Int)) (v1 : (List Int)) (v2 : (List Int)) (v3 : Int) (v4 : Int) (v5 : Int) (v6 : Int) (v7 : Int) (hF : roster_Check k v0 v1 v2 v3 v4 v5 v6 = some v7) :
  FCall Try.prog 20 [AV.agg [AV.lst false false (List.map (AV.int .i64) v0), AV.lst false false (List.map (AV.int .i64) v1), AV.lst false false (List.map (AV.int .i64) v2), AV.int .i64 v3, AV.int .i64 v4, AV.int .i64 v5, AV.int .i64 v6]] [] (AV.int .i64 v7) [] := by
 unfold roster_Check at hF
 refine FCall.enter Try.func20 rfl (by simp) (by decide) (by simp) (by simp) (by simp) (by simp) (by simp) ?_
 intro c0 w0 Q h0 hQ
 refine AW.wk [(0, AV.agg [AV.lst false false (List.map (AV.int .i64) v0), AV.lst false false (List.map (AV.int .i64) v1), AV.lst false false (List.map (AV.int .i64) v2), AV.int .i64 v3, AV.int .i64 v4, AV.int .i64 v5, AV.int .i64 v6])] [] 0 (by simp) (by simp) (by simp) ?_
 refine AW.seqR mixed [] [none, none] (by kernel_rfl) fun G30 R30 hG30 hR30 => ?_
 try simp
 repeat' apply And.intro
 any_goals (first | exact hG30 _ (by kernel_rfl) | refine hR30 _ _ _ ?_ | omega | (unfold maxLen; omega) | (simp; done) | (simp; omega))
 refine AW.wk [(1, AV.ptr 0 0)] [(0, .cells [AV.lst false false (List.map (AV.int .i64) v0), AV.lst false false (List.map (AV.int .i64) v1), AV.lst false false (List.map (AV.int .i64) v2), AV.int .i64 v3, AV.int .i64 v4, AV.int .i64 v5, AV.int .i64 v6])] 1 (by simp) (by simp) (by simp) ?_
 refine AW.seq fun K33 hK33 => ?_
 refine AW.seqR mixed [] [none, none, none, none] (by kernel_rfl) fun G34 R34 hG34 hR34 => ?_
 try simp
 repeat' apply And.intro
 try any_goals (first | omega | (unfold maxLen; omega) | (simp; done))
 obtain ⟨v8, h1, hF⟩ := bnd1_elim hF
 refine aCall_l (w_roster_Valid k _ _ h1) (by simp) [] [] [] rfl (.cons (.same (by simp)) .nil) (by simp) (by decide) (by simp) (by simp) (.inl rfl) (by simp) (by simp) ?_
 try simp
 repeat' apply And.intro
 any_goals (first | exact hG34 _ (by kernel_rfl) | refine hR34 _ _ _ ?_ | omega | (unfold maxLen; omega) | (simp; done) | (simp; omega))
 refine AW.wk [(1, AV.ptr 0 0), (7, AV.bool (!v8))] [(0, .cells [AV.lst false false (List.map (AV.int .i64) v0), AV.lst false false (List.map (AV.int .i64) v1), AV.lst false false (List.map (AV.int .i64) v2), AV.int .i64 v3, AV.int .i64 v4, AV.int .i64 v5, AV.int .i64 v6])] 1 (by simp) (by simp) (by simp) ?_
 by_cases h2 : (!v8) = true
 ·replace hF := ite_t h2 hF
  have h2_ := h2
  try simp at h2_
  refine AW.condT (by decide) (by first | (simp [h2, h2_]; done) | (simp [h2, h2_]; omega)) ?_
  refine AW.seqR mixed [] [none] (by kernel_rfl) fun G35 R35 hG35 hR35 => ?_
  try simp [h2, h2_]
  repeat' apply And.intro
  any_goals (first | exact hG35 _ (by kernel_rfl) | refine hR35 _ _ _ ?_ | omega | (unfold maxLen; omega) | (simp [h2, h2_]; done) | (simp [h2, h2_]; omega))
  refine AW.wk [(2, AV.int .i64 43)] [] 1 (by simp [h2, h2_]) (by simp [h2, h2_]) (by simp) ?_
  simp only [Option.some.injEq] at hF
  subst hF
  refine AW.ret (hQ _ _ _ ?_ (matchO_0 ?_)).1
  ·simp [Try.f20, h2, h2_]
  ·simp [h2, h2_]
 ·replace hF := ite_f h2 hF
  have h2_ := h2
  try simp at h2_
  refine AW.condF (by decide) (by first | (simp [h2, h2_]; done) | (simp [h2, h2_]; omega)) ?_
  refine AW.skip ?_
  refine hK33 _ _ _ ?_
  refine AW.seq fun K39 hK39 => ?_
  refine AW.seqR mixed [] [none, none, none, none, none] (by kernel_rfl) fun G40 R40 hG40 hR40 => ?_
  try simp [h2, h2_]
  repeat' apply And.intro
  try any_goals (first | omega | (unfold maxLen; omega) | (simp [h2, h2_]; done))
  obtain ⟨v9, h3, hF⟩ := bnd1_elim hF
  refine aCall_l (w_capacity_Check k _ _ _ _ _ _ _ h3) (by simp) [] [] [] rfl (.cons (.agg (.cons (.same (by simp [h2, h2_])) (.cons (Coe.fl (by simp [h2, h2_])) (.cons (Coe.fl (by simp [h2, h2_])) .nil)))) (.cons (.same (by simp [h2, h2_])) .nil)) (by simp [h2, h2_]) (by decide) (by simp) (by simp) (.inl rfl) (by simp) (by simp) ?_
  try simp [h2, h2_]
  repeat' apply And.intro
  any_goals (first | exact hG40 _ (by kernel_rfl) | refine hR40 _ _ _ ?_ | omega | (unfold maxLen; omega) | (simp [h2, h2_]; done) | (simp [h2, h2_]; omega))
  refine AW.wk [(1, AV.ptr 0 0), (3, AV.int .i64 v9)] [(0, .cells [AV.lst false false (List.map (AV.int .i64) v0), AV.lst false false (List.map (AV.int .i64) v1), AV.lst false false (List.map (AV.int .i64) v2), AV.int .i64 v3, AV.int .i64 v4, AV.int .i64 v5, AV.int .i64 v6])] 1 (by simp [h2, h2_]) (by simp [h2, h2_]) (by simp) ?_
  refine AW.seqR mixed [] [none, none] (by kernel_rfl) fun G41 R41 hG41 hR41 => ?_
  try simp [h2, h2_]
  repeat' apply And.intro
  any_goals (first | exact hG41 _ (by kernel_rfl) | refine hR41 _ _ _ ?_ | omega | (unfold maxLen; omega) | (simp [h2, h2_]; done) | (simp [h2, h2_]; omega))
  refine AW.wk [(1, AV.ptr 0 0), (3, AV.int .i64 v9), (13, AV.bool (v9 != 0))] [(0, .cells [AV.lst false false (List.map (AV.int .i64) v0), AV.lst false false (List.map (AV.int .i64) v1), AV.lst false false (List.map (AV.int .i64) v2), AV.int .i64 v3, AV.int .i64 v4, AV.int .i64 v5, AV.int .i64 v6])] 1 (by simp [h2, h2_]) (by simp [h2, h2_]) (by simp) ?_
  by_cases h4 : v9 ≠ 0
  ·replace hF := ite_t h4 hF
   have h4_ := eqb_f h4
   have h4__ := neb_t h4
   have F1 := And.intro h2 (And.intro h2_ (And.intro h4 (And.intro h4_ h4__)))
   refine AW.condT (by decide) (by first | (simp [F1]; done) | (simp [F1]; omega)) ?_
   refine AW.seqR mixed [] [none, none] (by kernel_rfl) fun G42 R42 hG42 hR42 => ?_
   try simp [F1]
   repeat' apply And.intro
   any_goals (first | exact hG42 _ (by kernel_rfl) | refine hR42 _ _ _ ?_ | omega | (unfold maxLen; omega) | (simp [F1]; done) | (simp [F1]; omega))
   refine AW.wk [(2, AV.int .i64 v9)] [] 1 (by simp [F1]) (by simp [F1]) (by simp) ?_
   simp only [Option.some.injEq] at hF
   subst hF
   refine AW.ret (hQ _ _ _ ?_ (matchO_0 ?_)).1
   ·simp [Try.f20, F1]
   ·simp [F1]
  ·replace hF := ite_f h4 hF
   have h4q : v9 = 0 := Classical.not_not.1 h4
   have h4_ := eqb_t h4q
   have h4__ := neb_f h4q
   have F2 := And.intro h2 (And.intro h2_ (And.intro h4_ (And.intro h4__ h4q)))
   refine AW.condF (by decide) (by first | (simp [F2]; done) | (simp [F2]; omega)) ?_
   refine AW.skip ?_
   refine hK39 _ _ _ ?_
   refine AW.seq fun K50 hK50 => ?_
   refine AW.seqR mixed [] [none, none, none, none, some (18, false), some (18, false), some (18, false), none, none, some (23, false), some (23, false), some (23, false), none, none, some (28, false), some (28, false), some (28, false), none, none, some (33, false), some (33, false), some (33, false), none, none, some (38, false), some (38, false), some (38, false), none] (by kernel_rfl) fun G51 R51 hG51 hR51 => ?_
   by_cases h5 : v4 < 1
   ·replace hF := ite_t h5 hF
    have h5_ := h5
    try simp at h5_
    have F3 := And.intro F2 (And.intro h5 h5_)
    try simp [F3]
    repeat' apply And.intro
    any_goals (first | exact hG51 _ (by kernel_rfl) | refine hR51 _ _ _ ?_ | omega | (unfold maxLen; omega) | (simp [F3]; done) | (simp [F3]; omega))
    refine AW.wk [(42, AV.bool true)] [] 1 (by simp [F3]) (by simp [F3]) (by simp) ?_
    refine AW.condT (by decide) (by simp [F3]) ?_
    refine AW.seqR mixed [] [none] (by kernel_rfl) fun G52 R52 hG52 hR52 => ?_
    try simp [F3]
    repeat' apply And.intro
    any_goals (first | exact hG52 _ (by kernel_rfl) | refine hR52 _ _ _ ?_ | omega | (unfold maxLen; omega) | (simp [F3]; done) | (simp [F3]; omega))
    refine AW.wk [(2, AV.int .i64 40)] [] 1 (by simp [F3]) (by simp [F3]) (by simp) ?_
    simp only [Option.some.injEq] at hF
    subst hF
    refine AW.ret (hQ _ _ _ ?_ (matchO_0 ?_)).1
    ·simp [Try.f20, F3]
    ·simp [F3]
   ·replace hF := ite_f h5 hF
    have h5_ := h5
    try simp at h5_
    by_cases h6 : 9 < v4
    ·replace hF := ite_t h6 hF
     have h6_ := h6
     try simp at h6_
     have F4 := And.intro F2 (And.intro h5 (And.intro h5_ (And.intro h6 h6_)))
     try simp [F4]
     repeat' apply And.intro
     any_goals (first | exact hG51 _ (by kernel_rfl) | refine hR51 _ _ _ ?_ | omega | (unfold maxLen; omega) | (simp [F4]; done) | (simp [F4]; omega))
     refine AW.wk [(42, AV.bool true)] [] 1 (by simp [F4]) (by simp [F4]) (by simp) ?_
     refine AW.condT (by decide) (by simp [F4]) ?_
     refine AW.seqR mixed [] [none] (by kernel_rfl) fun G53 R53 hG53 hR53 => ?_
     try simp [F4]
     repeat' apply And.intro
     any_goals (first | exact hG53 _ (by kernel_rfl) | refine hR53 _ _ _ ?_ | omega | (unfold maxLen; omega) | (simp [F4]; done) | (simp [F4]; omega))
     refine AW.wk [(2, AV.int .i64 40)] [] 1 (by simp [F4]) (by simp [F4]) (by simp) ?_
     simp only [Option.some.injEq] at hF
     subst hF
     refine AW.ret (hQ _ _ _ ?_ (matchO_0 ?_)).1
     ·simp [Try.f20, F4]
     ·simp [F4]
    ·replace hF := ite_f h6 hF
     have h6_ := h6
     try simp at h6_
     by_cases h7 : v5 < 1
     ·replace hF := ite_t h7 hF
      have h7_ := h7
      try simp at h7_
      have F5 := And.intro F2 (And.intro h5 (And.intro h5_ (And.intro h6 (And.intro h6_ (And.intro h7 h7_)))))
      try simp [F5]
      repeat' apply And.intro
      any_goals (first | exact hG51 _ (by kernel_rfl) | refine hR51 _ _ _ ?_ | omega | (unfold maxLen; omega) | (simp [F5]; done) | (simp [F5]; omega))
      refine AW.wk [(42, AV.bool true)] [] 1 (by simp [F5]) (by simp [F5]) (by simp) ?_
      refine AW.condT (by decide) (by simp [F5]) ?_
      refine AW.seqR mixed [] [none] (by kernel_rfl) fun G54 R54 hG54 hR54 => ?_
      try simp [F5]
      repeat' apply And.intro
      any_goals (first | exact hG54 _ (by kernel_rfl) | refine hR54 _ _ _ ?_ | omega | (unfold maxLen; omega) | (simp [F5]; done) | (simp [F5]; omega))
      refine AW.wk [(2, AV.int .i64 40)] [] 1 (by simp [F5]) (by simp [F5]) (by simp) ?_
      simp only [Option.some.injEq] at hF
      subst hF
      refine AW.ret (hQ _ _ _ ?_ (matchO_0 ?_)).1
      ·simp [Try.f20, F5]
      ·simp [F5]
     ·replace hF := ite_f h7 hF
      have h7_ := h7
      try simp at h7_
      by_cases h8 : 1000000 < v5
      ·replace hF := ite_t h8 hF
       have h8_ := h8
       try simp at h8_
       have F6 := And.intro F2 (And.intro h5 (And.intro h5_ (And.intro h6 (And.intro h6_ (And.intro h7 (And.intro h7_ (And.intro h8 h8_)))))))
       try simp [F6]
       repeat' apply And.intro
       any_goals (first | exact hG51 _ (by kernel_rfl) | refine hR51 _ _ _ ?_ | omega | (unfold maxLen; omega) | (simp [F6]; done) | (simp [F6]; omega))
       refine AW.wk [(42, AV.bool true)] [] 1 (by simp [F6]) (by simp [F6]) (by simp) ?_
       refine AW.condT (by decide) (by simp [F6]) ?_
       refine AW.seqR mixed [] [none] (by kernel_rfl) fun G55 R55 hG55 hR55 => ?_
       try simp [F6]
       repeat' apply And.intro
       any_goals (first | exact hG55 _ (by kernel_rfl) | refine hR55 _ _ _ ?_ | omega | (unfold maxLen; omega) | (simp [F6]; done) | (simp [F6]; omega))
       refine AW.wk [(2, AV.int .i64 40)] [] 1 (by simp [F6]) (by simp [F6]) (by simp) ?_
       simp only [Option.some.injEq] at hF
       subst hF
       refine AW.ret (hQ _ _ _ ?_ (matchO_0 ?_)).1
       ·simp [Try.f20, F6]
       ·simp [F6]
      ·replace hF := ite_f h8 hF
       have h8_ := h8
       try simp at h8_
       by_cases h9 : v6 < 0
       ·replace hF := ite_t h9 hF
        have h9_ := h9
        try simp at h9_
        have F7 := And.intro F2 (And.intro h5 (And.intro h5_ (And.intro h6 (And.intro h6_ (And.intro h7 (And.intro h7_ (And.intro h8 (And.intro h8_ (And.intro h9 h9_)))))))))
        try simp [F7]
        repeat' apply And.intro
        any_goals (first | exact hG51 _ (by kernel_rfl) | refine hR51 _ _ _ ?_ | omega | (unfold maxLen; omega) | (simp [F7]; done) | (simp [F7]; omega))
        refine AW.wk [(42, AV.bool true)] [] 1 (by simp [F7]) (by simp [F7]) (by simp) ?_
        refine AW.condT (by decide) (by simp [F7]) ?_
        refine AW.seqR mixed [] [none] (by kernel_rfl) fun G56 R56 hG56 hR56 => ?_
        try simp [F7]
        repeat' apply And.intro
        any_goals (first | exact hG56 _ (by kernel_rfl) | refine hR56 _ _ _ ?_ | omega | (unfold maxLen; omega) | (simp [F7]; done) | (simp [F7]; omega))
        refine AW.wk [(2, AV.int .i64 40)] [] 1 (by simp [F7]) (by simp [F7]) (by simp) ?_
        simp only [Option.some.injEq] at hF
        subst hF
        refine AW.ret (hQ _ _ _ ?_ (matchO_0 ?_)).1
        ·simp [Try.f20, F7]
        ·simp [F7]
       ·replace hF := ite_f h9 hF
        have h9_ := h9
        try simp at h9_
        have F8 := And.intro F2 (And.intro h5 (And.intro h5_ (And.intro h6 (And.intro h6_ (And.intro h7 (And.intro h7_ (And.intro h8 (And.intro h8_ (And.intro h9 h9_)))))))))
        try simp [F8]
        repeat' apply And.intro
        any_goals (first | exact hG51 _ (by kernel_rfl) | refine hR51 _ _ _ ?_ | omega | (unfold maxLen; omega) | (simp [F8]; done) | (simp [F8]; omega))
        refine AW.wk [(42, AV.bool (decide (64 < v6)))] [] 1 (by simp [F8]) (by simp [F8]) (by simp) ?_
        by_cases h10 : 64 < v6
        ·replace hF := ite_t h10 hF
         have h10_ := h10
         try simp at h10_
         have F9 := And.intro F8 (And.intro h10 h10_)
         refine AW.condT (by decide) (by first | (simp [F9]; done) | (simp [F9]; omega)) ?_
         refine AW.seqR mixed [] [none] (by kernel_rfl) fun G57 R57 hG57 hR57 => ?_
         try simp [F9]
         repeat' apply And.intro
         any_goals (first | exact hG57 _ (by kernel_rfl) | refine hR57 _ _ _ ?_ | omega | (unfold maxLen; omega) | (simp [F9]; done) | (simp [F9]; omega))
         refine AW.wk [(2, AV.int .i64 40)] [] 1 (by simp [F9]) (by simp [F9]) (by simp) ?_
         simp only [Option.some.injEq] at hF
         subst hF
         refine AW.ret (hQ _ _ _ ?_ (matchO_0 ?_)).1
         ·simp [Try.f20, F9]
         ·simp [F9]
        ·replace hF := ite_f h10 hF
         have h10_ := h10
         try simp at h10_
         have F10 := And.intro F8 (And.intro h10 h10_)
         refine AW.condF (by decide) (by first | (simp [F10]; done) | (simp [F10]; omega)) ?_
         refine AW.skip ?_
         refine hK50 _ _ _ ?_
         refine AW.seqR mixed [] [none] (by kernel_rfl) fun G58 R58 hG58 hR58 => ?_
         try simp [F10]
         repeat' apply And.intro
         any_goals (first | exact hG58 _ (by kernel_rfl) | refine hR58 _ _ _ ?_ | omega | (unfold maxLen; omega) | (simp [F10]; done) | (simp [F10]; omega))
         refine AW.wk [(2, AV.int .i64 0)] [] 1 (by simp [F10]) (by simp [F10]) (by simp) ?_
         simp only [Option.some.injEq] at hF
         subst hF
         refine AW.ret (hQ _ _ _ ?_ (matchO_0 ?_)).1
         ·simp [Try.f20, F10]
         ·simp [F10]
set_option maxHeartbeats 4000000 in
theorem w_cases_Valid (k : Nat) (v0 : Int) (v1 : Int) (v2 : Int) (v3 : Int) (v4 : Bool) (hF : cases_Valid k v0 v1 v2 v3 = some v4) :
  FCall Try.prog 86 [AV.agg [AV.int .i64 v0, AV.int .i64 v1, AV.int .i64 v2, AV.int .i64 v3]] [] (AV.bool v4) [] := by
 unfold cases_Valid at hF
 refine FCall.enter Try.func86 rfl (by simp) (by decide) (by simp) (by simp) (by simp) (by simp) (by simp) ?_
 intro c0 w0 Q h0 hQ
 refine AW.wk [(0, AV.agg [AV.int .i64 v0, AV.int .i64 v1, AV.int .i64 v2, AV.int .i64 v3])] [] 0 (by simp) (by simp) (by simp) ?_
 refine AW.seqR mixed [] [none, none] (by kernel_rfl) fun G37 R37 hG37 hR37 => ?_
 try simp
 repeat' apply And.intro
 any_goals (first | exact hG37 _ (by kernel_rfl) | refine hR37 _ _ _ ?_ | omega | (unfold maxLen; omega) | (simp; done) | (simp; omega))
 refine AW.wk [(1, AV.ptr 0 0)] [(0, .cells [AV.int .i64 v0, AV.int .i64 v1, AV.int .i64 v2, AV.int .i64 v3])] 1 (by simp) (by simp) (by simp) ?_
 refine AW.seq fun K45 hK45 => ?_
 refine AW.seqR mixed [] [none, none, none, none, some (6, false), some (6, false), some (6, false), none, none, some (11, false), some (11, false), some (11, false), none, none, some (16, false), some (16, false), some (16, false), none, none, some (21, false), some (21, false), some (21, false), none, none, some (26, false), some (26, false), some (26, false), none] (by kernel_rfl) fun G46 R46 hG46 hR46 => ?_
 by_cases h1 : v0 < 0
 ·replace hF := ite_t h1 hF
  have h1_ := h1
  try simp at h1_
  try simp [h1, h1_]
  repeat' apply And.intro
  any_goals (first | exact hG46 _ (by kernel_rfl) | refine hR46 _ _ _ ?_ | omega | (unfold maxLen; omega) | (simp [h1, h1_]; done) | (simp [h1, h1_]; omega))
  refine AW.wk [(1, AV.ptr 0 0), (30, AV.bool true)] [(0, .cells [AV.int .i64 v0, AV.int .i64 v1, AV.int .i64 v2, AV.int .i64 v3])] 1 (by simp [h1, h1_]) (by simp [h1, h1_]) (by simp) ?_
  refine AW.condT (by decide) (by simp [h1, h1_]) ?_
  refine AW.seqR mixed [] [none] (by kernel_rfl) fun G47 R47 hG47 hR47 => ?_
  try simp [h1, h1_]
  repeat' apply And.intro
  any_goals (first | exact hG47 _ (by kernel_rfl) | refine hR47 _ _ _ ?_ | omega | (unfold maxLen; omega) | (simp [h1, h1_]; done) | (simp [h1, h1_]; omega))
  refine AW.wk [(2, AV.bool false)] [] 1 (by simp [h1, h1_]) (by simp [h1, h1_]) (by simp) ?_
  simp only [Option.some.injEq] at hF
  subst hF
  refine AW.ret (hQ _ _ _ ?_ (matchO_0 ?_)).1
  ·simp [Try.f86, h1, h1_]
  ·simp [h1, h1_]
 ·replace hF := ite_f h1 hF
  have h1_ := h1
  try simp at h1_
  by_cases h2 : 40 ≤ v0
  ·replace hF := ite_t h2 hF
   have h2_ := h2
   try simp at h2_
   have F1 := And.intro h1 (And.intro h1_ (And.intro h2 h2_))
   try simp [F1]
   repeat' apply And.intro
   any_goals (first | exact hG46 _ (by kernel_rfl) | refine hR46 _ _ _ ?_ | omega | (unfold maxLen; omega) | (simp [F1]; done) | (simp [F1]; omega))
   refine AW.wk [(1, AV.ptr 0 0), (30, AV.bool true)] [(0, .cells [AV.int .i64 v0, AV.int .i64 v1, AV.int .i64 v2, AV.int .i64 v3])] 1 (by simp [F1]) (by simp [F1]) (by simp) ?_
   refine AW.condT (by decide) (by simp [F1]) ?_
   refine AW.seqR mixed [] [none] (by kernel_rfl) fun G48 R48 hG48 hR48 => ?_
   try simp [F1]
   repeat' apply And.intro
   any_goals (first | exact hG48 _ (by kernel_rfl) | refine hR48 _ _ _ ?_ | omega | (unfold maxLen; omega) | (simp [F1]; done) | (simp [F1]; omega))
   refine AW.wk [(2, AV.bool false)] [] 1 (by simp [F1]) (by simp [F1]) (by simp) ?_
   simp only [Option.some.injEq] at hF
   subst hF
   refine AW.ret (hQ _ _ _ ?_ (matchO_0 ?_)).1
   ·simp [Try.f86, F1]
   ·simp [F1]
  ·replace hF := ite_f h2 hF
   have h2_ := h2
   try simp at h2_
   by_cases h3 : v2 < 0
   ·replace hF := ite_t h3 hF
    have h3_ := h3
    try simp at h3_
    have F2 := And.intro h1 (And.intro h1_ (And.intro h2 (And.intro h2_ (And.intro h3 h3_))))
    try simp [F2]
    repeat' apply And.intro
    any_goals (first | exact hG46 _ (by kernel_rfl) | refine hR46 _ _ _ ?_ | omega | (unfold maxLen; omega) | (simp [F2]; done) | (simp [F2]; omega))
    refine AW.wk [(1, AV.ptr 0 0), (30, AV.bool true)] [(0, .cells [AV.int .i64 v0, AV.int .i64 v1, AV.int .i64 v2, AV.int .i64 v3])] 1 (by simp [F2]) (by simp [F2]) (by simp) ?_
    refine AW.condT (by decide) (by simp [F2]) ?_
    refine AW.seqR mixed [] [none] (by kernel_rfl) fun G49 R49 hG49 hR49 => ?_
    try simp [F2]
    repeat' apply And.intro
    any_goals (first | exact hG49 _ (by kernel_rfl) | refine hR49 _ _ _ ?_ | omega | (unfold maxLen; omega) | (simp [F2]; done) | (simp [F2]; omega))
    refine AW.wk [(2, AV.bool false)] [] 1 (by simp [F2]) (by simp [F2]) (by simp) ?_
    simp only [Option.some.injEq] at hF
    subst hF
    refine AW.ret (hQ _ _ _ ?_ (matchO_0 ?_)).1
    ·simp [Try.f86, F2]
    ·simp [F2]
   ·replace hF := ite_f h3 hF
    have h3_ := h3
    try simp at h3_
    by_cases h4 : 64 ≤ v2
    ·replace hF := ite_t h4 hF
     have h4_ := h4
     try simp at h4_
     have F3 := And.intro h1 (And.intro h1_ (And.intro h2 (And.intro h2_ (And.intro h3 (And.intro h3_ (And.intro h4 h4_))))))
     try simp [F3]
     repeat' apply And.intro
     any_goals (first | exact hG46 _ (by kernel_rfl) | refine hR46 _ _ _ ?_ | omega | (unfold maxLen; omega) | (simp [F3]; done) | (simp [F3]; omega))
     refine AW.wk [(1, AV.ptr 0 0), (30, AV.bool true)] [(0, .cells [AV.int .i64 v0, AV.int .i64 v1, AV.int .i64 v2, AV.int .i64 v3])] 1 (by simp [F3]) (by simp [F3]) (by simp) ?_
     refine AW.condT (by decide) (by simp [F3]) ?_
     refine AW.seqR mixed [] [none] (by kernel_rfl) fun G50 R50 hG50 hR50 => ?_
     try simp [F3]
     repeat' apply And.intro
     any_goals (first | exact hG50 _ (by kernel_rfl) | refine hR50 _ _ _ ?_ | omega | (unfold maxLen; omega) | (simp [F3]; done) | (simp [F3]; omega))
     refine AW.wk [(2, AV.bool false)] [] 1 (by simp [F3]) (by simp [F3]) (by simp) ?_
     simp only [Option.some.injEq] at hF
     subst hF
     refine AW.ret (hQ _ _ _ ?_ (matchO_0 ?_)).1
     ·simp [Try.f86, F3]
     ·simp [F3]
    ·replace hF := ite_f h4 hF
     have h4_ := h4
     try simp at h4_
     by_cases h5 : v3 < 0
     ·replace hF := ite_t h5 hF
      have h5_ := h5
      try simp at h5_
      have F4 := And.intro h1 (And.intro h1_ (And.intro h2 (And.intro h2_ (And.intro h3 (And.intro h3_ (And.intro h4 (And.intro h4_ (And.intro h5 h5_))))))))
      try simp [F4]
      repeat' apply And.intro
      any_goals (first | exact hG46 _ (by kernel_rfl) | refine hR46 _ _ _ ?_ | omega | (unfold maxLen; omega) | (simp [F4]; done) | (simp [F4]; omega))
      refine AW.wk [(1, AV.ptr 0 0), (30, AV.bool true)] [(0, .cells [AV.int .i64 v0, AV.int .i64 v1, AV.int .i64 v2, AV.int .i64 v3])] 1 (by simp [F4]) (by simp [F4]) (by simp) ?_
      refine AW.condT (by decide) (by simp [F4]) ?_
      refine AW.seqR mixed [] [none] (by kernel_rfl) fun G51 R51 hG51 hR51 => ?_
      try simp [F4]
      repeat' apply And.intro
      any_goals (first | exact hG51 _ (by kernel_rfl) | refine hR51 _ _ _ ?_ | omega | (unfold maxLen; omega) | (simp [F4]; done) | (simp [F4]; omega))
      refine AW.wk [(2, AV.bool false)] [] 1 (by simp [F4]) (by simp [F4]) (by simp) ?_
      simp only [Option.some.injEq] at hF
      subst hF
      refine AW.ret (hQ _ _ _ ?_ (matchO_0 ?_)).1
      ·simp [Try.f86, F4]
      ·simp [F4]
     ·replace hF := ite_f h5 hF
      have h5_ := h5
      try simp at h5_
      have F5 := And.intro h1 (And.intro h1_ (And.intro h2 (And.intro h2_ (And.intro h3 (And.intro h3_ (And.intro h4 (And.intro h4_ (And.intro h5 h5_))))))))
      try simp [F5]
      repeat' apply And.intro
      any_goals (first | exact hG46 _ (by kernel_rfl) | refine hR46 _ _ _ ?_ | omega | (unfold maxLen; omega) | (simp [F5]; done) | (simp [F5]; omega))
      refine AW.wk [(1, AV.ptr 0 0), (30, AV.bool (decide (1 < v3)))] [(0, .cells [AV.int .i64 v0, AV.int .i64 v1, AV.int .i64 v2, AV.int .i64 v3])] 1 (by simp [F5]) (by simp [F5]) (by simp) ?_
      by_cases h6 : 1 < v3
      ·replace hF := ite_t h6 hF
       have h6_ := h6
       try simp at h6_
       have F6 := And.intro F5 (And.intro h6 h6_)
       refine AW.condT (by decide) (by first | (simp [F6]; done) | (simp [F6]; omega)) ?_
       refine AW.seqR mixed [] [none] (by kernel_rfl) fun G52 R52 hG52 hR52 => ?_
       try simp [F6]
       repeat' apply And.intro
       any_goals (first | exact hG52 _ (by kernel_rfl) | refine hR52 _ _ _ ?_ | omega | (unfold maxLen; omega) | (simp [F6]; done) | (simp [F6]; omega))
       refine AW.wk [(2, AV.bool false)] [] 1 (by simp [F6]) (by simp [F6]) (by simp) ?_
       simp only [Option.some.injEq] at hF
       subst hF
       refine AW.ret (hQ _ _ _ ?_ (matchO_0 ?_)).1
       ·simp [Try.f86, F6]
       ·simp [F6]
      ·replace hF := ite_f h6 hF
       have h6_ := h6
       try simp at h6_
       have F7 := And.intro F5 (And.intro h6 h6_)
       refine AW.condF (by decide) (by first | (simp [F7]; done) | (simp [F7]; omega)) ?_
       refine AW.skip ?_
       refine hK45 _ _ _ ?_
       refine AW.seq fun K62 hK62 => ?_
       refine AW.seqR mixed [] [none, none] (by kernel_rfl) fun G63 R63 hG63 hR63 => ?_
       try simp [F7]
       repeat' apply And.intro
       any_goals (first | exact hG63 _ (by kernel_rfl) | refine hR63 _ _ _ ?_ | omega | (unfold maxLen; omega) | (simp [F7]; done) | (simp [F7]; omega))
       refine AW.wk [(1, AV.ptr 0 0), (32, AV.int .i64 v1)] [(0, .cells [AV.int .i64 v0, AV.int .i64 v1, AV.int .i64 v2, AV.int .i64 v3])] 1 (by simp [F7]) (by simp [F7]) (by simp) ?_
       refine AW.block ?_
       refine AW.seqR mixed [] [none, none] (by kernel_rfl) fun G64 R64 hG64 hR64 => ?_
       try simp [F7]
       repeat' apply And.intro
       any_goals (first | exact hG64 _ (by kernel_rfl) | refine hR64 _ _ _ ?_ | omega | (unfold maxLen; omega) | (simp [F7]; done) | (simp [F7]; omega))
       refine AW.wk [(1, AV.ptr 0 0), (32, AV.int .i64 v1), (33, AV.bool (v1 == 1))] [(0, .cells [AV.int .i64 v0, AV.int .i64 v1, AV.int .i64 v2, AV.int .i64 v3])] 1 (by simp [F7]) (by simp [F7]) (by simp) ?_
       by_cases h7 : v1 = 1
       ·replace hF := ite_t h7 hF
        have h7q : v1 = 1 := h7
        have h7_ := eqb_t h7q
        have h7__ := neb_f h7q
        have F8 := And.intro F7 (And.intro h7_ (And.intro h7__ h7q))
        refine AW.condT (by decide) (by first | (simp [F8]; done) | (simp [F8]; omega)) ?_
        refine AW.seqR mixed [] [none, none, none, none, some (38, true), some (38, true), some (38, true), none, none] (by kernel_rfl) fun G65 R65 hG65 hR65 => ?_
        by_cases h8 : v2 = 0
        ·replace hF := ite_t h8 hF
         have h8q : v2 = 0 := h8
         have h8_ := eqb_t h8q
         have h8__ := neb_f h8q
         have F9 := And.intro F8 (And.intro h8_ (And.intro h8__ h8q))
         try simp [F9]
         repeat' apply And.intro
         any_goals (first | exact hG65 _ (by kernel_rfl) | refine hR65 _ _ _ ?_ | omega | (unfold maxLen; omega) | (simp [F9]; done) | (simp [F9]; omega))
         refine AW.wk [(2, AV.bool (v3 == 0))] [] 1 (by simp [F9]) (by simp [F9]) (by simp) ?_
         simp only [Option.some.injEq] at hF
         subst hF
         refine AW.ret (hQ _ _ _ ?_ (matchO_0 ?_)).1
         ·simp [Try.f86, F9]
         ·simp [F9]
        ·replace hF := ite_f h8 hF
         have h8_ := eqb_f h8
         have h8__ := neb_t h8
         have F10 := And.intro F8 (And.intro h8 (And.intro h8_ h8__))
         try simp [F10]
         repeat' apply And.intro
         any_goals (first | exact hG65 _ (by kernel_rfl) | refine hR65 _ _ _ ?_ | omega | (unfold maxLen; omega) | (simp [F10]; done) | (simp [F10]; omega))
         refine AW.wk [(2, AV.bool false)] [] 1 (by simp [F10]) (by simp [F10]) (by simp) ?_
         simp only [Option.some.injEq] at hF
         subst hF
         refine AW.ret (hQ _ _ _ ?_ (matchO_0 ?_)).1
         ·simp [Try.f86, F10]
         ·simp [F10]
       ·replace hF := ite_f h7 hF
        have h7_ := eqb_f h7
        have h7__ := neb_t h7
        have F11 := And.intro F7 (And.intro h7 (And.intro h7_ h7__))
        refine AW.condF (by decide) (by first | (simp [F11]; done) | (simp [F11]; omega)) ?_
        refine AW.midF (α := Bool) (fun v5 => cases_Valid.J1 k v5 = some v4) (fun v5 => [(43, AV.bool v5)]) (fun v5 => []) 0 (fun K70 hK70 => ?_) ?_
        ·refine AW.seqR mixed [] [none, none] (by kernel_rfl) fun G71 R71 hG71 hR71 => ?_
         try simp [F11]
         repeat' apply And.intro
         any_goals (first | exact hG71 _ (by kernel_rfl) | refine hR71 _ _ _ ?_ | omega | (unfold maxLen; omega) | (simp [F11]; done) | (simp [F11]; omega))
         refine AW.wk [(32, AV.int .i64 v1), (43, AV.bool (v1 == 2))] [] 1 (by simp [F11]) (by simp [F11]) (by simp) ?_
         by_cases h10 : v1 = 2
         ·replace hF := ite_t h10 hF
          have h10q : v1 = 2 := h10
          have h10_ := eqb_t h10q
          have h10__ := neb_f h10q
          have F12 := And.intro F11 (And.intro h10_ (And.intro h10__ h10q))
          refine AW.condT (by decide) (by first | (simp [F12]; done) | (simp [F12]; omega)) ?_
          refine AW.skip ?_
          refine hK70 _ _ _ ?_
          refine Can.ren (m := 0) h0 [] [(43, AV.bool true)] [] 0 (by decide) (by decide) (by decide) rfl (by simp [F12]) (by simp [F12]) ?_
          exact Can.join (true) hF (by simp [F12]) (by simp [F12]) (by simp)
         ·replace hF := ite_f h10 hF
          have h10_ := eqb_f h10
          have h10__ := neb_t h10
          have F13 := And.intro F11 (And.intro h10 (And.intro h10_ h10__))
          refine AW.condF (by decide) (by first | (simp [F13]; done) | (simp [F13]; omega)) ?_
          refine AW.region mixed [] [none, none] (by kernel_rfl) fun G72 R72 hG72 hR72 => ?_
          try simp [F13]
          repeat' apply And.intro
          any_goals (first | exact hG72 _ (by kernel_rfl) | refine hR72 _ _ _ ?_ | omega | (unfold maxLen; omega) | (simp [F13]; done) | (simp [F13]; omega))
          refine hK70 _ _ _ ?_
          refine Can.weak [(43, AV.bool (v1 == 3))] [] 1 (by simp [F13]) (by simp [F13]) (by simp) ?_
          refine Can.ren (m := 0) h0 [] [(43, AV.bool (v1 == 3))] [] 0 (by decide) (by decide) (by decide) rfl (by simp [F13]) (by simp [F13]) ?_
          exact Can.join ((v1 == 3)) hF (by simp [F13]) (by simp [F13]) (by simp)
        ·rintro v5 hF
         try dsimp only at hF
         unfold cases_Valid.J1 at hF
         by_cases h9 : v5 = true
         ·replace hF := ite_t h9 hF
          have h9_ := h9
          try simp at h9_
          have F14 := And.intro F11 (And.intro h9 h9_)
          refine AW.condT (by decide) (by first | (simp [F14]; done) | (simp [F14]; omega)) ?_
          refine AW.seqR mixed [] [none] (by kernel_rfl) fun G68 R68 hG68 hR68 => ?_
          try simp [F14]
          repeat' apply And.intro
          any_goals (first | exact hG68 _ (by kernel_rfl) | refine hR68 _ _ _ ?_ | omega | (unfold maxLen; omega) | (simp [F14]; done) | (simp [F14]; omega))
          refine AW.wk [(2, AV.bool true)] [] 0 (by simp [F14]) (by simp [F14]) (by simp) ?_
          simp only [Option.some.injEq] at hF
          subst hF
          refine AW.ret (hQ _ _ _ ?_ (matchO_0 ?_)).1
          ·simp [Try.f86, F14]
          ·simp [F14]
         ·replace hF := ite_f h9 hF
          have h9_ := h9
          try simp at h9_
          have F15 := And.intro F11 (And.intro h9 h9_)
          refine AW.condF (by decide) (by first | (simp [F15]; done) | (simp [F15]; omega)) ?_
          refine AW.skip ?_
          refine hK62 _ _ _ ?_
          refine AW.seqR mixed [] [none] (by kernel_rfl) fun G69 R69 hG69 hR69 => ?_
          try simp [F15]
          repeat' apply And.intro
          any_goals (first | exact hG69 _ (by kernel_rfl) | refine hR69 _ _ _ ?_ | omega | (unfold maxLen; omega) | (simp [F15]; done) | (simp [F15]; omega))
          refine AW.wk [(2, AV.bool false)] [] 0 (by simp [F15]) (by simp [F15]) (by simp) ?_
          simp only [Option.some.injEq] at hF
          subst hF
          refine AW.ret (hQ _ _ _ ?_ (matchO_0 ?_)).1
          ·simp [Try.f86, F15]
          ·simp [F15]
set_option maxHeartbeats 4000000 in
theorem w_beacon_bytes (k : Nat) (v0 : (List Int)) (v1 : (List Int)) (v2 : (List Int)) (hF : beacon_bytes k v0 v1 = some v2) :
  FCall Try.prog 82 [AV.slc 0 0 1 v0.length false, AV.lst false false (List.map (AV.int .i64) v1)] [.cells (List.map (AV.int .u8) v0)] (AV.slc 1 0 1 v2.length false) [none, some (.cells (List.map (AV.int .u8) v2))] := by
 unfold beacon_bytes at hF
 refine FCall.enter Try.func82 rfl (by simp) (by decide) (by simp) (by simp) (by simp) (by simp) (by simp) ?_
 intro c0 w0 Q h0 hQ
 refine AW.wk [(0, AV.slc 0 0 1 v0.length false), (1, AV.lst false false (List.map (AV.int .i64) v1))] [(0, .cells (List.map (AV.int .u8) v0))] 1 (by simp) (by simp) (by simp) ?_
 refine AW.seqR mixed [] [none] (by kernel_rfl) fun G536 R536 hG536 hR536 => ?_
 try simp
 repeat' apply And.intro
 any_goals (first | exact hG536 _ (by kernel_rfl) | refine hR536 _ _ _ ?_ | omega | (unfold maxLen; omega) | (simp; done) | (simp; omega))
 refine AW.wk [(0, AV.slc 0 0 1 v0.length false), (1, AV.lst false false (List.map (AV.int .i64) v1))] [(0, .cells (List.map (AV.int .u8) v0))] 1 (by simp) (by simp) (by simp) ?_
 refine AW.seq fun K803 hK803 => ?_
 refine AW.seqR mixed [] [none, none, none] (by kernel_rfl) fun G804 R804 hG804 hR804 => ?_
 try simp
 repeat' apply And.intro
 any_goals (first | exact hG804 _ (by kernel_rfl) | refine hR804 _ _ _ ?_ | omega | (unfold maxLen; omega) | (simp; done) | (simp; omega))
 refine AW.wk [(0, AV.slc 0 0 1 v0.length false), (8, AV.lst false false (List.map (AV.int .i64) v1)), (9, AV.int .i64 (v1.length : Int)), (10, AV.int .i64 0)] [(0, .cells (List.map (AV.int .u8) v0))] 1 (by simp) (by simp) (by simp) ?_
 refine AW.block ?_
 refine AW.rnm (m := 1) h0 [(1, 0)] [(0, AV.slc 1 0 1 v0.length false), (8, AV.lst false false (List.map (AV.int .i64) v1)), (9, AV.int .i64 (v1.length : Int)), (10, AV.int .i64 0)] [(1, .cells (List.map (AV.int .u8) v0))] 2 (by decide) (by decide) (by decide) rfl (by simp) (by simp) ?_
 refine AW.loopF (α := (Int × (List Int))) (fun n (v3, v4) => beacon_bytes.L1 k v1 n v3 v4 = some v2) (fun (v3, v4) => [(0, AV.slc 1 0 1 v4.length false), (8, AV.lst false false (List.map (AV.int .i64) v1)), (9, AV.int .i64 (v1.length : Int)), (10, AV.int .i64 v3)]) (fun (v3, v4) => [(1, .cells (List.map (AV.int .u8) v4))]) 2 k ((0, v0)) hF (by simp) (by simp) (by simp) ?_
 rintro (_|n1) ⟨v3, v4⟩ hF K1003 hK1003
 ·try dsimp only at hF
  rw [beacon_bytes.L1] at hF; cases hF
 try dsimp only at hF
 rw [beacon_bytes.L1] at hF
 refine AW.seqR mixed [] [none] (by kernel_rfl) fun G1004 R1004 hG1004 hR1004 => ?_
 try simp
 repeat' apply And.intro
 any_goals (first | exact hG1004 _ (by kernel_rfl) | refine hR1004 _ _ _ ?_ | omega | (unfold maxLen; omega) | (simp; done) | (simp; omega))
 refine AW.wk [(0, AV.slc 1 0 1 v4.length false), (8, AV.lst false false (List.map (AV.int .i64) v1)), (9, AV.int .i64 (v1.length : Int)), (10, AV.int .i64 v3), (11, AV.bool (decide (v3 < (v1.length : Int))))] [(1, .cells (List.map (AV.int .u8) v4))] 2 (by simp) (by simp) (by simp) ?_
 refine AW.seq fun K1005 hK1005 => ?_
 by_cases h1 : v3 < (v1.length : Int)
 ·replace hF := ite_t h1 hF
  have h1_ := h1
  try simp at h1_
  refine AW.condT (by decide) (by first | (simp [h1, h1_]; done) | (simp [h1, h1_]; omega)) ?_
  refine AW.skip ?_
  refine hK1005 _ _ _ ?_
  refine AW.seq fun K1037 hK1037 => ?_
  refine AW.block ?_
  refine AW.seqR mixed [] [none, none, none] (by kernel_rfl) fun G1038 R1038 hG1038 hR1038 => ?_
  obtain ⟨v5, h2, h3, h4, hF⟩ := idx_elim hF
  have h4_ := get_of h4
  try simp at h4_
  have h3_ := h3
  try simp at h3_
  have F1 := And.intro h1 (And.intro h1_ (And.intro h2 (And.intro h3 (And.intro h4 (And.intro h4_ h3_)))))
  try simp [F1]
  repeat' apply And.intro
  any_goals (first | exact hG1038 _ (by kernel_rfl) | refine hR1038 _ _ _ ?_ | omega | (unfold maxLen; omega) | (simp [F1]; done) | (simp [F1]; omega))
  refine AW.wk [(0, AV.slc 1 0 1 v4.length false), (6, AV.int .i64 v5), (8, AV.lst false false (List.map (AV.int .i64) v1)), (9, AV.int .i64 (v1.length : Int)), (10, AV.int .i64 v3)] [(1, .cells (List.map (AV.int .u8) v4))] 2 (by simp [F1]) (by simp [F1]) (by simp) ?_
  refine AW.seqR mixed [] [none] (by kernel_rfl) fun G1039 R1039 hG1039 hR1039 => ?_
  try simp [F1]
  repeat' apply And.intro
  any_goals (first | exact hG1039 _ (by kernel_rfl) | refine hR1039 _ _ _ ?_ | omega | (unfold maxLen; omega) | (simp [F1]; done) | (simp [F1]; omega))
  refine AW.wk [(0, AV.slc 1 0 1 v4.length false), (6, AV.int .i64 v5), (7, AV.int .i64 56), (8, AV.lst false false (List.map (AV.int .i64) v1)), (9, AV.int .i64 (v1.length : Int)), (10, AV.int .i64 v3)] [(1, .cells (List.map (AV.int .u8) v4))] 2 (by simp [F1]) (by simp [F1]) (by simp) ?_
  refine AW.block ?_
  refine AW.loopF (α := (Int × (List Int))) (fun n (v6, v7) => beacon_bytes.L2 k v3 v5 (fun v3_ v4_ => beacon_bytes.L1 k v1 n1 v3_ v4_) n v6 v7 = some v2) (fun (v6, v7) => [(0, AV.slc 1 0 1 v7.length false), (6, AV.int .i64 v5), (7, AV.int .i64 v6), (8, AV.lst false false (List.map (AV.int .i64) v1)), (9, AV.int .i64 (v1.length : Int)), (10, AV.int .i64 v3)]) (fun (v6, v7) => [(1, .cells (List.map (AV.int .u8) v7))]) 2 k ((56, v4)) hF (by simp [F1]) (by simp [F1]) (by simp) ?_
  rintro (_|n2) ⟨v6, v7⟩ hF K1061 hK1061
  ·try dsimp only at hF
   rw [beacon_bytes.L2] at hF; cases hF
  try dsimp only at hF
  rw [beacon_bytes.L2] at hF
  refine AW.seq fun K1063 hK1063 => ?_
  refine AW.seqR mixed [] [none, none] (by kernel_rfl) fun G1064 R1064 hG1064 hR1064 => ?_
  try simp [F1]
  repeat' apply And.intro
  any_goals (first | exact hG1064 _ (by kernel_rfl) | refine hR1064 _ _ _ ?_ | omega | (unfold maxLen; omega) | (simp [F1]; done) | (simp [F1]; omega))
  refine AW.wk [(0, AV.slc 1 0 1 v7.length false), (6, AV.int .i64 v5), (7, AV.int .i64 v6), (8, AV.lst false false (List.map (AV.int .i64) v1)), (9, AV.int .i64 (v1.length : Int)), (10, AV.int .i64 v3), (15, AV.bool (decide (0 ≤ v6)))] [(1, .cells (List.map (AV.int .u8) v7))] 2 (by simp [F1]) (by simp [F1]) (by simp) ?_
  by_cases h5 : 0 ≤ v6
  ·replace hF := ite_t h5 hF
   have h5_ := h5
   try simp at h5_
   have F2 := And.intro F1 (And.intro h5 h5_)
   refine AW.condT (by decide) (by first | (simp [F2]; done) | (simp [F2]; omega)) ?_
   refine AW.skip ?_
   refine hK1063 _ _ _ ?_
   refine AW.seq fun K1066 hK1066 => ?_
   refine AW.block ?_
   refine AW.region mixed [] [none, none, none, none, none, none, none, none, none] (by kernel_rfl) fun G1067 R1067 hG1067 hR1067 => ?_
   obtain ⟨h6, hF⟩ := chk_elim hF
   obtain ⟨h7, hF⟩ := chk_elim hF
   have h7_ := h7
   try simp at h7_
   have F3 := And.intro F2 (And.intro h6 h7)
   try simp [F3]
   repeat' apply And.intro
   any_goals (first | exact hG1067 _ (by kernel_rfl) | refine hR1067 _ _ _ ?_ | omega | (unfold maxLen; omega) | (simp [F3]; done) | (simp [F3]; omega))
   refine hK1066 _ _ _ ?_
   refine AW.wk [(0, AV.slc 2 0 1 ((v7 ++ ([IntKind.wrap .u8 (Int.fdiv (IntKind.wrap .u64 v5) (2 ^ (min v6.toNat 64)))] : List Int)).length) false), (6, AV.int .i64 v5), (7, AV.int .i64 v6), (8, AV.lst false false (List.map (AV.int .i64) v1)), (9, AV.int .i64 (v1.length : Int)), (10, AV.int .i64 v3)] [(2, .cells (List.map (AV.int .u8) (v7 ++ ([IntKind.wrap .u8 (Int.fdiv (IntKind.wrap .u64 v5) (2 ^ (min v6.toNat 64)))] : List Int))))] 3 (by simp [F3] <;> omega) (by simp [F3]) (by simp) ?_
   refine AW.region mixed [] [none, none, none] (by kernel_rfl) fun G1068 R1068 hG1068 hR1068 => ?_
   try simp [F3]
   repeat' apply And.intro
   any_goals (first | exact hG1068 _ (by kernel_rfl) | refine hR1068 _ _ _ ?_ | omega | (unfold maxLen; omega) | (simp [F3]; done) | (simp [F3]; omega))
   refine hK1061 _ _ _ ?_
   refine Can.weak [(0, AV.slc 2 0 1 ((v7 ++ ([IntKind.wrap .u8 (Int.fdiv (IntKind.wrap .u64 v5) (2 ^ (min v6.toNat 64)))] : List Int)).length) false), (6, AV.int .i64 v5), (7, AV.int .i64 (IntKind.wrap .i64 (v6 - 8))), (8, AV.lst false false (List.map (AV.int .i64) v1)), (9, AV.int .i64 (v1.length : Int)), (10, AV.int .i64 v3)] [(2, .cells (List.map (AV.int .u8) (v7 ++ ([IntKind.wrap .u8 (Int.fdiv (IntKind.wrap .u64 v5) (2 ^ (min v6.toNat 64)))] : List Int))))] 3 (by simp [F3] <;> omega) (by simp [F3]) (by simp) ?_
   refine Can.ren (m := 1) h0 [(1, 2)] [(0, AV.slc 1 0 1 ((v7 ++ ([IntKind.wrap .u8 (Int.fdiv (IntKind.wrap .u64 v5) (2 ^ (min v6.toNat 64)))] : List Int)).length) false), (6, AV.int .i64 v5), (7, AV.int .i64 (IntKind.wrap .i64 (v6 - 8))), (8, AV.lst false false (List.map (AV.int .i64) v1)), (9, AV.int .i64 (v1.length : Int)), (10, AV.int .i64 v3)] [(1, .cells (List.map (AV.int .u8) (v7 ++ ([IntKind.wrap .u8 (Int.fdiv (IntKind.wrap .u64 v5) (2 ^ (min v6.toNat 64)))] : List Int))))] 2 (by decide) (by decide) (by decide) rfl (by simp [F3]) (by simp [F3]) ?_
   exact Can.next (k' := n2) ((IntKind.wrap .i64 (v6 - 8), v7 ++ ([IntKind.wrap .u8 (Int.fdiv (IntKind.wrap .u64 v5) (2 ^ (min v6.toNat 64)))] : List Int))) (by omega) hF (by simp [F3]) (by simp [F3]) (by simp)
  ·replace hF := ite_f h5 hF
   have h5_ := h5
   try simp at h5_
   have F4 := And.intro F1 (And.intro h5 h5_)
   refine AW.condF (by decide) (by first | (simp [F4]; done) | (simp [F4]; omega)) ?_
   refine AW.exit ?_
   try simp
   refine hK1037 _ _ _ ?_
   refine AW.region mixed [] [none, none] (by kernel_rfl) fun G1069 R1069 hG1069 hR1069 => ?_
   try simp [F4]
   repeat' apply And.intro
   any_goals (first | exact hG1069 _ (by kernel_rfl) | refine hR1069 _ _ _ ?_ | omega | (unfold maxLen; omega) | (simp [F4]; done) | (simp [F4]; omega))
   refine hK1003 _ _ _ ?_
   refine Can.weak [(0, AV.slc 1 0 1 v7.length false), (8, AV.lst false false (List.map (AV.int .i64) v1)), (9, AV.int .i64 (v1.length : Int)), (10, AV.int .i64 (IntKind.wrap .i64 (v3 + 1)))] [(1, .cells (List.map (AV.int .u8) v7))] 2 (by simp [F4]) (by simp [F4]) (by simp) ?_
   exact Can.next (k' := n1) ((IntKind.wrap .i64 (v3 + 1), v7)) (by omega) hF (by simp [F4]) (by simp [F4]) (by simp)
 ·replace hF := ite_f h1 hF
  have h1_ := h1
  try simp at h1_
  refine AW.condF (by decide) (by first | (simp [h1, h1_]; done) | (simp [h1, h1_]; omega)) ?_
  refine AW.exit ?_
  try simp
  refine hK803 _ _ _ ?_
  refine AW.seqR mixed [] [none, none] (by kernel_rfl) fun G1070 R1070 hG1070 hR1070 => ?_
  try simp [h1, h1_]
  repeat' apply And.intro
  any_goals (first | exact hG1070 _ (by kernel_rfl) | refine hR1070 _ _ _ ?_ | omega | (unfold maxLen; omega) | (simp [h1, h1_]; done) | (simp [h1, h1_]; omega))
  refine AW.wk [(4, AV.slc 1 0 1 v4.length false)] [(1, .cells (List.map (AV.int .u8) v4))] 2 (by simp [h1, h1_]) (by simp [h1, h1_]) (by simp) ?_
  simp only [Option.some.injEq] at hF
  subst hF
  refine AW.ret (hQ _ _ _ ?_ (matchO_0 ?_)).1
  ·simp [Try.f82, h1, h1_]
  ·simp [h1, h1_]
set_option maxHeartbeats 4000000 in
theorem w_beacon_list (k : Nat) (v0 : (List Int)) (v1 : (List Int)) (v2 : (List Int)) (hF : beacon_list k v0 v1 = some v2) :
  FCall Try.prog 81 [AV.slc 0 0 1 v0.length false, AV.lst false false (List.map (AV.int .i64) v1)] [.cells (List.map (AV.int .u8) v0)] (AV.slc 1 0 1 v2.length false) [none, some (.cells (List.map (AV.int .u8) v2))] := by
 unfold beacon_list at hF
 refine FCall.enter Try.func81 rfl (by simp) (by decide) (by simp) (by simp) (by simp) (by simp) (by simp) ?_
 intro c0 w0 Q h0 hQ
 refine AW.wk [(0, AV.slc 0 0 1 v0.length false), (1, AV.lst false false (List.map (AV.int .i64) v1))] [(0, .cells (List.map (AV.int .u8) v0))] 1 (by simp) (by simp) (by simp) ?_
 refine AW.seqR mixed [] [none] (by kernel_rfl) fun G3 R3 hG3 hR3 => ?_
 try simp
 repeat' apply And.intro
 any_goals (first | exact hG3 _ (by kernel_rfl) | refine hR3 _ _ _ ?_ | omega | (unfold maxLen; omega) | (simp; done) | (simp; omega))
 refine AW.wk [(0, AV.slc 0 0 1 v0.length false), (1, AV.lst false false (List.map (AV.int .i64) v1))] [(0, .cells (List.map (AV.int .u8) v0))] 1 (by simp) (by simp) (by simp) ?_
 refine AW.seqR mixed [] [none, none, none, none, none, none, none, none] (by kernel_rfl) fun G4 R4 hG4 hR4 => ?_
 try simp
 repeat' apply And.intro
 try any_goals (first | omega | (unfold maxLen; omega) | (simp; done))
 obtain ⟨v3, h1, hF⟩ := bnd1_elim hF
 refine aCall_l (w_beacon_bytes k _ _ _ h1) (by simp) [0] [] [0] rfl (.cons (.same (by simp)) (.cons (Coe.fl (by simp)) .nil)) (by simp) (by decide) (by simp) (by simp) (.inl rfl) (by simp) (by simp) ?_
 try simp
 repeat' apply And.intro
 try any_goals (first | omega | (unfold maxLen; omega) | (simp; done))
 obtain ⟨v4, h2, hF⟩ := bnd1_elim hF
 refine aCall_l (w_beacon_bytes k _ _ _ h2) (by simp) [1] [] [1] rfl (.cons (.same (by simp)) (.cons (.same (by simp)) .nil)) (by simp) (by decide) (by simp) (by simp) (.inl rfl) (by simp) (by simp) ?_
 try simp
 repeat' apply And.intro
 any_goals (first | exact hG4 _ (by kernel_rfl) | refine hR4 _ _ _ ?_ | omega | (unfold maxLen; omega) | (simp; done) | (simp; omega))
 refine AW.wk [(4, AV.slc 2 0 1 v4.length false)] [(2, .cells (List.map (AV.int .u8) v4))] 3 (by simp) (by simp) (by simp) ?_
 refine AW.rnm (m := 1) h0 [(1, 2)] [(4, AV.slc 1 0 1 v4.length false)] [(1, .cells (List.map (AV.int .u8) v4))] 2 (by decide) (by decide) (by decide) rfl (by simp) (by simp) ?_
 simp only [Option.some.injEq] at hF
 subst hF
 refine AW.ret (hQ _ _ _ ?_ (matchO_0 ?_)).1
 ·simp [Try.f81]
 ·simp
set_option maxHeartbeats 4000000 in
theorem w_beacon_bytes_v2 (k : Nat) (v0 : (List Int)) (v1 : (List Int)) (v2 : (List Int)) (hF : beacon_bytes_v2 k v0 v1 = some v2) :
  FCall Try.prog 82 [AV.lst false true (List.map (AV.int .u8) v0), AV.lst false false (List.map (AV.int .i64) v1)] [] (AV.lst false false (List.map (AV.int .u8) v2)) [] := by
 unfold beacon_bytes_v2 at hF
 refine FCall.enter Try.func82 rfl (by simp) (by decide) (by simp) (by simp) (by simp) (by simp) (by simp) ?_
 intro c0 w0 Q h0 hQ
 refine AW.wk [(0, AV.lst false true (List.map (AV.int .u8) v0)), (1, AV.lst false false (List.map (AV.int .i64) v1))] [] 0 (by simp) (by simp) (by simp) ?_
 refine AW.seqR mixed [] [none] (by kernel_rfl) fun G734 R734 hG734 hR734 => ?_
 try simp
 repeat' apply And.intro
 any_goals (first | exact hG734 _ (by kernel_rfl) | refine hR734 _ _ _ ?_ | omega | (unfold maxLen; omega) | (simp; done) | (simp; omega))
 refine AW.wk [(0, AV.lst false true (List.map (AV.int .u8) v0)), (1, AV.lst false false (List.map (AV.int .i64) v1))] [] 0 (by simp) (by simp) (by simp) ?_
 refine AW.midF (α := (List Int)) (fun v3 => beacon_bytes_v2.J1 k v3 = some v2) (fun v3 => [(0, AV.lst false false (List.map (AV.int .u8) v3))]) (fun v3 => []) 0 (fun K1101 hK1101 => ?_) ?_
 ·refine AW.seqR mixed [] [none, none, none] (by kernel_rfl) fun G1102 R1102 hG1102 hR1102 => ?_
  try simp
  repeat' apply And.intro
  any_goals (first | exact hG1102 _ (by kernel_rfl) | refine hR1102 _ _ _ ?_ | omega | (unfold maxLen; omega) | (simp; done) | (simp; omega))
  refine AW.wk [(0, AV.lst false true (List.map (AV.int .u8) v0)), (8, AV.lst false false (List.map (AV.int .i64) v1)), (9, AV.int .i64 (v1.length : Int)), (10, AV.int .i64 0)] [] 0 (by simp) (by simp) (by simp) ?_
  refine AW.block ?_
  refine AW.loopF (α := Option (Int × (List Int))) (fun n o => match o with | none => beacon_bytes_v2.P4 k v0 v1 n = some v2 | some (v4, v5) => beacon_bytes_v2.L2 k v1 n v4 v5 = some v2) (fun o => match o with | none => [(0, AV.lst false true (List.map (AV.int .u8) v0)), (8, AV.lst false false (List.map (AV.int .i64) v1)), (9, AV.int .i64 (v1.length : Int)), (10, AV.int .i64 0)] | some (v4, v5) => [(0, AV.slc 0 0 1 v5.length false), (8, AV.lst false false (List.map (AV.int .i64) v1)), (9, AV.int .i64 (v1.length : Int)), (10, AV.int .i64 v4)]) (fun o => match o with | none => [] | some (v4, v5) => [(0, .grow (List.map (AV.int .u8) v5))]) 1 k none hF (by simp) (by simp) (by simp) ?_
  rintro (_|n2) (_|⟨v4, v5⟩) hF K1317 hK1317
  ·try dsimp only at hF
   rw [beacon_bytes_v2.P4] at hF; cases hF
  ·try dsimp only at hF
   rw [beacon_bytes_v2.L2] at hF; cases hF
  ·try dsimp only at hF
   rw [beacon_bytes_v2.P4] at hF
   refine AW.seqR mixed [] [none] (by kernel_rfl) fun G1385 R1385 hG1385 hR1385 => ?_
   try simp
   repeat' apply And.intro
   any_goals (first | exact hG1385 _ (by kernel_rfl) | refine hR1385 _ _ _ ?_ | omega | (unfold maxLen; omega) | (simp; done) | (simp; omega))
   refine AW.wk [(0, AV.lst false true (List.map (AV.int .u8) v0)), (8, AV.lst false false (List.map (AV.int .i64) v1)), (9, AV.int .i64 (v1.length : Int)), (10, AV.int .i64 0), (11, AV.bool (decide (0 < (v1.length : Int))))] [] 1 (by simp) (by simp) (by simp) ?_
   refine AW.seq fun K1386 hK1386 => ?_
   by_cases h8 : 0 < (v1.length : Int)
   ·replace hF := ite_t h8 hF
    have h8_ := h8
    try simp at h8_
    refine AW.condT (by decide) (by first | (simp [h8, h8_]; done) | (simp [h8, h8_]; omega)) ?_
    refine AW.skip ?_
    refine hK1386 _ _ _ ?_
    refine AW.seq fun K1426 hK1426 => ?_
    refine AW.block ?_
    refine AW.seqR mixed [] [none, none, none] (by kernel_rfl) fun G1427 R1427 hG1427 hR1427 => ?_
    obtain ⟨v9, h9, h10, h11, hF⟩ := idx_elim hF
    have h11_ := get_of h11
    try simp at h11_
    have h10_ := h10
    try simp at h10_
    have h11z := head_of h11
    have F1 := And.intro h8 (And.intro h8_ (And.intro h9 (And.intro h10 (And.intro h11 (And.intro h11_ (And.intro h10_ h11z))))))
    try simp [F1]
    repeat' apply And.intro
    any_goals (first | exact hG1427 _ (by kernel_rfl) | refine hR1427 _ _ _ ?_ | omega | (unfold maxLen; omega) | (simp [F1]; done) | (simp [F1]; omega))
    refine AW.wk [(0, AV.lst false true (List.map (AV.int .u8) v0)), (6, AV.int .i64 v9), (8, AV.lst false false (List.map (AV.int .i64) v1)), (9, AV.int .i64 (v1.length : Int)), (10, AV.int .i64 0)] [] 1 (by simp [F1]) (by simp [F1]) (by simp) ?_
    refine AW.seqR mixed [] [none] (by kernel_rfl) fun G1428 R1428 hG1428 hR1428 => ?_
    try simp [F1]
    repeat' apply And.intro
    any_goals (first | exact hG1428 _ (by kernel_rfl) | refine hR1428 _ _ _ ?_ | omega | (unfold maxLen; omega) | (simp [F1]; done) | (simp [F1]; omega))
    refine AW.wk [(0, AV.lst false true (List.map (AV.int .u8) v0)), (6, AV.int .i64 v9), (7, AV.int .i64 56), (8, AV.lst false false (List.map (AV.int .i64) v1)), (9, AV.int .i64 (v1.length : Int)), (10, AV.int .i64 0)] [] 1 (by simp [F1]) (by simp [F1]) (by simp) ?_
    refine AW.block ?_
    refine AW.loopF (α := Option (Int × (List Int))) (fun n o => match o with | none => beacon_bytes_v2.P6 k v0 v9 (fun v4_ v5_ => beacon_bytes_v2.L2 k v1 n2 v4_ v5_) n = some v2 | some (v10, v11) => beacon_bytes_v2.L5 k v9 (fun v4_ v5_ => beacon_bytes_v2.L2 k v1 n2 v4_ v5_) n v10 v11 = some v2) (fun o => match o with | none => [(0, AV.lst false true (List.map (AV.int .u8) v0)), (6, AV.int .i64 v9), (7, AV.int .i64 56), (8, AV.lst false false (List.map (AV.int .i64) v1)), (9, AV.int .i64 (v1.length : Int)), (10, AV.int .i64 0)] | some (v10, v11) => [(0, AV.slc 0 0 1 v11.length false), (6, AV.int .i64 v9), (7, AV.int .i64 v10), (8, AV.lst false false (List.map (AV.int .i64) v1)), (9, AV.int .i64 (v1.length : Int)), (10, AV.int .i64 0)]) (fun o => match o with | none => [] | some (v10, v11) => [(0, .grow (List.map (AV.int .u8) v11))]) 1 k none hF (by simp [F1]) (by simp [F1]) (by simp) ?_
    rintro (_|n5) (_|⟨v10, v11⟩) hF K1450 hK1450
    ·try dsimp only at hF
     rw [beacon_bytes_v2.P6] at hF; cases hF
    ·try dsimp only at hF
     rw [beacon_bytes_v2.L5] at hF; cases hF
    ·try dsimp only at hF
     rw [beacon_bytes_v2.P6] at hF
     refine AW.seq fun K1461 hK1461 => ?_
     refine AW.seqR mixed [] [none, none] (by kernel_rfl) fun G1462 R1462 hG1462 hR1462 => ?_
     try simp [F1]
     repeat' apply And.intro
     any_goals (first | exact hG1462 _ (by kernel_rfl) | refine hR1462 _ _ _ ?_ | omega | (unfold maxLen; omega) | (simp [F1]; done) | (simp [F1]; omega))
     refine AW.wk [(0, AV.lst false true (List.map (AV.int .u8) v0)), (6, AV.int .i64 v9), (7, AV.int .i64 56), (8, AV.lst false false (List.map (AV.int .i64) v1)), (9, AV.int .i64 (v1.length : Int)), (10, AV.int .i64 0), (15, AV.bool true)] [] 1 (by simp [F1]) (by simp [F1]) (by simp) ?_
     refine AW.condT (by decide) (by simp [F1]) ?_
     refine AW.skip ?_
     refine hK1461 _ _ _ ?_
     refine AW.seq fun K1464 hK1464 => ?_
     refine AW.block ?_
     refine AW.region mixed [25, 1000025] [none, none, none, none, none, none, none, none, none] (by kernel_rfl) fun G1465 R1465 hG1465 hR1465 => ?_
     obtain ⟨h15, hF⟩ := chk_elim hF
     have h15_ := h15
     try simp at h15_
     have F2 := And.intro F1 h15
     try simp [F2]
     repeat' apply And.intro
     any_goals (first | exact hG1465 _ (by kernel_rfl) | refine hR1465 _ _ _ ?_ | omega | (unfold maxLen; omega) | (simp [F2]; done) | (simp [F2]; omega))
     refine hK1464 _ _ _ ?_
     refine AW.wk [(0, AV.slc 1 0 1 ((v0 ++ ([IntKind.wrap .u8 (Int.fdiv (IntKind.wrap .u64 v9) (2 ^ (56)))] : List Int)).length) false), (6, AV.int .i64 v9), (7, AV.int .i64 56), (8, AV.lst false false (List.map (AV.int .i64) v1)), (9, AV.int .i64 (v1.length : Int)), (10, AV.int .i64 0)] [(1, .grow (List.map (AV.int .u8) (v0 ++ ([IntKind.wrap .u8 (Int.fdiv (IntKind.wrap .u64 v9) (2 ^ (56)))] : List Int))))] 2 (by simp [F2] <;> omega) (by simp [F2]) (by simp) ?_
     refine AW.region mixed [] [none, none, none] (by kernel_rfl) fun G1466 R1466 hG1466 hR1466 => ?_
     try simp [F2]
     repeat' apply And.intro
     any_goals (first | exact hG1466 _ (by kernel_rfl) | refine hR1466 _ _ _ ?_ | omega | (unfold maxLen; omega) | (simp [F2]; done) | (simp [F2]; omega))
     refine hK1450 _ _ _ ?_
     refine Can.weak [(0, AV.slc 1 0 1 ((v0 ++ ([IntKind.wrap .u8 (Int.fdiv (IntKind.wrap .u64 v9) (2 ^ (56)))] : List Int)).length) false), (6, AV.int .i64 v9), (7, AV.int .i64 (IntKind.wrap .i64 (56 - 8))), (8, AV.lst false false (List.map (AV.int .i64) v1)), (9, AV.int .i64 (v1.length : Int)), (10, AV.int .i64 0)] [(1, .grow (List.map (AV.int .u8) (v0 ++ ([IntKind.wrap .u8 (Int.fdiv (IntKind.wrap .u64 v9) (2 ^ (56)))] : List Int))))] 2 (by simp [F2] <;> omega) (by simp [F2]) (by simp) ?_
     refine Can.ren (m := 0) h0 [(0, 1)] [(0, AV.slc 0 0 1 ((v0 ++ ([IntKind.wrap .u8 (Int.fdiv (IntKind.wrap .u64 v9) (2 ^ (56)))] : List Int)).length) false), (6, AV.int .i64 v9), (7, AV.int .i64 (IntKind.wrap .i64 (56 - 8))), (8, AV.lst false false (List.map (AV.int .i64) v1)), (9, AV.int .i64 (v1.length : Int)), (10, AV.int .i64 0)] [(0, .grow (List.map (AV.int .u8) (v0 ++ ([IntKind.wrap .u8 (Int.fdiv (IntKind.wrap .u64 v9) (2 ^ (56)))] : List Int))))] 1 (by decide) (by decide) (by decide) rfl (by simp [F2]) (by simp [F2]) ?_
     exact Can.next (k' := n5) (some (IntKind.wrap .i64 (56 - 8), v0 ++ ([IntKind.wrap .u8 (Int.fdiv (IntKind.wrap .u64 v9) (2 ^ (56)))] : List Int))) (by omega) hF (by simp [F2]) (by simp [F2]) (by simp)
    ·try dsimp only at hF
     rw [beacon_bytes_v2.L5] at hF
     refine AW.seq fun K1452 hK1452 => ?_
     refine AW.seqR mixed [] [none, none] (by kernel_rfl) fun G1453 R1453 hG1453 hR1453 => ?_
     try simp [F1]
     repeat' apply And.intro
     any_goals (first | exact hG1453 _ (by kernel_rfl) | refine hR1453 _ _ _ ?_ | omega | (unfold maxLen; omega) | (simp [F1]; done) | (simp [F1]; omega))
     refine AW.wk [(0, AV.slc 0 0 1 v11.length false), (6, AV.int .i64 v9), (7, AV.int .i64 v10), (8, AV.lst false false (List.map (AV.int .i64) v1)), (9, AV.int .i64 (v1.length : Int)), (10, AV.int .i64 0), (15, AV.bool (decide (0 ≤ v10)))] [(0, .grow (List.map (AV.int .u8) v11))] 1 (by simp [F1]) (by simp [F1]) (by simp) ?_
     by_cases h12 : 0 ≤ v10
     ·replace hF := ite_t h12 hF
      have h12_ := h12
      try simp at h12_
      have F3 := And.intro F1 (And.intro h12 h12_)
      refine AW.condT (by decide) (by first | (simp [F3]; done) | (simp [F3]; omega)) ?_
      refine AW.skip ?_
      refine hK1452 _ _ _ ?_
      refine AW.seq fun K1455 hK1455 => ?_
      refine AW.block ?_
      refine AW.region mixed [] [none, none, none, none, none, none, none, none, none] (by kernel_rfl) fun G1456 R1456 hG1456 hR1456 => ?_
      obtain ⟨h13, hF⟩ := chk_elim hF
      obtain ⟨h14, hF⟩ := chk_elim hF
      have h14_ := h14
      try simp at h14_
      have F4 := And.intro F3 (And.intro h13 h14)
      try simp [F4]
      repeat' apply And.intro
      any_goals (first | exact hG1456 _ (by kernel_rfl) | refine hR1456 _ _ _ ?_ | omega | (unfold maxLen; omega) | (simp [F4]; done) | (simp [F4]; omega))
      refine hK1455 _ _ _ ?_
      refine AW.wk [(0, AV.slc 1 0 1 ((v11 ++ ([IntKind.wrap .u8 (Int.fdiv (IntKind.wrap .u64 v9) (2 ^ (min v10.toNat 64)))] : List Int)).length) false), (6, AV.int .i64 v9), (7, AV.int .i64 v10), (8, AV.lst false false (List.map (AV.int .i64) v1)), (9, AV.int .i64 (v1.length : Int)), (10, AV.int .i64 0)] [(1, .grow (List.map (AV.int .u8) (v11 ++ ([IntKind.wrap .u8 (Int.fdiv (IntKind.wrap .u64 v9) (2 ^ (min v10.toNat 64)))] : List Int))))] 2 (by simp [F4] <;> omega) (by simp [F4]) (by simp) ?_
      refine AW.region mixed [] [none, none, none] (by kernel_rfl) fun G1457 R1457 hG1457 hR1457 => ?_
      try simp [F4]
      repeat' apply And.intro
      any_goals (first | exact hG1457 _ (by kernel_rfl) | refine hR1457 _ _ _ ?_ | omega | (unfold maxLen; omega) | (simp [F4]; done) | (simp [F4]; omega))
      refine hK1450 _ _ _ ?_
      refine Can.weak [(0, AV.slc 1 0 1 ((v11 ++ ([IntKind.wrap .u8 (Int.fdiv (IntKind.wrap .u64 v9) (2 ^ (min v10.toNat 64)))] : List Int)).length) false), (6, AV.int .i64 v9), (7, AV.int .i64 (IntKind.wrap .i64 (v10 - 8))), (8, AV.lst false false (List.map (AV.int .i64) v1)), (9, AV.int .i64 (v1.length : Int)), (10, AV.int .i64 0)] [(1, .grow (List.map (AV.int .u8) (v11 ++ ([IntKind.wrap .u8 (Int.fdiv (IntKind.wrap .u64 v9) (2 ^ (min v10.toNat 64)))] : List Int))))] 2 (by simp [F4] <;> omega) (by simp [F4]) (by simp) ?_
      refine Can.ren (m := 0) h0 [(0, 1)] [(0, AV.slc 0 0 1 ((v11 ++ ([IntKind.wrap .u8 (Int.fdiv (IntKind.wrap .u64 v9) (2 ^ (min v10.toNat 64)))] : List Int)).length) false), (6, AV.int .i64 v9), (7, AV.int .i64 (IntKind.wrap .i64 (v10 - 8))), (8, AV.lst false false (List.map (AV.int .i64) v1)), (9, AV.int .i64 (v1.length : Int)), (10, AV.int .i64 0)] [(0, .grow (List.map (AV.int .u8) (v11 ++ ([IntKind.wrap .u8 (Int.fdiv (IntKind.wrap .u64 v9) (2 ^ (min v10.toNat 64)))] : List Int))))] 1 (by decide) (by decide) (by decide) rfl (by simp [F4]) (by simp [F4]) ?_
      exact Can.next (k' := n5) (some ((IntKind.wrap .i64 (v10 - 8), v11 ++ ([IntKind.wrap .u8 (Int.fdiv (IntKind.wrap .u64 v9) (2 ^ (min v10.toNat 64)))] : List Int)))) (by omega) hF (by simp [F4]) (by simp [F4]) (by simp)
     ·replace hF := ite_f h12 hF
      have h12_ := h12
      try simp at h12_
      have F5 := And.intro F1 (And.intro h12 h12_)
      refine AW.condF (by decide) (by first | (simp [F5]; done) | (simp [F5]; omega)) ?_
      refine AW.exit ?_
      try simp
      refine hK1426 _ _ _ ?_
      refine AW.region mixed [] [none, none] (by kernel_rfl) fun G1458 R1458 hG1458 hR1458 => ?_
      try simp [F5]
      repeat' apply And.intro
      any_goals (first | exact hG1458 _ (by kernel_rfl) | refine hR1458 _ _ _ ?_ | omega | (unfold maxLen; omega) | (simp [F5]; done) | (simp [F5]; omega))
      refine hK1317 _ _ _ ?_
      refine Can.weak [(0, AV.slc 0 0 1 v11.length false), (8, AV.lst false false (List.map (AV.int .i64) v1)), (9, AV.int .i64 (v1.length : Int)), (10, AV.int .i64 (IntKind.wrap .i64 (0 + 1)))] [(0, .grow (List.map (AV.int .u8) v11))] 1 (by simp [F5]) (by simp [F5]) (by simp) ?_
      exact Can.next (k' := n2) (some (IntKind.wrap .i64 (0 + 1), v11)) (by omega) hF (by simp [F5]) (by simp [F5]) (by simp)
   ·replace hF := ite_f h8 hF
    have h8_ := h8
    try simp at h8_
    refine AW.condF (by decide) (by first | (simp [h8, h8_]; done) | (simp [h8, h8_]; omega)) ?_
    refine AW.exit ?_
    try simp
    refine hK1101 _ _ _ ?_
    refine Can.ren (m := 0) h0 [] [(0, AV.lst false true (List.map (AV.int .u8) v0))] [] 0 (by decide) (by decide) (by decide) rfl (by simp [h8, h8_]) (by simp [h8, h8_]) ?_
    refine Can.flg [(0, AV.lst false false (List.map (AV.int .u8) v0))] [] ⟨(.lst (by simp)), trivial⟩ trivial (by simp) ?_
    exact Can.join (v0) hF (by simp [h8, h8_]) (by simp [h8, h8_]) (by simp)
  ·try dsimp only at hF
   rw [beacon_bytes_v2.L2] at hF
   refine AW.seqR mixed [] [none] (by kernel_rfl) fun G1318 R1318 hG1318 hR1318 => ?_
   try simp
   repeat' apply And.intro
   any_goals (first | exact hG1318 _ (by kernel_rfl) | refine hR1318 _ _ _ ?_ | omega | (unfold maxLen; omega) | (simp; done) | (simp; omega))
   refine AW.wk [(0, AV.slc 0 0 1 v5.length false), (8, AV.lst false false (List.map (AV.int .i64) v1)), (9, AV.int .i64 (v1.length : Int)), (10, AV.int .i64 v4), (11, AV.bool (decide (v4 < (v1.length : Int))))] [(0, .grow (List.map (AV.int .u8) v5))] 1 (by simp) (by simp) (by simp) ?_
   refine AW.seq fun K1319 hK1319 => ?_
   by_cases h1 : v4 < (v1.length : Int)
   ·replace hF := ite_t h1 hF
    have h1_ := h1
    try simp at h1_
    refine AW.condT (by decide) (by first | (simp [h1, h1_]; done) | (simp [h1, h1_]; omega)) ?_
    refine AW.skip ?_
    refine hK1319 _ _ _ ?_
    refine AW.seq fun K1351 hK1351 => ?_
    refine AW.block ?_
    refine AW.seqR mixed [] [none, none, none] (by kernel_rfl) fun G1352 R1352 hG1352 hR1352 => ?_
    obtain ⟨v6, h2, h3, h4, hF⟩ := idx_elim hF
    have h4_ := get_of h4
    try simp at h4_
    have h3_ := h3
    try simp at h3_
    have F6 := And.intro h1 (And.intro h1_ (And.intro h2 (And.intro h3 (And.intro h4 (And.intro h4_ h3_)))))
    try simp [F6]
    repeat' apply And.intro
    any_goals (first | exact hG1352 _ (by kernel_rfl) | refine hR1352 _ _ _ ?_ | omega | (unfold maxLen; omega) | (simp [F6]; done) | (simp [F6]; omega))
    refine AW.wk [(0, AV.slc 0 0 1 v5.length false), (6, AV.int .i64 v6), (8, AV.lst false false (List.map (AV.int .i64) v1)), (9, AV.int .i64 (v1.length : Int)), (10, AV.int .i64 v4)] [(0, .grow (List.map (AV.int .u8) v5))] 1 (by simp [F6]) (by simp [F6]) (by simp) ?_
    refine AW.seqR mixed [] [none] (by kernel_rfl) fun G1353 R1353 hG1353 hR1353 => ?_
    try simp [F6]
    repeat' apply And.intro
    any_goals (first | exact hG1353 _ (by kernel_rfl) | refine hR1353 _ _ _ ?_ | omega | (unfold maxLen; omega) | (simp [F6]; done) | (simp [F6]; omega))
    refine AW.wk [(0, AV.slc 0 0 1 v5.length false), (6, AV.int .i64 v6), (7, AV.int .i64 56), (8, AV.lst false false (List.map (AV.int .i64) v1)), (9, AV.int .i64 (v1.length : Int)), (10, AV.int .i64 v4)] [(0, .grow (List.map (AV.int .u8) v5))] 1 (by simp [F6]) (by simp [F6]) (by simp) ?_
    refine AW.block ?_
    refine AW.loopF (α := (Int × (List Int))) (fun n (v7, v8) => beacon_bytes_v2.L3 k v4 v6 (fun v4_ v5_ => beacon_bytes_v2.L2 k v1 n2 v4_ v5_) n v7 v8 = some v2) (fun (v7, v8) => [(0, AV.slc 0 0 1 v8.length false), (6, AV.int .i64 v6), (7, AV.int .i64 v7), (8, AV.lst false false (List.map (AV.int .i64) v1)), (9, AV.int .i64 (v1.length : Int)), (10, AV.int .i64 v4)]) (fun (v7, v8) => [(0, .grow (List.map (AV.int .u8) v8))]) 1 k ((56, v5)) hF (by simp [F6]) (by simp [F6]) (by simp) ?_
    rintro (_|n3) ⟨v7, v8⟩ hF K1375 hK1375
    ·try dsimp only at hF
     rw [beacon_bytes_v2.L3] at hF; cases hF
    try dsimp only at hF
    rw [beacon_bytes_v2.L3] at hF
    refine AW.seq fun K1377 hK1377 => ?_
    refine AW.seqR mixed [] [none, none] (by kernel_rfl) fun G1378 R1378 hG1378 hR1378 => ?_
    try simp [F6]
    repeat' apply And.intro
    any_goals (first | exact hG1378 _ (by kernel_rfl) | refine hR1378 _ _ _ ?_ | omega | (unfold maxLen; omega) | (simp [F6]; done) | (simp [F6]; omega))
    refine AW.wk [(0, AV.slc 0 0 1 v8.length false), (6, AV.int .i64 v6), (7, AV.int .i64 v7), (8, AV.lst false false (List.map (AV.int .i64) v1)), (9, AV.int .i64 (v1.length : Int)), (10, AV.int .i64 v4), (15, AV.bool (decide (0 ≤ v7)))] [(0, .grow (List.map (AV.int .u8) v8))] 1 (by simp [F6]) (by simp [F6]) (by simp) ?_
    by_cases h5 : 0 ≤ v7
    ·replace hF := ite_t h5 hF
     have h5_ := h5
     try simp at h5_
     have F7 := And.intro F6 (And.intro h5 h5_)
     refine AW.condT (by decide) (by first | (simp [F7]; done) | (simp [F7]; omega)) ?_
     refine AW.skip ?_
     refine hK1377 _ _ _ ?_
     refine AW.seq fun K1380 hK1380 => ?_
     refine AW.block ?_
     refine AW.region mixed [] [none, none, none, none, none, none, none, none, none] (by kernel_rfl) fun G1381 R1381 hG1381 hR1381 => ?_
     obtain ⟨h6, hF⟩ := chk_elim hF
     obtain ⟨h7, hF⟩ := chk_elim hF
     have h7_ := h7
     try simp at h7_
     have F8 := And.intro F7 (And.intro h6 h7)
     try simp [F8]
     repeat' apply And.intro
     any_goals (first | exact hG1381 _ (by kernel_rfl) | refine hR1381 _ _ _ ?_ | omega | (unfold maxLen; omega) | (simp [F8]; done) | (simp [F8]; omega))
     refine hK1380 _ _ _ ?_
     refine AW.wk [(0, AV.slc 1 0 1 ((v8 ++ ([IntKind.wrap .u8 (Int.fdiv (IntKind.wrap .u64 v6) (2 ^ (min v7.toNat 64)))] : List Int)).length) false), (6, AV.int .i64 v6), (7, AV.int .i64 v7), (8, AV.lst false false (List.map (AV.int .i64) v1)), (9, AV.int .i64 (v1.length : Int)), (10, AV.int .i64 v4)] [(1, .grow (List.map (AV.int .u8) (v8 ++ ([IntKind.wrap .u8 (Int.fdiv (IntKind.wrap .u64 v6) (2 ^ (min v7.toNat 64)))] : List Int))))] 2 (by simp [F8] <;> omega) (by simp [F8]) (by simp) ?_
     refine AW.region mixed [] [none, none, none] (by kernel_rfl) fun G1382 R1382 hG1382 hR1382 => ?_
     try simp [F8]
     repeat' apply And.intro
     any_goals (first | exact hG1382 _ (by kernel_rfl) | refine hR1382 _ _ _ ?_ | omega | (unfold maxLen; omega) | (simp [F8]; done) | (simp [F8]; omega))
     refine hK1375 _ _ _ ?_
     refine Can.weak [(0, AV.slc 1 0 1 ((v8 ++ ([IntKind.wrap .u8 (Int.fdiv (IntKind.wrap .u64 v6) (2 ^ (min v7.toNat 64)))] : List Int)).length) false), (6, AV.int .i64 v6), (7, AV.int .i64 (IntKind.wrap .i64 (v7 - 8))), (8, AV.lst false false (List.map (AV.int .i64) v1)), (9, AV.int .i64 (v1.length : Int)), (10, AV.int .i64 v4)] [(1, .grow (List.map (AV.int .u8) (v8 ++ ([IntKind.wrap .u8 (Int.fdiv (IntKind.wrap .u64 v6) (2 ^ (min v7.toNat 64)))] : List Int))))] 2 (by simp [F8] <;> omega) (by simp [F8]) (by simp) ?_
     refine Can.ren (m := 0) h0 [(0, 1)] [(0, AV.slc 0 0 1 ((v8 ++ ([IntKind.wrap .u8 (Int.fdiv (IntKind.wrap .u64 v6) (2 ^ (min v7.toNat 64)))] : List Int)).length) false), (6, AV.int .i64 v6), (7, AV.int .i64 (IntKind.wrap .i64 (v7 - 8))), (8, AV.lst false false (List.map (AV.int .i64) v1)), (9, AV.int .i64 (v1.length : Int)), (10, AV.int .i64 v4)] [(0, .grow (List.map (AV.int .u8) (v8 ++ ([IntKind.wrap .u8 (Int.fdiv (IntKind.wrap .u64 v6) (2 ^ (min v7.toNat 64)))] : List Int))))] 1 (by decide) (by decide) (by decide) rfl (by simp [F8]) (by simp [F8]) ?_
     exact Can.next (k' := n3) ((IntKind.wrap .i64 (v7 - 8), v8 ++ ([IntKind.wrap .u8 (Int.fdiv (IntKind.wrap .u64 v6) (2 ^ (min v7.toNat 64)))] : List Int))) (by omega) hF (by simp [F8]) (by simp [F8]) (by simp)
    ·replace hF := ite_f h5 hF
     have h5_ := h5
     try simp at h5_
     have F9 := And.intro F6 (And.intro h5 h5_)
     refine AW.condF (by decide) (by first | (simp [F9]; done) | (simp [F9]; omega)) ?_
     refine AW.exit ?_
     try simp
     refine hK1351 _ _ _ ?_
     refine AW.region mixed [] [none, none] (by kernel_rfl) fun G1383 R1383 hG1383 hR1383 => ?_
     try simp [F9]
     repeat' apply And.intro
     any_goals (first | exact hG1383 _ (by kernel_rfl) | refine hR1383 _ _ _ ?_ | omega | (unfold maxLen; omega) | (simp [F9]; done) | (simp [F9]; omega))
     refine hK1317 _ _ _ ?_
     refine Can.weak [(0, AV.slc 0 0 1 v8.length false), (8, AV.lst false false (List.map (AV.int .i64) v1)), (9, AV.int .i64 (v1.length : Int)), (10, AV.int .i64 (IntKind.wrap .i64 (v4 + 1)))] [(0, .grow (List.map (AV.int .u8) v8))] 1 (by simp [F9]) (by simp [F9]) (by simp) ?_
     exact Can.next (k' := n2) (some ((IntKind.wrap .i64 (v4 + 1), v8))) (by omega) hF (by simp [F9]) (by simp [F9]) (by simp)
   ·replace hF := ite_f h1 hF
    have h1_ := h1
    try simp at h1_
    refine AW.condF (by decide) (by first | (simp [h1, h1_]; done) | (simp [h1, h1_]; omega)) ?_
    refine AW.exit ?_
    try simp
    refine hK1101 _ _ _ ?_
    refine Can.freeze 0 (o := .grow (List.map (AV.int .u8) v5)) (by simp [h1, h1_]) rfl [(0, AV.lst false false (List.map (AV.int .u8) v5))] [] ⟨(.l (by simp) (by simp) (by simp) (by simp)), trivial⟩ trivial ?_
    refine Can.ren (m := 0) h0 [] [(0, AV.lst false false (List.map (AV.int .u8) v5))] [] 0 (by decide) (by decide) (by decide) rfl (by simp [h1, h1_]) (by simp [h1, h1_]) ?_
    exact Can.join (v5) hF (by simp [h1, h1_]) (by simp [h1, h1_]) (by simp)
 ·rintro v3 hF
  try dsimp only at hF
  unfold beacon_bytes_v2.J1 at hF
  refine AW.seqR mixed [] [none, none] (by kernel_rfl) fun G1100 R1100 hG1100 hR1100 => ?_
  try simp
  repeat' apply And.intro
  any_goals (first | exact hG1100 _ (by kernel_rfl) | refine hR1100 _ _ _ ?_ | omega | (unfold maxLen; omega) | (simp; done) | (simp; omega))
  refine AW.wk [(4, AV.lst false false (List.map (AV.int .u8) v3))] [] 0 (by simp) (by simp) (by simp) ?_
  simp only [Option.some.injEq] at hF
  subst hF
  refine AW.ret (hQ _ _ _ ?_ (matchO_0 ?_)).1
  ·simp [Try.f82]
  ·simp
set_option maxHeartbeats 4000000 in
theorem w_digest_rounds (k : Nat) (v0 : (List Int)) (hF : digest_rounds k = some v0) :
  FCall Try.prog 58 [] [] (AV.agg (List.map (AV.int .u32) v0)) [] := by
 unfold digest_rounds at hF
 refine FCall.enter Try.func58 rfl (by simp) (by decide) (by simp) (by simp) (by simp) (by simp) (by simp) ?_
 intro c0 w0 Q h0 hQ
 refine AW.wk [] [] 0 (by simp) (by simp) (by simp) ?_
 refine AW.seqR mixed [] [none] (by kernel_rfl) fun G3 R3 hG3 hR3 => ?_
 try simp
 repeat' apply And.intro
 any_goals (first | exact hG3 _ (by kernel_rfl) | refine hR3 _ _ _ ?_ | omega | (unfold maxLen; omega) | (simp; done) | (simp; omega))
 refine AW.wk [(0, AV.ptr 0 0)] [(0, .cells (List.map (AV.int .u32) (List.replicate 64 0)))] 1 (by simp) (by simp) (by simp) ?_
 refine AW.seqR mixed [] [none, none] (by kernel_rfl) fun G4 R4 hG4 hR4 => ?_
 obtain ⟨h1, hF⟩ := chk_elim hF
 try simp [h1]
 repeat' apply And.intro
 any_goals (first | exact hG4 _ (by kernel_rfl) | refine hR4 _ _ _ ?_ | omega | (unfold maxLen; omega) | (simp [h1]; done) | (simp [h1]; omega))
 refine AW.wk [(0, AV.ptr 0 0)] [(0, .cells (List.map (AV.int .u32) ([1116352408, 1899447441, 3049323471, 3921009573, 961987163, 1508970993, 2453635748, 2870763221, 3624381080, 310598401, 607225278, 1426881987, 1925078388, 2162078206, 2614888103, 3248222580, 3835390401, 4022224774, 264347078, 604807628, 770255983, 1249150122, 1555081692, 1996064986, 2554220882, 2821834349, 2952996808, 3210313671, 3336571891, 3584528711, 113926993, 338241895, 666307205, 773529912, 1294757372, 1396182291, 1695183700, 1986661051, 2177026350, 2456956037, 2730485921, 2820302411, 3259730800, 3345764771, 3516065817, 3600352804, 4094571909, 275423344, 430227734, 506948616, 659060556, 883997877, 958139571, 1322822218, 1537002063, 1747873779, 1955562222, 2024104815, 2227730452, 2361852424, 2428436474, 2756734187, 3204031479, 3329325298] : List Int)))] 1 (by simp [h1]) (by simp [h1]) (by simp) ?_
 obtain ⟨h2, hF⟩ := chk_elim hF
 have h2_ := ne_of_len h2 (by decide)
 simp only [Option.some.injEq] at hF
 subst hF
 refine AW.ret (hQ _ _ _ ?_ (matchO_0 ?_)).1
 ·have F1 := And.intro h1 (And.intro h2 h2_)
  simp [Try.f58, F1]
 ·have F2 := And.intro h1 (And.intro h2 h2_)
  simp [F2]
set_option maxHeartbeats 4000000 in
theorem w_math_bits_RotateLeft32 (k : Nat) (v0 : Int) (v1 : Int) (v2 : Int) (hF : math_bits_RotateLeft32 k v0 v1 = some v2) :
  FCall Try.prog 94 [AV.int .u32 v0, AV.int .i64 v1] [] (AV.int .u32 v2) [] := by
 unfold math_bits_RotateLeft32 at hF
 refine FCall.enter Try.func94 rfl (by simp) (by decide) (by simp) (by simp) (by simp) (by simp) (by simp) ?_
 intro c0 w0 Q h0 hQ
 refine AW.wk [(0, AV.int .u32 v0), (1, AV.int .i64 v1)] [] 0 (by simp) (by simp) (by simp) ?_
 refine AW.seqR mixed [] [none] (by kernel_rfl) fun G4 R4 hG4 hR4 => ?_
 try simp
 repeat' apply And.intro
 any_goals (first | exact hG4 _ (by kernel_rfl) | refine hR4 _ _ _ ?_ | omega | (unfold maxLen; omega) | (simp; done) | (simp; omega))
 refine AW.wk [(0, AV.int .u32 v0), (1, AV.int .i64 v1)] [] 0 (by simp) (by simp) (by simp) ?_
 refine AW.seqR mixed [] [none, none, none, none] (by kernel_rfl) fun G5 R5 hG5 hR5 => ?_
 try simp
 repeat' apply And.intro
 any_goals (first | exact hG5 _ (by kernel_rfl) | refine hR5 _ _ _ ?_ | omega | (unfold maxLen; omega) | (simp; done) | (simp; omega))
 refine AW.wk [(0, AV.int .u32 v0), (5, AV.int .u64 (bitsV .and .u64 (IntKind.wrap .u64 v1) 31))] [] 0 (by simp) (by simp) (by simp) ?_
 refine AW.seqR mixed [] [none, none, none, none, none, none, none, none, none] (by kernel_rfl) fun G6 R6 hG6 hR6 => ?_
 obtain ⟨h1, hF⟩ := chk_elim hF
 obtain ⟨h2, hF⟩ := chk_elim hF
 try simp [h1, h2]
 repeat' apply And.intro
 any_goals (first | exact hG6 _ (by kernel_rfl) | refine hR6 _ _ _ ?_ | omega | (unfold maxLen; omega) | (simp [h1, h2]; done) | (simp [h1, h2]; omega))
 refine AW.wk [(4, AV.int .u32 (bitsV .or .u32 (IntKind.wrap .u32 (v0 * 2 ^ (min ((bitsV .and .u64 (IntKind.wrap .u64 v1) 31).toNat) 32))) (Int.fdiv v0 (2 ^ (min ((IntKind.wrap .u64 (32 - bitsV .and .u64 (IntKind.wrap .u64 v1) 31)).toNat) 32)))))] [] 0 (by simp [h1, h2]) (by simp [h1, h2]) (by simp) ?_
 simp only [Option.some.injEq] at hF
 subst hF
 refine AW.ret (hQ _ _ _ ?_ (matchO_0 ?_)).1
 ·simp [Try.f94, h1, h2]
 ·simp [h1, h2]
set_option maxHeartbeats 4000000 in
theorem w_digest_state_block_1 (k : Nat) (v0 : Int) (v1 : Int) (v2 : Int) (hF : digest_state_block_1 k v0 v1 = some v2) :
  FCall Try.prog 93 [AV.int .u32 v0, AV.int .i64 v1] [] (AV.int .u32 v2) [] := by
 unfold digest_state_block_1 at hF
 refine FCall.enter Try.func93 rfl (by simp) (by decide) (by simp) (by simp) (by simp) (by simp) (by simp) ?_
 intro c0 w0 Q h0 hQ
 refine AW.wk [(0, AV.int .u32 v0), (1, AV.int .i64 v1)] [] 0 (by simp) (by simp) (by simp) ?_
 refine AW.seqR mixed [] [none] (by kernel_rfl) fun G3 R3 hG3 hR3 => ?_
 try simp
 repeat' apply And.intro
 any_goals (first | exact hG3 _ (by kernel_rfl) | refine hR3 _ _ _ ?_ | omega | (unfold maxLen; omega) | (simp; done) | (simp; omega))
 refine AW.wk [(0, AV.int .u32 v0), (1, AV.int .i64 v1)] [] 0 (by simp) (by simp) (by simp) ?_
 refine AW.seqR mixed [] [none, none, none, none, none] (by kernel_rfl) fun G4 R4 hG4 hR4 => ?_
 try simp
 repeat' apply And.intro
 try any_goals (first | omega | (unfold maxLen; omega) | (simp; done))
 obtain ⟨v3, h1, hF⟩ := bnd1_elim hF
 refine aCall_l (w_math_bits_RotateLeft32 k _ _ _ h1) (by simp) [] [] [] rfl (.cons (.same (by simp)) (.cons (.same (by simp)) .nil)) (by simp) (by decide) (by simp) (by simp) (.inl rfl) (by simp) (by simp) ?_
 try simp
 repeat' apply And.intro
 any_goals (first | exact hG4 _ (by kernel_rfl) | refine hR4 _ _ _ ?_ | omega | (unfold maxLen; omega) | (simp; done) | (simp; omega))
 refine AW.wk [(4, AV.int .u32 v3)] [] 0 (by simp) (by simp) (by simp) ?_
 simp only [Option.some.injEq] at hF
 subst hF
 refine AW.ret (hQ _ _ _ ?_ (matchO_0 ?_)).1
 ·simp [Try.f93]
 ·simp
set_option maxHeartbeats 4000000 in
theorem w_digest_state_block (k : Nat) (v0 : (List Int)) (v1 : (List Int)) (v2 : (List Int)) (v3 : (List Int)) (hF : digest_state_block k v0 v1 v2 = some v3) :
  FCall Try.prog 59 [AV.ptr 0 0, AV.lst false false (List.map (AV.int .u8) v1), AV.ptr 1 0] [.cells (List.map (AV.int .u32) v0), .cells (List.map (AV.int .u32) v2)] (AV.tup []) [some (.cells (List.map (AV.int .u32) v3)), some (.cells (List.map (AV.int .u32) v2))] := by
 unfold digest_state_block at hF
 refine FCall.enter Try.func59 rfl (by simp) (by decide) (by simp) (by simp) (by simp) (by simp) (by simp) ?_
 intro c0 w0 Q h0 hQ
 refine AW.wk [(0, AV.ptr 0 0), (1, AV.lst false false (List.map (AV.int .u8) v1)), (2, AV.ptr 1 0)] [(0, .cells (List.map (AV.int .u32) v0)), (1, .cells (List.map (AV.int .u32) v2))] 2 (by simp) (by simp) (by simp) ?_
 refine AW.seqR mixed [] [none] (by kernel_rfl) fun G301 R301 hG301 hR301 => ?_
 try simp
 repeat' apply And.intro
 any_goals (first | exact hG301 _ (by kernel_rfl) | refine hR301 _ _ _ ?_ | omega | (unfold maxLen; omega) | (simp; done) | (simp; omega))
 refine AW.wk [(0, AV.ptr 0 0), (1, AV.lst false false (List.map (AV.int .u8) v1)), (2, AV.ptr 1 0), (6, AV.ptr 2 0)] [(0, .cells (List.map (AV.int .u32) v0)), (1, .cells (List.map (AV.int .u32) v2)), (2, .cells (List.map (AV.int .u32) (List.replicate 64 0)))] 3 (by simp) (by simp) (by simp) ?_
 refine AW.seq fun K336 hK336 => ?_
 refine AW.seqR mixed [] [none] (by kernel_rfl) fun G337 R337 hG337 hR337 => ?_
 try simp
 repeat' apply And.intro
 any_goals (first | exact hG337 _ (by kernel_rfl) | refine hR337 _ _ _ ?_ | omega | (unfold maxLen; omega) | (simp; done) | (simp; omega))
 refine AW.wk [(0, AV.ptr 0 0), (1, AV.lst false false (List.map (AV.int .u8) v1)), (2, AV.ptr 1 0), (6, AV.ptr 2 0), (19, AV.int .i64 0)] [(0, .cells (List.map (AV.int .u32) v0)), (1, .cells (List.map (AV.int .u32) v2)), (2, .cells (List.map (AV.int .u32) (List.replicate 64 0)))] 3 (by simp) (by simp) (by simp) ?_
 refine AW.block ?_
 refine AW.loopF (α := (Int × (List Int))) (fun n (v4, v5) => digest_state_block.L1 k v0 v1 v2 n v4 v5 = some v3) (fun (v4, v5) => [(0, AV.ptr 0 0), (1, AV.lst false false (List.map (AV.int .u8) v1)), (2, AV.ptr 1 0), (6, AV.ptr 2 0), (19, AV.int .i64 v4)]) (fun (v4, v5) => [(0, .cells (List.map (AV.int .u32) v0)), (1, .cells (List.map (AV.int .u32) v2)), (2, .cells (List.map (AV.int .u32) v5))]) 3 k ((0, (List.replicate 64 0))) hF (by simp) (by simp) (by simp) ?_
 rintro (_|n1) ⟨v4, v5⟩ hF K362 hK362
 ·try dsimp only at hF
  rw [digest_state_block.L1] at hF; cases hF
 try dsimp only at hF
 rw [digest_state_block.L1] at hF
 refine AW.seqR mixed [] [none] (by kernel_rfl) fun G363 R363 hG363 hR363 => ?_
 try simp
 repeat' apply And.intro
 any_goals (first | exact hG363 _ (by kernel_rfl) | refine hR363 _ _ _ ?_ | omega | (unfold maxLen; omega) | (simp; done) | (simp; omega))
 refine AW.wk [(0, AV.ptr 0 0), (1, AV.lst false false (List.map (AV.int .u8) v1)), (2, AV.ptr 1 0), (6, AV.ptr 2 0), (19, AV.int .i64 v4), (20, AV.bool (decide (v4 < 16)))] [(0, .cells (List.map (AV.int .u32) v0)), (1, .cells (List.map (AV.int .u32) v2)), (2, .cells (List.map (AV.int .u32) v5))] 3 (by simp) (by simp) (by simp) ?_
 refine AW.seq fun K364 hK364 => ?_
 by_cases h1 : v4 < 16
 ·replace hF := ite_t h1 hF
  have h1_ := h1
  try simp at h1_
  refine AW.condT (by decide) (by first | (simp [h1, h1_]; done) | (simp [h1, h1_]; omega)) ?_
  refine AW.skip ?_
  refine hK364 _ _ _ ?_
  refine AW.seq fun K367 hK367 => ?_
  refine AW.block ?_
  refine AW.seqR mixed [] [none, none] (by kernel_rfl) fun G368 R368 hG368 hR368 => ?_
  try simp [h1, h1_]
  repeat' apply And.intro
  any_goals (first | exact hG368 _ (by kernel_rfl) | refine hR368 _ _ _ ?_ | omega | (unfold maxLen; omega) | (simp [h1, h1_]; done) | (simp [h1, h1_]; omega))
  refine AW.wk [(0, AV.ptr 0 0), (1, AV.lst false false (List.map (AV.int .u8) v1)), (2, AV.ptr 1 0), (6, AV.ptr 2 0), (7, AV.int .i64 v4), (19, AV.int .i64 v4)] [(0, .cells (List.map (AV.int .u32) v0)), (1, .cells (List.map (AV.int .u32) v2)), (2, .cells (List.map (AV.int .u32) v5))] 3 (by simp [h1, h1_]) (by simp [h1, h1_]) (by simp) ?_
  refine AW.region mixed [] [none, none, none, none, none, none, none, none, none, none, none, none, none, none, none, none, none, none, none, none, none, none, none, none, none, none, none, none, none, none, none, none, none, none, none, none] (by kernel_rfl) fun G369 R369 hG369 hR369 => ?_
  obtain ⟨v6, h2, h3, h4, hF⟩ := idx_elim hF
  have h4_ := get_of h4
  try simp at h4_
  have h3_ := h3
  try simp at h3_
  obtain ⟨v7, h5, h6, h7, hF⟩ := idx_elim hF
  have h7_ := get_of h7
  try simp at h7_
  have h6_ := h6
  try simp at h6_
  obtain ⟨v8, h8, h9, h10, hF⟩ := idx_elim hF
  have h10_ := get_of h10
  try simp at h10_
  have h9_ := h9
  try simp at h9_
  obtain ⟨v9, h11, h12, h13, hF⟩ := idx_elim hF
  have h13_ := get_of h13
  try simp at h13_
  have h12_ := h12
  try simp at h12_
  obtain ⟨⟨h14, h16, h15⟩, hF⟩ := chk_elim hF
  have h15_ := ne_of_lt h15
  have F1 := And.intro h1 (And.intro h1_ (And.intro h2 (And.intro h3 (And.intro h4 (And.intro h4_ (And.intro h3_ (And.intro h5 (And.intro h6 (And.intro h7 (And.intro h7_ (And.intro h6_ (And.intro h8 (And.intro h9 (And.intro h10 (And.intro h10_ (And.intro h9_ (And.intro h11 (And.intro h12 (And.intro h13 (And.intro h13_ (And.intro h12_ (And.intro h14 (And.intro h15 (And.intro h16 h15_))))))))))))))))))))))))
  try simp [F1]
  repeat' apply And.intro
  any_goals (first | exact hG369 _ (by kernel_rfl) | refine hR369 _ _ _ ?_ | omega | (unfold maxLen; omega) | (simp [F1]; done) | (simp [F1]; omega))
  refine hK367 _ _ _ ?_
  refine AW.wk [(0, AV.ptr 0 0), (1, AV.lst false false (List.map (AV.int .u8) v1)), (2, AV.ptr 1 0), (6, AV.ptr 2 0), (19, AV.int .i64 v4)] [(0, .cells (List.map (AV.int .u32) v0)), (1, .cells (List.map (AV.int .u32) v2)), (2, .cells (List.map (AV.int .u32) (v5.set (v4).toNat (bitsV .or .u32 (bitsV .or .u32 (bitsV .or .u32 (IntKind.wrap .u32 ((IntKind.wrap .u32 v6) * 2 ^ (24))) (IntKind.wrap .u32 ((IntKind.wrap .u32 v7) * 2 ^ (16)))) (IntKind.wrap .u32 ((IntKind.wrap .u32 v8) * 2 ^ (8)))) (IntKind.wrap .u32 v9)))))] 3 (by simp [F1]) (by simp [F1]) (by simp) ?_
  refine AW.region mixed [] [none, none] (by kernel_rfl) fun G370 R370 hG370 hR370 => ?_
  try simp [F1]
  repeat' apply And.intro
  any_goals (first | exact hG370 _ (by kernel_rfl) | refine hR370 _ _ _ ?_ | omega | (unfold maxLen; omega) | (simp [F1]; done) | (simp [F1]; omega))
  refine hK362 _ _ _ ?_
  refine Can.weak [(0, AV.ptr 0 0), (1, AV.lst false false (List.map (AV.int .u8) v1)), (2, AV.ptr 1 0), (6, AV.ptr 2 0), (19, AV.int .i64 (IntKind.wrap .i64 (v4 + 1)))] [(0, .cells (List.map (AV.int .u32) v0)), (1, .cells (List.map (AV.int .u32) v2)), (2, .cells (List.map (AV.int .u32) (v5.set (v4).toNat (bitsV .or .u32 (bitsV .or .u32 (bitsV .or .u32 (IntKind.wrap .u32 ((IntKind.wrap .u32 v6) * 2 ^ (24))) (IntKind.wrap .u32 ((IntKind.wrap .u32 v7) * 2 ^ (16)))) (IntKind.wrap .u32 ((IntKind.wrap .u32 v8) * 2 ^ (8)))) (IntKind.wrap .u32 v9)))))] 3 (by simp [F1]) (by simp [F1]) (by simp) ?_
  exact Can.next (k' := n1) ((IntKind.wrap .i64 (v4 + 1), v5.set (v4).toNat (bitsV .or .u32 (bitsV .or .u32 (bitsV .or .u32 (IntKind.wrap .u32 ((IntKind.wrap .u32 v6) * 2 ^ (24))) (IntKind.wrap .u32 ((IntKind.wrap .u32 v7) * 2 ^ (16)))) (IntKind.wrap .u32 ((IntKind.wrap .u32 v8) * 2 ^ (8)))) (IntKind.wrap .u32 v9)))) (by omega) hF (by simp [F1]) (by simp [F1]) (by simp)
 ·replace hF := ite_f h1 hF
  have h1_ := h1
  try simp at h1_
  refine AW.condF (by decide) (by first | (simp [h1, h1_]; done) | (simp [h1, h1_]; omega)) ?_
  refine AW.exit ?_
  try simp
  refine hK336 _ _ _ ?_
  refine AW.seqR mixed [] [none] (by kernel_rfl) fun G371 R371 hG371 hR371 => ?_
  try simp [h1, h1_]
  repeat' apply And.intro
  any_goals (first | exact hG371 _ (by kernel_rfl) | refine hR371 _ _ _ ?_ | omega | (unfold maxLen; omega) | (simp [h1, h1_]; done) | (simp [h1, h1_]; omega))
  refine AW.wk [(0, AV.ptr 0 0), (2, AV.ptr 1 0), (6, AV.ptr 2 0), (8, AV.fn 93 [])] [(0, .cells (List.map (AV.int .u32) v0)), (1, .cells (List.map (AV.int .u32) v2)), (2, .cells (List.map (AV.int .u32) v5))] 3 (by simp [h1, h1_]) (by simp [h1, h1_]) (by simp) ?_
  refine AW.seq fun K410 hK410 => ?_
  refine AW.seqR mixed [] [none] (by kernel_rfl) fun G411 R411 hG411 hR411 => ?_
  try simp [h1, h1_]
  repeat' apply And.intro
  any_goals (first | exact hG411 _ (by kernel_rfl) | refine hR411 _ _ _ ?_ | omega | (unfold maxLen; omega) | (simp [h1, h1_]; done) | (simp [h1, h1_]; omega))
  refine AW.wk [(0, AV.ptr 0 0), (2, AV.ptr 1 0), (6, AV.ptr 2 0), (8, AV.fn 93 []), (9, AV.int .i64 16)] [(0, .cells (List.map (AV.int .u32) v0)), (1, .cells (List.map (AV.int .u32) v2)), (2, .cells (List.map (AV.int .u32) v5))] 3 (by simp [h1, h1_]) (by simp [h1, h1_]) (by simp) ?_
  refine AW.block ?_
  refine AW.loopF (α := (Int × (List Int))) (fun n (v10, v11) => digest_state_block.L2 k v0 v2 n v10 v11 = some v3) (fun (v10, v11) => [(0, AV.ptr 0 0), (2, AV.ptr 1 0), (6, AV.ptr 2 0), (8, AV.fn 93 []), (9, AV.int .i64 v10)]) (fun (v10, v11) => [(0, .cells (List.map (AV.int .u32) v0)), (1, .cells (List.map (AV.int .u32) v2)), (2, .cells (List.map (AV.int .u32) v11))]) 3 k ((16, v5)) hF (by simp [h1, h1_]) (by simp [h1, h1_]) (by simp) ?_
  rintro (_|n2) ⟨v10, v11⟩ hF K439 hK439
  ·try dsimp only at hF
   rw [digest_state_block.L2] at hF; cases hF
  try dsimp only at hF
  rw [digest_state_block.L2] at hF
  refine AW.seq fun K441 hK441 => ?_
  refine AW.seqR mixed [] [none, none] (by kernel_rfl) fun G442 R442 hG442 hR442 => ?_
  try simp [h1, h1_]
  repeat' apply And.intro
  any_goals (first | exact hG442 _ (by kernel_rfl) | refine hR442 _ _ _ ?_ | omega | (unfold maxLen; omega) | (simp [h1, h1_]; done) | (simp [h1, h1_]; omega))
  refine AW.wk [(0, AV.ptr 0 0), (2, AV.ptr 1 0), (6, AV.ptr 2 0), (8, AV.fn 93 []), (9, AV.int .i64 v10), (59, AV.bool (decide (v10 < 64)))] [(0, .cells (List.map (AV.int .u32) v0)), (1, .cells (List.map (AV.int .u32) v2)), (2, .cells (List.map (AV.int .u32) v11))] 3 (by simp [h1, h1_]) (by simp [h1, h1_]) (by simp) ?_
  by_cases h17 : v10 < 64
  ·replace hF := ite_t h17 hF
   have h17_ := h17
   try simp at h17_
   have F2 := And.intro h1 (And.intro h1_ (And.intro h17 h17_))
   refine AW.condT (by decide) (by first | (simp [F2]; done) | (simp [F2]; omega)) ?_
   refine AW.skip ?_
   refine hK441 _ _ _ ?_
   refine AW.seq fun K445 hK445 => ?_
   refine AW.block ?_
   refine AW.seqR mixed [] [none, none, none, none, none, none, none, none, none, none] (by kernel_rfl) fun G446 R446 hG446 hR446 => ?_
   obtain ⟨⟨h18, h20, h19⟩, hF⟩ := chk_elim hF
   have h19_ := ne_of_lt h19
   obtain ⟨v12, h21, h22, h23, hF⟩ := idx_elim hF
   have h23_ := get_of h23
   try simp at h23_
   have h22_ := h22
   try simp at h22_
   obtain ⟨⟨h24, h26, h25⟩, hF⟩ := chk_elim hF
   have h25_ := ne_of_lt h25
   obtain ⟨v13, h27, h28, h29, hF⟩ := idx_elim hF
   have h29_ := get_of h29
   try simp at h29_
   have h28_ := h28
   try simp at h28_
   have F3 := And.intro F2 (And.intro h18 (And.intro h19 (And.intro h20 (And.intro h19_ (And.intro h21 (And.intro h22 (And.intro h23 (And.intro h23_ (And.intro h22_ (And.intro h24 (And.intro h25 (And.intro h26 (And.intro h25_ (And.intro h27 (And.intro h28 (And.intro h29 (And.intro h29_ h28_)))))))))))))))))
   try simp [F3]
   repeat' apply And.intro
   any_goals (first | exact hG446 _ (by kernel_rfl) | refine hR446 _ _ _ ?_ | omega | (unfold maxLen; omega) | (simp [F3]; done) | (simp [F3]; omega))
   refine AW.wk [(0, AV.ptr 0 0), (2, AV.ptr 1 0), (6, AV.ptr 2 0), (8, AV.fn 93 []), (9, AV.int .i64 v10), (10, AV.int .u32 v12), (11, AV.int .u32 v13)] [(0, .cells (List.map (AV.int .u32) v0)), (1, .cells (List.map (AV.int .u32) v2)), (2, .cells (List.map (AV.int .u32) v11))] 3 (by simp [F3]) (by simp [F3]) (by simp) ?_
   refine AW.region mixed [] [none, none, none, none, none, none, none, none, none, none, none, none, none, none, none, none, none, none, none, none, none, none, none, none, none, none, none, none, none, none, none, none, none, none] (by kernel_rfl) fun G447 R447 hG447 hR447 => ?_
   obtain ⟨⟨h30, h32, h31⟩, hF⟩ := chk_elim hF
   have h31_ := ne_of_lt h31
   obtain ⟨v14, h33, h34, h35, hF⟩ := idx_elim hF
   have h35_ := get_of h35
   try simp at h35_
   have h34_ := h34
   try simp at h34_
   have F4 := And.intro F3 (And.intro h30 (And.intro h31 (And.intro h32 (And.intro h31_ (And.intro h33 (And.intro h34 (And.intro h35 (And.intro h35_ h34_))))))))
   try simp [F4]
   repeat' apply And.intro
   try any_goals (first | omega | (unfold maxLen; omega) | (simp [F4]; done))
   obtain ⟨v15, h36, hF⟩ := bnd1_elim hF
   refine aCall_l (w_digest_state_block_1 k _ _ _ h36) (by simp) [] [] [] rfl (.cons (.same (by simp [F4])) (.cons (.same (by simp [F4])) .nil)) (by simp [F4]) (by decide) (by simp) (by simp) (.inl rfl) (by simp) (by simp) ?_
   try simp [F4]
   repeat' apply And.intro
   try any_goals (first | omega | (unfold maxLen; omega) | (simp [F4]; done))
   obtain ⟨v16, h37, hF⟩ := bnd1_elim hF
   refine aCall_l (w_digest_state_block_1 k _ _ _ h37) (by simp) [] [] [] rfl (.cons (.same (by simp [F4])) (.cons (.same (by simp [F4])) .nil)) (by simp [F4]) (by decide) (by simp) (by simp) (.inl rfl) (by simp) (by simp) ?_
   obtain ⟨⟨h38, h40, h39⟩, hF⟩ := chk_elim hF
   have h39_ := ne_of_lt h39
   obtain ⟨v17, h41, h42, h43, hF⟩ := idx_elim hF
   have h43_ := get_of h43
   try simp at h43_
   have h42_ := h42
   try simp at h42_
   have F5 := And.intro F4 (And.intro h38 (And.intro h39 (And.intro h40 (And.intro h39_ (And.intro h41 (And.intro h42 (And.intro h43 (And.intro h43_ h42_))))))))
   try simp [F5]
   repeat' apply And.intro
   try any_goals (first | omega | (unfold maxLen; omega) | (simp [F5]; done))
   obtain ⟨v18, h44, hF⟩ := bnd1_elim hF
   refine aCall_l (w_digest_state_block_1 k _ _ _ h44) (by simp) [] [] [] rfl (.cons (.same (by simp [F5])) (.cons (.same (by simp [F5])) .nil)) (by simp [F5]) (by decide) (by simp) (by simp) (.inl rfl) (by simp) (by simp) ?_
   try simp [F5]
   repeat' apply And.intro
   try any_goals (first | omega | (unfold maxLen; omega) | (simp [F5]; done))
   obtain ⟨v19, h45, hF⟩ := bnd1_elim hF
   refine aCall_l (w_digest_state_block_1 k _ _ _ h45) (by simp) [] [] [] rfl (.cons (.same (by simp [F5])) (.cons (.same (by simp [F5])) .nil)) (by simp [F5]) (by decide) (by simp) (by simp) (.inl rfl) (by simp) (by simp) ?_
   obtain ⟨⟨h46, h48, h47⟩, hF⟩ := chk_elim hF
   have h47_ := ne_of_lt h47
   have F6 := And.intro F5 (And.intro h46 (And.intro h47 (And.intro h48 h47_)))
   try simp [F6]
   repeat' apply And.intro
   any_goals (first | exact hG447 _ (by kernel_rfl) | refine hR447 _ _ _ ?_ | omega | (unfold maxLen; omega) | (simp [F6]; done) | (simp [F6]; omega))
   refine hK445 _ _ _ ?_
   refine AW.wk [(0, AV.ptr 0 0), (2, AV.ptr 1 0), (6, AV.ptr 2 0), (8, AV.fn 93 []), (9, AV.int .i64 v10)] [(0, .cells (List.map (AV.int .u32) v0)), (1, .cells (List.map (AV.int .u32) v2)), (2, .cells (List.map (AV.int .u32) (v11.set (v10).toNat (IntKind.wrap .u32 (IntKind.wrap .u32 (IntKind.wrap .u32 (v14 + bitsV .xor .u32 (bitsV .xor .u32 v15 v16) (Int.fdiv v12 (2 ^ (3)))) + v17) + bitsV .xor .u32 (bitsV .xor .u32 v18 v19) (Int.fdiv v13 (2 ^ (10))))))))] 3 (by simp [F6]) (by simp [F6]) (by simp) ?_
   refine AW.region mixed [] [none, none, none] (by kernel_rfl) fun G448 R448 hG448 hR448 => ?_
   try simp [F6]
   repeat' apply And.intro
   any_goals (first | exact hG448 _ (by kernel_rfl) | refine hR448 _ _ _ ?_ | omega | (unfold maxLen; omega) | (simp [F6]; done) | (simp [F6]; omega))
   refine hK439 _ _ _ ?_
   refine Can.weak [(0, AV.ptr 0 0), (2, AV.ptr 1 0), (6, AV.ptr 2 0), (8, AV.fn 93 []), (9, AV.int .i64 (IntKind.wrap .i64 (v10 + 1)))] [(0, .cells (List.map (AV.int .u32) v0)), (1, .cells (List.map (AV.int .u32) v2)), (2, .cells (List.map (AV.int .u32) (v11.set (v10).toNat (IntKind.wrap .u32 (IntKind.wrap .u32 (IntKind.wrap .u32 (v14 + bitsV .xor .u32 (bitsV .xor .u32 v15 v16) (Int.fdiv v12 (2 ^ (3)))) + v17) + bitsV .xor .u32 (bitsV .xor .u32 v18 v19) (Int.fdiv v13 (2 ^ (10))))))))] 3 (by simp [F6]) (by simp [F6]) (by simp) ?_
   exact Can.next (k' := n2) ((IntKind.wrap .i64 (v10 + 1), v11.set (v10).toNat (IntKind.wrap .u32 (IntKind.wrap .u32 (IntKind.wrap .u32 (v14 + bitsV .xor .u32 (bitsV .xor .u32 v15 v16) (Int.fdiv v12 (2 ^ (3)))) + v17) + bitsV .xor .u32 (bitsV .xor .u32 v18 v19) (Int.fdiv v13 (2 ^ (10))))))) (by omega) hF (by simp [F6]) (by simp [F6]) (by simp)
  ·replace hF := ite_f h17 hF
   have h17_ := h17
   try simp at h17_
   have F7 := And.intro h1 (And.intro h1_ (And.intro h17 h17_))
   refine AW.condF (by decide) (by first | (simp [F7]; done) | (simp [F7]; omega)) ?_
   refine AW.exit ?_
   try simp
   refine hK410 _ _ _ ?_
   refine AW.seqR mixed [] [none, none, none, none, none] (by kernel_rfl) fun G449 R449 hG449 hR449 => ?_
   -- array load
   obtain ⟨h49, hF⟩ := chk_elim hF
   have h49_ := ne_of_len h49 (by decide)
   obtain ⟨h50, hF⟩ := chk_elim hF
   have F8 := And.intro F7 (And.intro h49 (And.intro h49_ h50))
   try simp [F8]
   repeat' apply And.intro
   any_goals (first | exact hG449 _ (by kernel_rfl) | refine hR449 _ _ _ ?_ | omega | (unfold maxLen; omega) | (simp [F8]; done) | (simp [F8]; omega))
   refine AW.wk [(0, AV.ptr 0 0), (2, AV.ptr 1 0), (6, AV.ptr 2 0), (8, AV.fn 93 []), (12, AV.ptr 3 0)] [(0, .cells (List.map (AV.int .u32) v0)), (1, .cells (List.map (AV.int .u32) v2)), (2, .cells (List.map (AV.int .u32) v11)), (3, .cells (List.map (AV.int .u32) v0))] 4 (by simp [F8]) (by simp [F8]) (by simp) ?_
   refine AW.seq fun K508 hK508 => ?_
   refine AW.seqR mixed [] [none] (by kernel_rfl) fun G509 R509 hG509 hR509 => ?_
   try simp [F8]
   repeat' apply And.intro
   any_goals (first | exact hG509 _ (by kernel_rfl) | refine hR509 _ _ _ ?_ | omega | (unfold maxLen; omega) | (simp [F8]; done) | (simp [F8]; omega))
   refine AW.wk [(0, AV.ptr 0 0), (2, AV.ptr 1 0), (6, AV.ptr 2 0), (8, AV.fn 93 []), (12, AV.ptr 3 0), (106, AV.int .i64 0)] [(0, .cells (List.map (AV.int .u32) v0)), (1, .cells (List.map (AV.int .u32) v2)), (2, .cells (List.map (AV.int .u32) v11)), (3, .cells (List.map (AV.int .u32) v0))] 4 (by simp [F8]) (by simp [F8]) (by simp) ?_
   refine AW.block ?_
   refine AW.loopF (α := (Int × (List Int))) (fun n (v20, v21) => digest_state_block.L3 k v0 v2 v11 n v20 v21 = some v3) (fun (v20, v21) => [(0, AV.ptr 0 0), (2, AV.ptr 1 0), (6, AV.ptr 2 0), (8, AV.fn 93 []), (12, AV.ptr 3 0), (106, AV.int .i64 v20)]) (fun (v20, v21) => [(0, .cells (List.map (AV.int .u32) v0)), (1, .cells (List.map (AV.int .u32) v2)), (2, .cells (List.map (AV.int .u32) v11)), (3, .cells (List.map (AV.int .u32) v21))]) 4 k ((0, v0)) hF (by simp [F8]) (by simp [F8]) (by simp) ?_
   rintro (_|n3) ⟨v20, v21⟩ hF K552 hK552
   ·try dsimp only at hF
    rw [digest_state_block.L3] at hF; cases hF
   try dsimp only at hF
   rw [digest_state_block.L3] at hF
   refine AW.seqR mixed [] [none] (by kernel_rfl) fun G553 R553 hG553 hR553 => ?_
   try simp [F8]
   repeat' apply And.intro
   any_goals (first | exact hG553 _ (by kernel_rfl) | refine hR553 _ _ _ ?_ | omega | (unfold maxLen; omega) | (simp [F8]; done) | (simp [F8]; omega))
   refine AW.wk [(0, AV.ptr 0 0), (2, AV.ptr 1 0), (6, AV.ptr 2 0), (8, AV.fn 93 []), (12, AV.ptr 3 0), (106, AV.int .i64 v20), (107, AV.bool (decide (v20 < 64)))] [(0, .cells (List.map (AV.int .u32) v0)), (1, .cells (List.map (AV.int .u32) v2)), (2, .cells (List.map (AV.int .u32) v11)), (3, .cells (List.map (AV.int .u32) v21))] 4 (by simp [F8]) (by simp [F8]) (by simp) ?_
   refine AW.seq fun K554 hK554 => ?_
   by_cases h51 : v20 < 64
   ·replace hF := ite_t h51 hF
    have h51_ := h51
    try simp at h51_
    have F9 := And.intro F8 (And.intro h51 h51_)
    refine AW.condT (by decide) (by first | (simp [F9]; done) | (simp [F9]; omega)) ?_
    refine AW.skip ?_
    refine hK554 _ _ _ ?_
    refine AW.seq fun K560 hK560 => ?_
    refine AW.block ?_
    refine AW.seqR mixed [] [none, none] (by kernel_rfl) fun G561 R561 hG561 hR561 => ?_
    try simp [F9]
    repeat' apply And.intro
    any_goals (first | exact hG561 _ (by kernel_rfl) | refine hR561 _ _ _ ?_ | omega | (unfold maxLen; omega) | (simp [F9]; done) | (simp [F9]; omega))
    refine AW.wk [(0, AV.ptr 0 0), (2, AV.ptr 1 0), (6, AV.ptr 2 0), (8, AV.fn 93 []), (12, AV.ptr 3 0), (13, AV.int .i64 v20), (106, AV.int .i64 v20)] [(0, .cells (List.map (AV.int .u32) v0)), (1, .cells (List.map (AV.int .u32) v2)), (2, .cells (List.map (AV.int .u32) v11)), (3, .cells (List.map (AV.int .u32) v21))] 4 (by simp [F9]) (by simp [F9]) (by simp) ?_
    refine AW.seqR mixed [] [none, none, none, none, none, none] (by kernel_rfl) fun G562 R562 hG562 hR562 => ?_
    obtain ⟨⟨h52, h54, h53⟩, hF⟩ := chk_elim hF
    have h53_ := ne_of_lt h53
    obtain ⟨v22, h55, h56, h57, hF⟩ := idx_elim hF
    have h57_ := get_of h57
    try simp at h57_
    have h56_ := h56
    try simp at h56_
    have h57z := head_of h57
    obtain ⟨⟨h58, h60, h59⟩, hF⟩ := chk_elim hF
    have h59_ := ne_of_lt h59
    obtain ⟨v23, h61, h62, h63, hF⟩ := idx_elim hF
    have h63_ := get_of h63
    try simp at h63_
    have h62_ := h62
    try simp at h62_
    have F10 := And.intro F9 (And.intro h52 (And.intro h53 (And.intro h54 (And.intro h53_ (And.intro h55 (And.intro h56 (And.intro h57 (And.intro h57_ (And.intro h56_ (And.intro h57z (And.intro h58 (And.intro h59 (And.intro h60 (And.intro h59_ (And.intro h61 (And.intro h62 (And.intro h63 (And.intro h63_ h62_))))))))))))))))))
    try simp [F10]
    repeat' apply And.intro
    any_goals (first | exact hG562 _ (by kernel_rfl) | refine hR562 _ _ _ ?_ | omega | (unfold maxLen; omega) | (simp [F10]; done) | (simp [F10]; omega))
    refine AW.wk [(0, AV.ptr 0 0), (2, AV.ptr 1 0), (6, AV.ptr 2 0), (8, AV.fn 93 []), (12, AV.ptr 3 0), (13, AV.int .i64 v20), (14, AV.int .u32 v22), (15, AV.int .u32 v23), (106, AV.int .i64 v20)] [(0, .cells (List.map (AV.int .u32) v0)), (1, .cells (List.map (AV.int .u32) v2)), (2, .cells (List.map (AV.int .u32) v11)), (3, .cells (List.map (AV.int .u32) v21))] 4 (by simp [F10]) (by simp [F10]) (by simp) ?_
    refine AW.seqR mixed [] [none, none, none, none, none, none, none, none, none, none, none, none, none, none, none, none, none, none, none, none, none, none, none, none, none, none, none, none, none, none, none, none, none, none, none, none] (by kernel_rfl) fun G563 R563 hG563 hR563 => ?_
    obtain ⟨⟨h64, h66, h65⟩, hF⟩ := chk_elim hF
    have h65_ := ne_of_lt h65
    obtain ⟨v24, h67, h68, h69, hF⟩ := idx_elim hF
    have h69_ := get_of h69
    try simp at h69_
    have h68_ := h68
    try simp at h68_
    have F11 := And.intro F10 (And.intro h64 (And.intro h65 (And.intro h66 (And.intro h65_ (And.intro h67 (And.intro h68 (And.intro h69 (And.intro h69_ h68_))))))))
    try simp [F11]
    repeat' apply And.intro
    try any_goals (first | omega | (unfold maxLen; omega) | (simp [F11]; done))
    obtain ⟨v25, h70, hF⟩ := bnd1_elim hF
    refine aCall_l (w_digest_state_block_1 k _ _ _ h70) (by simp) [] [] [] rfl (.cons (.same (by simp [F11])) (.cons (.same (by simp [F11])) .nil)) (by simp [F11]) (by decide) (by simp) (by simp) (.inl rfl) (by simp) (by simp) ?_
    try simp [F11]
    repeat' apply And.intro
    try any_goals (first | omega | (unfold maxLen; omega) | (simp [F11]; done))
    obtain ⟨v26, h71, hF⟩ := bnd1_elim hF
    refine aCall_l (w_digest_state_block_1 k _ _ _ h71) (by simp) [] [] [] rfl (.cons (.same (by simp [F11])) (.cons (.same (by simp [F11])) .nil)) (by simp [F11]) (by decide) (by simp) (by simp) (.inl rfl) (by simp) (by simp) ?_
    try simp [F11]
    repeat' apply And.intro
    try any_goals (first | omega | (unfold maxLen; omega) | (simp [F11]; done))
    obtain ⟨v27, h72, hF⟩ := bnd1_elim hF
    refine aCall_l (w_digest_state_block_1 k _ _ _ h72) (by simp) [] [] [] rfl (.cons (.same (by simp [F11])) (.cons (.same (by simp [F11])) .nil)) (by simp [F11]) (by decide) (by simp) (by simp) (.inl rfl) (by simp) (by simp) ?_
    obtain ⟨⟨h73, h75, h74⟩, hF⟩ := chk_elim hF
    have h74_ := ne_of_lt h74
    obtain ⟨v28, h76, h77, h78, hF⟩ := idx_elim hF
    have h78_ := get_of h78
    try simp at h78_
    have h77_ := h77
    try simp at h77_
    obtain ⟨⟨h79, h81, h80⟩, hF⟩ := chk_elim hF
    have h80_ := ne_of_lt h80
    obtain ⟨v29, h82, h83, h84, hF⟩ := idx_elim hF
    have h84_ := get_of h84
    try simp at h84_
    have h83_ := h83
    try simp at h83_
    obtain ⟨⟨h85, h87, h86⟩, hF⟩ := chk_elim hF
    have h86_ := ne_of_lt h86
    obtain ⟨v30, h88, h89, h90, hF⟩ := idx_elim hF
    have h90_ := get_of h90
    try simp at h90_
    have h89_ := h89
    try simp at h89_
    obtain ⟨⟨h91, h93, h92⟩, hF⟩ := chk_elim hF
    have h92_ := ne_of_lt h92
    obtain ⟨v31, h94, h95, h96, hF⟩ := idx_elim hF
    have h96_ := get_of h96
    try simp at h96_
    have h95_ := h95
    try simp at h95_
    have F12 := And.intro F11 (And.intro h73 (And.intro h74 (And.intro h75 (And.intro h74_ (And.intro h76 (And.intro h77 (And.intro h78 (And.intro h78_ (And.intro h77_ (And.intro h79 (And.intro h80 (And.intro h81 (And.intro h80_ (And.intro h82 (And.intro h83 (And.intro h84 (And.intro h84_ (And.intro h83_ (And.intro h85 (And.intro h86 (And.intro h87 (And.intro h86_ (And.intro h88 (And.intro h89 (And.intro h90 (And.intro h90_ (And.intro h89_ (And.intro h91 (And.intro h92 (And.intro h93 (And.intro h92_ (And.intro h94 (And.intro h95 (And.intro h96 (And.intro h96_ h95_)))))))))))))))))))))))))))))))))))
    try simp [F12]
    repeat' apply And.intro
    any_goals (first | exact hG563 _ (by kernel_rfl) | refine hR563 _ _ _ ?_ | omega | (unfold maxLen; omega) | (simp [F12]; done) | (simp [F12]; omega))
    refine AW.wk [(0, AV.ptr 0 0), (2, AV.ptr 1 0), (6, AV.ptr 2 0), (8, AV.fn 93 []), (12, AV.ptr 3 0), (14, AV.int .u32 v22), (16, AV.int .u32 (IntKind.wrap .u32 (IntKind.wrap .u32 (IntKind.wrap .u32 (IntKind.wrap .u32 (v24 + bitsV .xor .u32 (bitsV .xor .u32 v25 v26) v27) + bitsV .xor .u32 (bitsV .and .u32 v23 v28) (bitsV .and .u32 (bitsV .xor .u32 (IntKind.max .u32) v23) v29)) + v30) + v31))), (106, AV.int .i64 v20)] [(0, .cells (List.map (AV.int .u32) v0)), (1, .cells (List.map (AV.int .u32) v2)), (2, .cells (List.map (AV.int .u32) v11)), (3, .cells (List.map (AV.int .u32) v21))] 4 (by simp [F12]) (by simp [F12]) (by simp) ?_
    refine AW.seqR mixed [] [none, none, none, none, none, none, none, none, none, none, none, none, none, none, none, none, none, none, none, none, none, none, none, none, none, none, none, none] (by kernel_rfl) fun G564 R564 hG564 hR564 => ?_
    try simp [F12]
    repeat' apply And.intro
    try any_goals (first | omega | (unfold maxLen; omega) | (simp [F12]; done))
    obtain ⟨v32, h97, hF⟩ := bnd1_elim hF
    refine aCall_l (w_digest_state_block_1 k _ _ _ h97) (by simp) [] [] [] rfl (.cons (.same (by simp [F12])) (.cons (.same (by simp [F12])) .nil)) (by simp [F12]) (by decide) (by simp) (by simp) (.inl rfl) (by simp) (by simp) ?_
    try simp [F12]
    repeat' apply And.intro
    try any_goals (first | omega | (unfold maxLen; omega) | (simp [F12]; done))
    obtain ⟨v33, h98, hF⟩ := bnd1_elim hF
    refine aCall_l (w_digest_state_block_1 k _ _ _ h98) (by simp) [] [] [] rfl (.cons (.same (by simp [F12])) (.cons (.same (by simp [F12])) .nil)) (by simp [F12]) (by decide) (by simp) (by simp) (.inl rfl) (by simp) (by simp) ?_
    try simp [F12]
    repeat' apply And.intro
    try any_goals (first | omega | (unfold maxLen; omega) | (simp [F12]; done))
    obtain ⟨v34, h99, hF⟩ := bnd1_elim hF
    refine aCall_l (w_digest_state_block_1 k _ _ _ h99) (by simp) [] [] [] rfl (.cons (.same (by simp [F12])) (.cons (.same (by simp [F12])) .nil)) (by simp [F12]) (by decide) (by simp) (by simp) (.inl rfl) (by simp) (by simp) ?_
    obtain ⟨⟨h100, h102, h101⟩, hF⟩ := chk_elim hF
    have h101_ := ne_of_lt h101
    obtain ⟨v35, h103, h104, h105, hF⟩ := idx_elim hF
    have h105_ := get_of h105
    try simp at h105_
    have h104_ := h104
    try simp at h104_
    obtain ⟨⟨h106, h108, h107⟩, hF⟩ := chk_elim hF
    have h107_ := ne_of_lt h107
    obtain ⟨v36, h109, h110, h111, hF⟩ := idx_elim hF
    have h111_ := get_of h111
    try simp at h111_
    have h110_ := h110
    try simp at h110_
    obtain ⟨⟨h112, h114, h113⟩, hF⟩ := chk_elim hF
    have h113_ := ne_of_lt h113
    obtain ⟨⟨h115, h117, h116⟩, hF⟩ := chk_elim hF
    have h116_ := ne_of_lt h116
    have F13 := And.intro F12 (And.intro h100 (And.intro h101 (And.intro h102 (And.intro h101_ (And.intro h103 (And.intro h104 (And.intro h105 (And.intro h105_ (And.intro h104_ (And.intro h106 (And.intro h107 (And.intro h108 (And.intro h107_ (And.intro h109 (And.intro h110 (And.intro h111 (And.intro h111_ (And.intro h110_ (And.intro h112 (And.intro h113 (And.intro h114 (And.intro h113_ (And.intro h115 (And.intro h116 (And.intro h117 h116_)))))))))))))))))))))))))
    try simp [F13]
    repeat' apply And.intro
    any_goals (first | exact hG564 _ (by kernel_rfl) | refine hR564 _ _ _ ?_ | omega | (unfold maxLen; omega) | (simp [F13]; done) | (simp [F13]; omega))
    refine AW.wk [(0, AV.ptr 0 0), (2, AV.ptr 1 0), (6, AV.ptr 2 0), (8, AV.fn 93 []), (12, AV.ptr 3 0), (16, AV.int .u32 (IntKind.wrap .u32 (IntKind.wrap .u32 (IntKind.wrap .u32 (IntKind.wrap .u32 (v24 + bitsV .xor .u32 (bitsV .xor .u32 v25 v26) v27) + bitsV .xor .u32 (bitsV .and .u32 v23 v28) (bitsV .and .u32 (bitsV .xor .u32 (IntKind.max .u32) v23) v29)) + v30) + v31))), (17, AV.int .u32 (IntKind.wrap .u32 (bitsV .xor .u32 (bitsV .xor .u32 v32 v33) v34 + bitsV .xor .u32 (bitsV .xor .u32 (bitsV .and .u32 v22 v35) (bitsV .and .u32 v22 v36)) (bitsV .and .u32 v35 v36)))), (106, AV.int .i64 v20)] [(0, .cells (List.map (AV.int .u32) v0)), (1, .cells (List.map (AV.int .u32) v2)), (2, .cells (List.map (AV.int .u32) v11)), (3, .cells (List.map (AV.int .u32) v21))] 4 (by simp [F13]) (by simp [F13]) (by simp) ?_
    refine AW.region mixed [] [none, none, none, none, none, none, none, none, none, none, none, none, none, none, none, none, none, none, none, none, none] (by kernel_rfl) fun G565 R565 hG565 hR565 => ?_
    obtain ⟨⟨h118, h120, h119⟩, hF⟩ := chk_elim hF
    have h119_ := ne_of_lt h119
    obtain ⟨⟨h121, h123, h122⟩, hF⟩ := chk_elim hF
    have h122_ := ne_of_lt h122
    obtain ⟨⟨h124, h126, h125⟩, hF⟩ := chk_elim hF
    have h125_ := ne_of_lt h125
    obtain ⟨⟨h127, h129, h128⟩, hF⟩ := chk_elim hF
    have h128_ := ne_of_lt h128
    obtain ⟨v37, h130, h131, h132, hF⟩ := idx_elim hF
    have h132_ := get_of h132
    try simp at h132_
    have h131_ := h131
    try simp at h131_
    obtain ⟨⟨h133, h135, h134⟩, hF⟩ := chk_elim hF
    have h134_ := ne_of_lt h134
    obtain ⟨⟨h136, h138, h137⟩, hF⟩ := chk_elim hF
    have h137_ := ne_of_lt h137
    obtain ⟨⟨h139, h141, h140⟩, hF⟩ := chk_elim hF
    have h140_ := ne_of_lt h140
    obtain ⟨h142, hF⟩ := chk_elim hF
    have F14 := And.intro F13 (And.intro h118 (And.intro h119 (And.intro h120 (And.intro h119_ (And.intro h121 (And.intro h122 (And.intro h123 (And.intro h122_ (And.intro h124 (And.intro h125 (And.intro h126 (And.intro h125_ (And.intro h127 (And.intro h128 (And.intro h129 (And.intro h128_ (And.intro h130 (And.intro h131 (And.intro h132 (And.intro h132_ (And.intro h131_ (And.intro h133 (And.intro h134 (And.intro h135 (And.intro h134_ (And.intro h136 (And.intro h137 (And.intro h138 (And.intro h137_ (And.intro h139 (And.intro h140 (And.intro h141 (And.intro h140_ h142)))))))))))))))))))))))))))))))))
    try simp [F14]
    repeat' apply And.intro
    any_goals (first | exact hG565 _ (by kernel_rfl) | refine hR565 _ _ _ ?_ | omega | (unfold maxLen; omega) | (simp [F14]; done) | (simp [F14]; omega))
    refine hK560 _ _ _ ?_
    refine AW.wk [(0, AV.ptr 0 0), (2, AV.ptr 1 0), (6, AV.ptr 2 0), (8, AV.fn 93 []), (12, AV.ptr 3 0), (106, AV.int .i64 v20)] [(0, .cells (List.map (AV.int .u32) v0)), (1, .cells (List.map (AV.int .u32) v2)), (2, .cells (List.map (AV.int .u32) v11)), (3, .cells (List.map (AV.int .u32) ([IntKind.wrap .u32 (IntKind.wrap .u32 (IntKind.wrap .u32 (IntKind.wrap .u32 (IntKind.wrap .u32 (v24 + bitsV .xor .u32 (bitsV .xor .u32 v25 v26) v27) + bitsV .xor .u32 (bitsV .and .u32 v23 v28) (bitsV .and .u32 (bitsV .xor .u32 (IntKind.max .u32) v23) v29)) + v30) + v31) + IntKind.wrap .u32 (bitsV .xor .u32 (bitsV .xor .u32 v32 v33) v34 + bitsV .xor .u32 (bitsV .xor .u32 (bitsV .and .u32 v22 v35) (bitsV .and .u32 v22 v36)) (bitsV .and .u32 v35 v36))), v22, v35, v36, IntKind.wrap .u32 (v37 + IntKind.wrap .u32 (IntKind.wrap .u32 (IntKind.wrap .u32 (IntKind.wrap .u32 (v24 + bitsV .xor .u32 (bitsV .xor .u32 v25 v26) v27) + bitsV .xor .u32 (bitsV .and .u32 v23 v28) (bitsV .and .u32 (bitsV .xor .u32 (IntKind.max .u32) v23) v29)) + v30) + v31)), v23, v28, v29] : List Int)))] 4 (by simp [F14]) (by simp [F14]) (by simp) ?_
    refine AW.region mixed [] [none, none] (by kernel_rfl) fun G566 R566 hG566 hR566 => ?_
    try simp [F14]
    repeat' apply And.intro
    any_goals (first | exact hG566 _ (by kernel_rfl) | refine hR566 _ _ _ ?_ | omega | (unfold maxLen; omega) | (simp [F14]; done) | (simp [F14]; omega))
    refine hK552 _ _ _ ?_
    refine Can.weak [(0, AV.ptr 0 0), (2, AV.ptr 1 0), (6, AV.ptr 2 0), (8, AV.fn 93 []), (12, AV.ptr 3 0), (106, AV.int .i64 (IntKind.wrap .i64 (v20 + 1)))] [(0, .cells (List.map (AV.int .u32) v0)), (1, .cells (List.map (AV.int .u32) v2)), (2, .cells (List.map (AV.int .u32) v11)), (3, .cells (List.map (AV.int .u32) ([IntKind.wrap .u32 (IntKind.wrap .u32 (IntKind.wrap .u32 (IntKind.wrap .u32 (IntKind.wrap .u32 (v24 + bitsV .xor .u32 (bitsV .xor .u32 v25 v26) v27) + bitsV .xor .u32 (bitsV .and .u32 v23 v28) (bitsV .and .u32 (bitsV .xor .u32 (IntKind.max .u32) v23) v29)) + v30) + v31) + IntKind.wrap .u32 (bitsV .xor .u32 (bitsV .xor .u32 v32 v33) v34 + bitsV .xor .u32 (bitsV .xor .u32 (bitsV .and .u32 v22 v35) (bitsV .and .u32 v22 v36)) (bitsV .and .u32 v35 v36))), v22, v35, v36, IntKind.wrap .u32 (v37 + IntKind.wrap .u32 (IntKind.wrap .u32 (IntKind.wrap .u32 (IntKind.wrap .u32 (v24 + bitsV .xor .u32 (bitsV .xor .u32 v25 v26) v27) + bitsV .xor .u32 (bitsV .and .u32 v23 v28) (bitsV .and .u32 (bitsV .xor .u32 (IntKind.max .u32) v23) v29)) + v30) + v31)), v23, v28, v29] : List Int)))] 4 (by simp [F14]) (by simp [F14]) (by simp) ?_
    exact Can.next (k' := n3) ((IntKind.wrap .i64 (v20 + 1), ([IntKind.wrap .u32 (IntKind.wrap .u32 (IntKind.wrap .u32 (IntKind.wrap .u32 (IntKind.wrap .u32 (v24 + bitsV .xor .u32 (bitsV .xor .u32 v25 v26) v27) + bitsV .xor .u32 (bitsV .and .u32 v23 v28) (bitsV .and .u32 (bitsV .xor .u32 (IntKind.max .u32) v23) v29)) + v30) + v31) + IntKind.wrap .u32 (bitsV .xor .u32 (bitsV .xor .u32 v32 v33) v34 + bitsV .xor .u32 (bitsV .xor .u32 (bitsV .and .u32 v22 v35) (bitsV .and .u32 v22 v36)) (bitsV .and .u32 v35 v36))), v22, v35, v36, IntKind.wrap .u32 (v37 + IntKind.wrap .u32 (IntKind.wrap .u32 (IntKind.wrap .u32 (IntKind.wrap .u32 (v24 + bitsV .xor .u32 (bitsV .xor .u32 v25 v26) v27) + bitsV .xor .u32 (bitsV .and .u32 v23 v28) (bitsV .and .u32 (bitsV .xor .u32 (IntKind.max .u32) v23) v29)) + v30) + v31)), v23, v28, v29] : List Int))) (by omega) hF (by simp [F14]) (by simp [F14]) (by simp)
   ·replace hF := ite_f h51 hF
    have h51_ := h51
    try simp at h51_
    have F15 := And.intro F8 (And.intro h51 h51_)
    refine AW.condF (by decide) (by first | (simp [F15]; done) | (simp [F15]; omega)) ?_
    refine AW.exit ?_
    try simp
    refine hK508 _ _ _ ?_
    refine AW.seqR mixed [] [none] (by kernel_rfl) fun G567 R567 hG567 hR567 => ?_
    try simp [F15]
    repeat' apply And.intro
    any_goals (first | exact hG567 _ (by kernel_rfl) | refine hR567 _ _ _ ?_ | omega | (unfold maxLen; omega) | (simp [F15]; done) | (simp [F15]; omega))
    refine AW.wk [(0, AV.ptr 0 0), (12, AV.ptr 3 0), (196, AV.int .i64 0)] [(0, .cells (List.map (AV.int .u32) v0)), (1, .cells (List.map (AV.int .u32) v2)), (3, .cells (List.map (AV.int .u32) v21))] 4 (by simp [F15]) (by simp [F15]) (by simp) ?_
    refine AW.block ?_
    refine AW.rnm (m := 2) h0 [(0, 0), (1, 1), (2, 3)] [(0, AV.ptr 0 0), (12, AV.ptr 2 0), (196, AV.int .i64 0)] [(0, .cells (List.map (AV.int .u32) v0)), (1, .cells (List.map (AV.int .u32) v2)), (2, .cells (List.map (AV.int .u32) v21))] 3 (by decide) (by decide) (by decide) rfl (by simp [F15]) (by simp [F15]) ?_
    refine AW.loopF (α := (Int × (List Int))) (fun n (v38, v39) => digest_state_block.L4 k v21 n v38 v39 = some v3) (fun (v38, v39) => [(0, AV.ptr 0 0), (12, AV.ptr 2 0), (196, AV.int .i64 v38)]) (fun (v38, v39) => [(0, .cells (List.map (AV.int .u32) v39)), (1, .cells (List.map (AV.int .u32) v2)), (2, .cells (List.map (AV.int .u32) v21))]) 3 k ((0, v0)) hF (by simp [F15]) (by simp [F15]) (by simp) ?_
    rintro (_|n4) ⟨v38, v39⟩ hF K592 hK592
    ·try dsimp only at hF
     rw [digest_state_block.L4] at hF; cases hF
    try dsimp only at hF
    rw [digest_state_block.L4] at hF
    refine AW.seqR mixed [] [none] (by kernel_rfl) fun G593 R593 hG593 hR593 => ?_
    try simp [F15]
    repeat' apply And.intro
    any_goals (first | exact hG593 _ (by kernel_rfl) | refine hR593 _ _ _ ?_ | omega | (unfold maxLen; omega) | (simp [F15]; done) | (simp [F15]; omega))
    refine AW.wk [(0, AV.ptr 0 0), (12, AV.ptr 2 0), (196, AV.int .i64 v38), (197, AV.bool (decide (v38 < 8)))] [(0, .cells (List.map (AV.int .u32) v39)), (1, .cells (List.map (AV.int .u32) v2)), (2, .cells (List.map (AV.int .u32) v21))] 3 (by simp [F15]) (by simp [F15]) (by simp) ?_
    refine AW.seq fun K594 hK594 => ?_
    by_cases h143 : v38 < 8
    ·replace hF := ite_t h143 hF
     have h143_ := h143
     try simp at h143_
     have F16 := And.intro F15 (And.intro h143 h143_)
     refine AW.condT (by decide) (by first | (simp [F16]; done) | (simp [F16]; omega)) ?_
     refine AW.skip ?_
     refine hK594 _ _ _ ?_
     refine AW.seq fun K597 hK597 => ?_
     refine AW.block ?_
     refine AW.seqR mixed [] [none, none] (by kernel_rfl) fun G598 R598 hG598 hR598 => ?_
     try simp [F16]
     repeat' apply And.intro
     any_goals (first | exact hG598 _ (by kernel_rfl) | refine hR598 _ _ _ ?_ | omega | (unfold maxLen; omega) | (simp [F16]; done) | (simp [F16]; omega))
     refine AW.wk [(0, AV.ptr 0 0), (12, AV.ptr 2 0), (18, AV.int .i64 v38), (196, AV.int .i64 v38)] [(0, .cells (List.map (AV.int .u32) v39)), (1, .cells (List.map (AV.int .u32) v2)), (2, .cells (List.map (AV.int .u32) v21))] 3 (by simp [F16]) (by simp [F16]) (by simp) ?_
     refine AW.region mixed [] [none, none, none, none, none, none, none, none, none, none, none, none] (by kernel_rfl) fun G599 R599 hG599 hR599 => ?_
     obtain ⟨⟨h144, h146, h145⟩, hF⟩ := chk_elim hF
     have h145_ := ne_of_lt h145
     obtain ⟨v40, h147, h148, h149, hF⟩ := idx_elim hF
     have h149_ := get_of h149
     try simp at h149_
     have h148_ := h148
     try simp at h148_
     obtain ⟨⟨h150, h152, h151⟩, hF⟩ := chk_elim hF
     have h151_ := ne_of_lt h151
     obtain ⟨v41, h153, h154, h155, hF⟩ := idx_elim hF
     have h155_ := get_of h155
     try simp at h155_
     have h154_ := h154
     try simp at h154_
     obtain ⟨⟨h156, h158, h157⟩, hF⟩ := chk_elim hF
     have h157_ := ne_of_lt h157
     have F17 := And.intro F16 (And.intro h144 (And.intro h145 (And.intro h146 (And.intro h145_ (And.intro h147 (And.intro h148 (And.intro h149 (And.intro h149_ (And.intro h148_ (And.intro h150 (And.intro h151 (And.intro h152 (And.intro h151_ (And.intro h153 (And.intro h154 (And.intro h155 (And.intro h155_ (And.intro h154_ (And.intro h156 (And.intro h157 (And.intro h158 h157_)))))))))))))))))))))
     try simp [F17]
     repeat' apply And.intro
     any_goals (first | exact hG599 _ (by kernel_rfl) | refine hR599 _ _ _ ?_ | omega | (unfold maxLen; omega) | (simp [F17]; done) | (simp [F17]; omega))
     refine hK597 _ _ _ ?_
     refine AW.wk [(0, AV.ptr 0 0), (12, AV.ptr 2 0), (196, AV.int .i64 v38)] [(0, .cells (List.map (AV.int .u32) (v39.set (v38).toNat (IntKind.wrap .u32 (v40 + v41))))), (1, .cells (List.map (AV.int .u32) v2)), (2, .cells (List.map (AV.int .u32) v21))] 3 (by simp [F17]) (by simp [F17]) (by simp) ?_
     refine AW.region mixed [] [none, none] (by kernel_rfl) fun G600 R600 hG600 hR600 => ?_
     try simp [F17]
     repeat' apply And.intro
     any_goals (first | exact hG600 _ (by kernel_rfl) | refine hR600 _ _ _ ?_ | omega | (unfold maxLen; omega) | (simp [F17]; done) | (simp [F17]; omega))
     refine hK592 _ _ _ ?_
     refine Can.weak [(0, AV.ptr 0 0), (12, AV.ptr 2 0), (196, AV.int .i64 (IntKind.wrap .i64 (v38 + 1)))] [(0, .cells (List.map (AV.int .u32) (v39.set (v38).toNat (IntKind.wrap .u32 (v40 + v41))))), (1, .cells (List.map (AV.int .u32) v2)), (2, .cells (List.map (AV.int .u32) v21))] 3 (by simp [F17]) (by simp [F17]) (by simp) ?_
     exact Can.next (k' := n4) ((IntKind.wrap .i64 (v38 + 1), v39.set (v38).toNat (IntKind.wrap .u32 (v40 + v41)))) (by omega) hF (by simp [F17]) (by simp [F17]) (by simp)
    ·replace hF := ite_f h143 hF
     have h143_ := h143
     try simp at h143_
     have F18 := And.intro F15 (And.intro h143 h143_)
     refine AW.condF (by decide) (by first | (simp [F18]; done) | (simp [F18]; omega)) ?_
     refine AW.exit ?_
     try simp
     simp only [Option.some.injEq] at hF
     subst hF
     refine (hQ _ _ _ ?_ (matchO_0 ?_)).2
     ·simp [Try.f59, F18]
     ·simp [F18]
end Go.TF
