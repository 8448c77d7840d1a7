/- Walks: the Go text computes the Lean functions (printed by a program of our own). -/
import Derived.Test.YtgadcpbcbbmeaaaAPu
import Derived.Test.YtgadcpbcbbmeaaaAAbsT
import Derived.Test.YtgadcpbcbbmeaaaAWa0
set_option linter.unusedVariables false
set_option linter.unusedSimpArgs false
set_option maxRecDepth 100000
namespace Go.TF
open Go Go.Abs Go.Proofs Go.Proofs.YtgadcpbcbbmeaaaAT
set_option maxHeartbeats 4000000 in
theorem w_ref11_Set (k : Nat) (v0 : (List Int)) (v1 : Int) (v2 : Bool) (hF : ref11_Set k v0 v1 = some v2) :
    FCall Try.prog 196 [AV.lst false false (List.map (AV.int .i64) v0), AV.int .i64 v1] [] (AV.bool v2) [] := by
  unfold ref11_Set at hF
  refine FCall.enter Try.func196 rfl (by simp) (by decide) (by simp) (by simp) (by simp) (by simp) (by simp) ?_
  intro c0 w0 Q h0 hQ
  refine AW.wk [(0, AV.lst false false (List.map (AV.int .i64) v0)), (1, AV.int .i64 v1)] [] 0 (by simp) (by simp) (by simp) ?_
  refine AW.seqR mixed [] [none] (by kernel_rfl) fun G104 R104 hG104 hR104 => ?_
  try simp
  repeat' apply And.intro
  any_goals (first | exact hG104 _ (by kernel_rfl) | refine hR104 _ _ _ ?_ | omega | (unfold maxLen; omega) | (simp; done) | (simp; omega))
  refine AW.wk [(0, AV.lst false false (List.map (AV.int .i64) v0)), (1, AV.int .i64 v1)] [] 0 (by simp) (by simp) (by simp) ?_
  refine AW.seq fun K155 hK155 => ?_
  refine AW.seqR mixed [] [none] (by kernel_rfl) fun G156 R156 hG156 hR156 => ?_
  try simp
  repeat' apply And.intro
  any_goals (first | exact hG156 _ (by kernel_rfl) | refine hR156 _ _ _ ?_ | omega | (unfold maxLen; omega) | (simp; done) | (simp; omega))
  refine AW.wk [(0, AV.lst false false (List.map (AV.int .i64) v0)), (1, AV.int .i64 v1), (5, AV.int .i64 0)] [] 0 (by simp) (by simp) (by simp) ?_
  refine AW.block ?_
  refine AW.loopF (α := Int) (fun n v3 => ref11_Set.L1 k v0 v1 n v3 = some v2) (fun v3 => [(0, AV.lst false false (List.map (AV.int .i64) v0)), (1, AV.int .i64 v1), (5, AV.int .i64 v3)]) (fun v3 => []) 0 k (0) hF (by simp) (by simp) (by simp) ?_
  rintro (_|n1) v3 hF K192 hK192
  · try dsimp only at hF
    rw [ref11_Set.L1] at hF; cases hF
  try dsimp only at hF
  rw [ref11_Set.L1] at hF
  refine AW.seq fun K194 hK194 => ?_
  refine AW.seqR mixed [] [none, none, none, none] (by kernel_rfl) fun G195 R195 hG195 hR195 => ?_
  try simp
  repeat' apply And.intro
  any_goals (first | exact hG195 _ (by kernel_rfl) | refine hR195 _ _ _ ?_ | omega | (unfold maxLen; omega) | (simp; done) | (simp; omega))
  refine AW.wk [(0, AV.lst false false (List.map (AV.int .i64) v0)), (1, AV.int .i64 v1), (5, AV.int .i64 v3), (9, AV.bool (decide (v3 < (v0.length : Int))))] [] 0 (by simp) (by simp) (by simp) ?_
  by_cases h1 : v3 < (v0.length : Int)
  · replace hF := ite_t h1 hF
    have h1_ := h1
    try simp at h1_
    refine AW.condT (by decide) (by first | (simp [h1, h1_]; done) | (simp [h1, h1_]; omega)) ?_
    refine AW.skip ?_
    refine hK194 _ _ _ ?_
    refine AW.midF (α := Unit) (fun _ => ref11_Set.J2 k v3 (fun v3_ => ref11_Set.L1 k v0 v1 n1 v3_) = some v2) (fun _ => [(0, AV.lst false false (List.map (AV.int .i64) v0)), (1, AV.int .i64 v1), (5, AV.int .i64 v3)]) (fun _ => []) 0 (fun K201 hK201 => ?_) ?_
    · refine AW.block ?_
      refine AW.seqR mixed [] [none, none, none, none, none, none, some (17, false), some (17, false), some (17, false), some (17, false), some (17, false), some (17, false), none, none, some (25, false), some (25, false), some (25, false), some (28, true), some (28, true), some (28, true), some (28, true), some (28, true), some (28, true), some (28, true), some (28, true), some (28, true), some (28, true), some (25, false), none] (by kernel_rfl) fun G202 R202 hG202 hR202 => ?_
      obtain ⟨v4, h2, h3, h4, hF⟩ := idx_elim hF
      have h4_ := get_of h4
      try simp at h4_
      have h3_ := h3
      try simp at h3_
      by_cases h5 : v4 < 0
      · replace hF := ite_t h5 hF
        have h5_ := h5
        try simp at h5_
        try simp [h1, h1_, h2, h3, h4, h4_, h3_, h5, h5_]
        repeat' apply And.intro
        any_goals (first | exact hG202 _ (by kernel_rfl) | refine hR202 _ _ _ ?_ | omega | (unfold maxLen; omega) | (simp [h1, h1_, h2, h3, h4, h4_, h3_, h5, h5_]; done) | (simp [h1, h1_, h2, h3, h4, h4_, h3_, h5, h5_]; omega))
        refine AW.wk [(0, AV.lst false false (List.map (AV.int .i64) v0)), (1, AV.int .i64 v1), (5, AV.int .i64 v3), (40, AV.bool true)] [] 0 (by simp [h1, h1_, h2, h3, h4, h4_, h3_, h5, h5_]) (by simp [h1, h1_, h2, h3, h4, h4_, h3_, h5, h5_]) (by simp) ?_
        refine AW.condT (by decide) (by simp [h1, h1_, h2, h3, h4, h4_, h3_, h5, h5_]) ?_
        refine AW.seqR mixed [] [none] (by kernel_rfl) fun G203 R203 hG203 hR203 => ?_
        try simp [h1, h1_, h2, h3, h4, h4_, h3_, h5, h5_]
        repeat' apply And.intro
        any_goals (first | exact hG203 _ (by kernel_rfl) | refine hR203 _ _ _ ?_ | omega | (unfold maxLen; omega) | (simp [h1, h1_, h2, h3, h4, h4_, h3_, h5, h5_]; done) | (simp [h1, h1_, h2, h3, h4, h4_, h3_, h5, h5_]; omega))
        refine AW.wk [(4, AV.bool false)] [] 0 (by simp [h1, h1_, h2, h3, h4, h4_, h3_, h5, h5_]) (by simp [h1, h1_, h2, h3, h4, h4_, h3_, h5, h5_]) (by simp) ?_
        simp only [Option.some.injEq] at hF
        subst hF
        refine AW.ret (hQ _ _ _ ?_ (matchO_0 ?_)).1
        · simp [Try.f196, h1, h1_, h2, h3, h4, h4_, h3_, h5, h5_]
        · simp [h1, h1_, h2, h3, h4, h4_, h3_, h5, h5_]
      · replace hF := ite_f h5 hF
        have h5_ := h5
        try simp at h5_
        by_cases h6 : v1 ≤ v4
        · replace hF := ite_t h6 hF
          have h6_ := h6
          try simp at h6_
          try simp [h1, h1_, h2, h3, h4, h4_, h3_, h5, h5_, h6, h6_]
          repeat' apply And.intro
          any_goals (first | exact hG202 _ (by kernel_rfl) | refine hR202 _ _ _ ?_ | omega | (unfold maxLen; omega) | (simp [h1, h1_, h2, h3, h4, h4_, h3_, h5, h5_, h6, h6_]; done) | (simp [h1, h1_, h2, h3, h4, h4_, h3_, h5, h5_, h6, h6_]; omega))
          refine AW.wk [(0, AV.lst false false (List.map (AV.int .i64) v0)), (1, AV.int .i64 v1), (5, AV.int .i64 v3), (40, AV.bool true)] [] 0 (by simp [h1, h1_, h2, h3, h4, h4_, h3_, h5, h5_, h6, h6_]) (by simp [h1, h1_, h2, h3, h4, h4_, h3_, h5, h5_, h6, h6_]) (by simp) ?_
          refine AW.condT (by decide) (by simp [h1, h1_, h2, h3, h4, h4_, h3_, h5, h5_, h6, h6_]) ?_
          refine AW.seqR mixed [] [none] (by kernel_rfl) fun G204 R204 hG204 hR204 => ?_
          try simp [h1, h1_, h2, h3, h4, h4_, h3_, h5, h5_, h6, h6_]
          repeat' apply And.intro
          any_goals (first | exact hG204 _ (by kernel_rfl) | refine hR204 _ _ _ ?_ | omega | (unfold maxLen; omega) | (simp [h1, h1_, h2, h3, h4, h4_, h3_, h5, h5_, h6, h6_]; done) | (simp [h1, h1_, h2, h3, h4, h4_, h3_, h5, h5_, h6, h6_]; omega))
          refine AW.wk [(4, AV.bool false)] [] 0 (by simp [h1, h1_, h2, h3, h4, h4_, h3_, h5, h5_, h6, h6_]) (by simp [h1, h1_, h2, h3, h4, h4_, h3_, h5, h5_, h6, h6_]) (by simp) ?_
          simp only [Option.some.injEq] at hF
          subst hF
          refine AW.ret (hQ _ _ _ ?_ (matchO_0 ?_)).1
          · simp [Try.f196, h1, h1_, h2, h3, h4, h4_, h3_, h5, h5_, h6, h6_]
          · simp [h1, h1_, h2, h3, h4, h4_, h3_, h5, h5_, h6, h6_]
        · replace hF := ite_f h6 hF
          have h6_ := h6
          try simp at h6_
          by_cases h7 : 0 < v3
          · replace hF := ite_t h7 hF
            have h7_ := h7
            try simp at h7_
            obtain ⟨v5, h8, h9, h10, hF⟩ := idx_elim hF
            have h10_ := get_of h10
            try simp at h10_
            have h9_ := h9
            try simp at h9_
            try simp [h1, h1_, h2, h3, h4, h4_, h3_, h5, h5_, h6, h6_, h7, h7_, h8, h9, h10, h10_, h9_]
            repeat' apply And.intro
            any_goals (first | exact hG202 _ (by kernel_rfl) | refine hR202 _ _ _ ?_ | omega | (unfold maxLen; omega) | (simp [h1, h1_, h2, h3, h4, h4_, h3_, h5, h5_, h6, h6_, h7, h7_, h8, h9, h10, h10_, h9_]; done) | (simp [h1, h1_, h2, h3, h4, h4_, h3_, h5, h5_, h6, h6_, h7, h7_, h8, h9, h10, h10_, h9_]; omega))
            refine AW.wk [(0, AV.lst false false (List.map (AV.int .i64) v0)), (1, AV.int .i64 v1), (5, AV.int .i64 v3), (40, AV.bool (decide (v4 ≤ v5)))] [] 0 (by simp [h1, h1_, h2, h3, h4, h4_, h3_, h5, h5_, h6, h6_, h7, h7_, h8, h9, h10, h10_, h9_]) (by simp [h1, h1_, h2, h3, h4, h4_, h3_, h5, h5_, h6, h6_, h7, h7_, h8, h9, h10, h10_, h9_]) (by simp) ?_
            by_cases h11 : v4 ≤ v5
            · replace hF := ite_t h11 hF
              have h11_ := h11
              try simp at h11_
              refine AW.condT (by decide) (by first | (simp [h1, h1_, h2, h3, h4, h4_, h3_, h5, h5_, h6, h6_, h7, h7_, h8, h9, h10, h10_, h9_, h11, h11_]; done) | (simp [h1, h1_, h2, h3, h4, h4_, h3_, h5, h5_, h6, h6_, h7, h7_, h8, h9, h10, h10_, h9_, h11, h11_]; omega)) ?_
              refine AW.seqR mixed [] [none] (by kernel_rfl) fun G205 R205 hG205 hR205 => ?_
              try simp [h1, h1_, h2, h3, h4, h4_, h3_, h5, h5_, h6, h6_, h7, h7_, h8, h9, h10, h10_, h9_, h11, h11_]
              repeat' apply And.intro
              any_goals (first | exact hG205 _ (by kernel_rfl) | refine hR205 _ _ _ ?_ | omega | (unfold maxLen; omega) | (simp [h1, h1_, h2, h3, h4, h4_, h3_, h5, h5_, h6, h6_, h7, h7_, h8, h9, h10, h10_, h9_, h11, h11_]; done) | (simp [h1, h1_, h2, h3, h4, h4_, h3_, h5, h5_, h6, h6_, h7, h7_, h8, h9, h10, h10_, h9_, h11, h11_]; omega))
              refine AW.wk [(4, AV.bool false)] [] 0 (by simp [h1, h1_, h2, h3, h4, h4_, h3_, h5, h5_, h6, h6_, h7, h7_, h8, h9, h10, h10_, h9_, h11, h11_]) (by simp [h1, h1_, h2, h3, h4, h4_, h3_, h5, h5_, h6, h6_, h7, h7_, h8, h9, h10, h10_, h9_, h11, h11_]) (by simp) ?_
              simp only [Option.some.injEq] at hF
              subst hF
              refine AW.ret (hQ _ _ _ ?_ (matchO_0 ?_)).1
              · simp [Try.f196, h1, h1_, h2, h3, h4, h4_, h3_, h5, h5_, h6, h6_, h7, h7_, h8, h9, h10, h10_, h9_, h11, h11_]
              · simp [h1, h1_, h2, h3, h4, h4_, h3_, h5, h5_, h6, h6_, h7, h7_, h8, h9, h10, h10_, h9_, h11, h11_]
            · replace hF := ite_f h11 hF
              have h11_ := h11
              try simp at h11_
              refine AW.condF (by decide) (by first | (simp [h1, h1_, h2, h3, h4, h4_, h3_, h5, h5_, h6, h6_, h7, h7_, h8, h9, h10, h10_, h9_, h11, h11_]; done) | (simp [h1, h1_, h2, h3, h4, h4_, h3_, h5, h5_, h6, h6_, h7, h7_, h8, h9, h10, h10_, h9_, h11, h11_]; omega)) ?_
              refine AW.skip ?_
              refine hK201 _ _ _ ?_
              exact Can.join (()) hF (by simp [h1, h1_, h2, h3, h4, h4_, h3_, h5, h5_, h6, h6_, h7, h7_, h8, h9, h10, h10_, h9_, h11, h11_]) (by simp [h1, h1_, h2, h3, h4, h4_, h3_, h5, h5_, h6, h6_, h7, h7_, h8, h9, h10, h10_, h9_, h11, h11_]) (by simp)
          · replace hF := ite_f h7 hF
            have h7_ := h7
            try simp at h7_
            try simp [h1, h1_, h2, h3, h4, h4_, h3_, h5, h5_, h6, h6_, h7, h7_]
            repeat' apply And.intro
            any_goals (first | exact hG202 _ (by kernel_rfl) | refine hR202 _ _ _ ?_ | omega | (unfold maxLen; omega) | (simp [h1, h1_, h2, h3, h4, h4_, h3_, h5, h5_, h6, h6_, h7, h7_]; done) | (simp [h1, h1_, h2, h3, h4, h4_, h3_, h5, h5_, h6, h6_, h7, h7_]; omega))
            refine AW.wk [(0, AV.lst false false (List.map (AV.int .i64) v0)), (1, AV.int .i64 v1), (5, AV.int .i64 v3), (40, AV.bool false)] [] 0 (by simp [h1, h1_, h2, h3, h4, h4_, h3_, h5, h5_, h6, h6_, h7, h7_]) (by simp [h1, h1_, h2, h3, h4, h4_, h3_, h5, h5_, h6, h6_, h7, h7_]) (by simp) ?_
            refine AW.condF (by decide) (by simp [h1, h1_, h2, h3, h4, h4_, h3_, h5, h5_, h6, h6_, h7, h7_]) ?_
            refine AW.skip ?_
            refine hK201 _ _ _ ?_
            exact Can.join (()) hF (by simp [h1, h1_, h2, h3, h4, h4_, h3_, h5, h5_, h6, h6_, h7, h7_]) (by simp [h1, h1_, h2, h3, h4, h4_, h3_, h5, h5_, h6, h6_, h7, h7_]) (by simp)
    · rintro ⟨⟩ hF
      try dsimp only at hF
      unfold ref11_Set.J2 at hF
      refine AW.region mixed [] [none, none, none] (by kernel_rfl) fun G200 R200 hG200 hR200 => ?_
      try simp [h1, h1_]
      repeat' apply And.intro
      any_goals (first | exact hG200 _ (by kernel_rfl) | refine hR200 _ _ _ ?_ | omega | (unfold maxLen; omega) | (simp [h1, h1_]; done) | (simp [h1, h1_]; omega))
      refine hK192 _ _ _ ?_
      refine Can.weak [(0, AV.lst false false (List.map (AV.int .i64) v0)), (1, AV.int .i64 v1), (5, AV.int .i64 (IntKind.wrap .i64 (v3 + 1)))] [] 0 (by simp [h1, h1_]) (by simp [h1, h1_]) (by simp) ?_
      exact Can.next (k' := n1) (IntKind.wrap .i64 (v3 + 1)) (by omega) hF (by simp [h1, h1_]) (by simp [h1, h1_]) (by simp)
  · replace hF := ite_f h1 hF
    have h1_ := h1
    try simp at h1_
    refine AW.condF (by decide) (by first | (simp [h1, h1_]; done) | (simp [h1, h1_]; omega)) ?_
    refine AW.exit ?_
    try simp
    refine hK155 _ _ _ ?_
    refine AW.seqR mixed [] [none] (by kernel_rfl) fun G206 R206 hG206 hR206 => ?_
    try simp [h1, h1_]
    repeat' apply And.intro
    any_goals (first | exact hG206 _ (by kernel_rfl) | refine hR206 _ _ _ ?_ | omega | (unfold maxLen; omega) | (simp [h1, h1_]; done) | (simp [h1, h1_]; omega))
    refine AW.wk [(4, AV.bool true)] [] 0 (by simp [h1, h1_]) (by simp [h1, h1_]) (by simp) ?_
    simp only [Option.some.injEq] at hF
    subst hF
    refine AW.ret (hQ _ _ _ ?_ (matchO_0 ?_)).1
    · simp [Try.f196, h1, h1_]
    · simp [h1, h1_]
set_option maxHeartbeats 4000000 in
theorem w_ref11_Has (k : Nat) (v0 : (List Int)) (v1 : Int) (v2 : Bool) (hF : ref11_Has k v0 v1 = some v2) :
    FCall Try.prog 198 [AV.lst false false (List.map (AV.int .i64) v0), AV.int .i64 v1] [] (AV.bool v2) [] := by
  unfold ref11_Has at hF
  refine FCall.enter Try.func198 rfl (by simp) (by decide) (by simp) (by simp) (by simp) (by simp) (by simp) ?_
  intro c0 w0 Q h0 hQ
  refine AW.wk [(0, AV.lst false false (List.map (AV.int .i64) v0)), (1, AV.int .i64 v1)] [] 0 (by simp) (by simp) (by simp) ?_
  refine AW.seqR mixed [] [none] (by kernel_rfl) fun G80 R80 hG80 hR80 => ?_
  try simp
  repeat' apply And.intro
  any_goals (first | exact hG80 _ (by kernel_rfl) | refine hR80 _ _ _ ?_ | omega | (unfold maxLen; omega) | (simp; done) | (simp; omega))
  refine AW.wk [(0, AV.lst false false (List.map (AV.int .i64) v0)), (1, AV.int .i64 v1)] [] 0 (by simp) (by simp) (by simp) ?_
  refine AW.seq fun K119 hK119 => ?_
  refine AW.seqR mixed [] [none] (by kernel_rfl) fun G120 R120 hG120 hR120 => ?_
  try simp
  repeat' apply And.intro
  any_goals (first | exact hG120 _ (by kernel_rfl) | refine hR120 _ _ _ ?_ | omega | (unfold maxLen; omega) | (simp; done) | (simp; omega))
  refine AW.wk [(0, AV.lst false false (List.map (AV.int .i64) v0)), (1, AV.int .i64 v1), (5, AV.int .i64 0)] [] 0 (by simp) (by simp) (by simp) ?_
  refine AW.block ?_
  refine AW.loopF (α := Int) (fun n v3 => ref11_Has.L1 k v0 v1 n v3 = some v2) (fun v3 => [(0, AV.lst false false (List.map (AV.int .i64) v0)), (1, AV.int .i64 v1), (5, AV.int .i64 v3)]) (fun v3 => []) 0 k (0) hF (by simp) (by simp) (by simp) ?_
  rintro (_|n1) v3 hF K148 hK148
  · try dsimp only at hF
    rw [ref11_Has.L1] at hF; cases hF
  try dsimp only at hF
  rw [ref11_Has.L1] at hF
  refine AW.seq fun K150 hK150 => ?_
  refine AW.seqR mixed [] [none, none, none, none] (by kernel_rfl) fun G151 R151 hG151 hR151 => ?_
  try simp
  repeat' apply And.intro
  any_goals (first | exact hG151 _ (by kernel_rfl) | refine hR151 _ _ _ ?_ | omega | (unfold maxLen; omega) | (simp; done) | (simp; omega))
  refine AW.wk [(0, AV.lst false false (List.map (AV.int .i64) v0)), (1, AV.int .i64 v1), (5, AV.int .i64 v3), (9, AV.bool (decide (v3 < (v0.length : Int))))] [] 0 (by simp) (by simp) (by simp) ?_
  by_cases h1 : v3 < (v0.length : Int)
  · replace hF := ite_t h1 hF
    have h1_ := h1
    try simp at h1_
    refine AW.condT (by decide) (by first | (simp [h1, h1_]; done) | (simp [h1, h1_]; omega)) ?_
    refine AW.skip ?_
    refine hK150 _ _ _ ?_
    refine AW.seq fun K154 hK154 => ?_
    refine AW.block ?_
    refine AW.seqR mixed [] [none, none, none, none, none, none] (by kernel_rfl) fun G155 R155 hG155 hR155 => ?_
    obtain ⟨v4, h2, h3, h4, hF⟩ := idx_elim hF
    have h4_ := get_of h4
    try simp at h4_
    have h3_ := h3
    try simp at h3_
    try simp [h1, h1_, h2, h3, h4, h4_, h3_]
    repeat' apply And.intro
    any_goals (first | exact hG155 _ (by kernel_rfl) | refine hR155 _ _ _ ?_ | omega | (unfold maxLen; omega) | (simp [h1, h1_, h2, h3, h4, h4_, h3_]; done) | (simp [h1, h1_, h2, h3, h4, h4_, h3_]; omega))
    refine AW.wk [(0, AV.lst false false (List.map (AV.int .i64) v0)), (1, AV.int .i64 v1), (5, AV.int .i64 v3), (17, AV.bool (v4 == v1))] [] 0 (by simp [h1, h1_, h2, h3, h4, h4_, h3_]) (by simp [h1, h1_, h2, h3, h4, h4_, h3_]) (by simp) ?_
    by_cases h5 : v4 = v1
    · replace hF := ite_t h5 hF
      have h5q : v4 = v1 := h5
      have h5_ := eqb_t h5q
      have h5__ := neb_f h5q
      refine AW.condT (by decide) (by first | (simp [h1, h1_, h2, h3, h4, h4_, h3_, h5_, h5__]; done) | (simp [h1, h1_, h2, h3, h4, h4_, h3_, h5_, h5__]; omega)) ?_
      refine AW.seqR mixed [] [none] (by kernel_rfl) fun G156 R156 hG156 hR156 => ?_
      try simp [h1, h1_, h2, h3, h4, h4_, h3_, h5_, h5__]
      repeat' apply And.intro
      any_goals (first | exact hG156 _ (by kernel_rfl) | refine hR156 _ _ _ ?_ | omega | (unfold maxLen; omega) | (simp [h1, h1_, h2, h3, h4, h4_, h3_, h5_, h5__]; done) | (simp [h1, h1_, h2, h3, h4, h4_, h3_, h5_, h5__]; omega))
      refine AW.wk [(4, AV.bool true)] [] 0 (by simp [h1, h1_, h2, h3, h4, h4_, h3_, h5_, h5__]) (by simp [h1, h1_, h2, h3, h4, h4_, h3_, h5_, h5__]) (by simp) ?_
      simp only [Option.some.injEq] at hF
      subst hF
      refine AW.ret (hQ _ _ _ ?_ (matchO_0 ?_)).1
      · simp [Try.f198, h1, h1_, h2, h3, h4, h4_, h3_, h5_, h5__]
      · simp [h1, h1_, h2, h3, h4, h4_, h3_, h5_, h5__]
    · replace hF := ite_f h5 hF
      have h5_ := eqb_f h5
      have h5__ := neb_t h5
      refine AW.condF (by decide) (by first | (simp [h1, h1_, h2, h3, h4, h4_, h3_, h5, h5_, h5__]; done) | (simp [h1, h1_, h2, h3, h4, h4_, h3_, h5, h5_, h5__]; omega)) ?_
      refine AW.skip ?_
      refine hK154 _ _ _ ?_
      refine AW.region mixed [] [none, none, none] (by kernel_rfl) fun G157 R157 hG157 hR157 => ?_
      try simp [h1, h1_, h2, h3, h4, h4_, h3_, h5, h5_, h5__]
      repeat' apply And.intro
      any_goals (first | exact hG157 _ (by kernel_rfl) | refine hR157 _ _ _ ?_ | omega | (unfold maxLen; omega) | (simp [h1, h1_, h2, h3, h4, h4_, h3_, h5, h5_, h5__]; done) | (simp [h1, h1_, h2, h3, h4, h4_, h3_, h5, h5_, h5__]; omega))
      refine hK148 _ _ _ ?_
      refine Can.weak [(0, AV.lst false false (List.map (AV.int .i64) v0)), (1, AV.int .i64 v1), (5, AV.int .i64 (IntKind.wrap .i64 (v3 + 1)))] [] 0 (by simp [h1, h1_, h2, h3, h4, h4_, h3_, h5, h5_, h5__]) (by simp [h1, h1_, h2, h3, h4, h4_, h3_, h5, h5_, h5__]) (by simp) ?_
      exact Can.next (k' := n1) (IntKind.wrap .i64 (v3 + 1)) (by omega) hF (by simp [h1, h1_, h2, h3, h4, h4_, h3_, h5, h5_, h5__]) (by simp [h1, h1_, h2, h3, h4, h4_, h3_, h5, h5_, h5__]) (by simp)
  · replace hF := ite_f h1 hF
    have h1_ := h1
    try simp at h1_
    refine AW.condF (by decide) (by first | (simp [h1, h1_]; done) | (simp [h1, h1_]; omega)) ?_
    refine AW.exit ?_
    try simp
    refine hK119 _ _ _ ?_
    refine AW.seqR mixed [] [none] (by kernel_rfl) fun G158 R158 hG158 hR158 => ?_
    try simp [h1, h1_]
    repeat' apply And.intro
    any_goals (first | exact hG158 _ (by kernel_rfl) | refine hR158 _ _ _ ?_ | omega | (unfold maxLen; omega) | (simp [h1, h1_]; done) | (simp [h1, h1_]; omega))
    refine AW.wk [(4, AV.bool false)] [] 0 (by simp [h1, h1_]) (by simp [h1, h1_]) (by simp) ?_
    simp only [Option.some.injEq] at hF
    subst hF
    refine AW.ret (hQ _ _ _ ?_ (matchO_0 ?_)).1
    · simp [Try.f198, h1, h1_]
    · simp [h1, h1_]
set_option maxHeartbeats 4000000 in
theorem w_ref11_before (k : Nat) (v0 : Int) (v1 : Int) (v2 : Int) (v3 : Int) (v4 : Int) (v5 : Int) (v6 : Bool) (hF : ref11_before k v0 v1 v2 v3 v4 v5 = some v6) :
    FCall Try.prog 197 [AV.agg [AV.int .i64 v0, AV.int .i64 v1, AV.int .i64 v2], AV.agg [AV.int .i64 v3, AV.int .i64 v4, AV.int .i64 v5]] [] (AV.bool v6) [] := by
  unfold ref11_before at hF
  refine FCall.enter Try.func197 rfl (by simp) (by decide) (by simp) (by simp) (by simp) (by simp) (by simp) ?_
  intro c0 w0 Q h0 hQ
  refine AW.wk [(0, AV.agg [AV.int .i64 v0, AV.int .i64 v1, AV.int .i64 v2]), (1, AV.agg [AV.int .i64 v3, AV.int .i64 v4, AV.int .i64 v5])] [] 0 (by simp) (by simp) (by simp) ?_
  refine AW.seqR mixed [] [none, none, none] (by kernel_rfl) fun G3 R3 hG3 hR3 => ?_
  try simp
  repeat' apply And.intro
  any_goals (first | exact hG3 _ (by kernel_rfl) | refine hR3 _ _ _ ?_ | omega | (unfold maxLen; omega) | (simp; done) | (simp; omega))
  refine AW.wk [(2, AV.ptr 0 0), (3, AV.ptr 1 0)] [(0, .cells [AV.int .i64 v0, AV.int .i64 v1, AV.int .i64 v2]), (1, .cells [AV.int .i64 v3, AV.int .i64 v4, AV.int .i64 v5])] 2 (by simp) (by simp) (by simp) ?_
  refine AW.seqR mixed [] [none, none, none, none, none, none, some (10, false), some (10, false), some (10, false), some (10, false), some (10, false), some (10, false), some (16, true), some (16, true), some (16, true), some (16, true), some (16, true), some (10, false), none, none] (by kernel_rfl) fun G4 R4 hG4 hR4 => ?_
  by_cases h1 : v0 < v3
  · replace hF := ite_t h1 hF
    have h1_ := h1
    try simp at h1_
    try simp [h1, h1_]
    repeat' apply And.intro
    any_goals (first | exact hG4 _ (by kernel_rfl) | refine hR4 _ _ _ ?_ | omega | (unfold maxLen; omega) | (simp [h1, h1_]; done) | (simp [h1, h1_]; omega))
    refine AW.wk [(4, AV.bool true)] [] 2 (by simp [h1, h1_]) (by simp [h1, h1_]) (by simp) ?_
    simp only [Option.some.injEq] at hF
    subst hF
    refine AW.ret (hQ _ _ _ ?_ (matchO_0 ?_)).1
    · simp [Try.f197, h1, h1_]
    · simp [h1, h1_]
  · replace hF := ite_f h1 hF
    have h1_ := h1
    try simp at h1_
    by_cases h2 : v0 = v3
    · replace hF := ite_t h2 hF
      have h2q : v0 = v3 := h2
      have h2_ := eqb_t h2q
      have h2__ := neb_f h2q
      try simp [h1, h1_, h2_, h2__]
      repeat' apply And.intro
      any_goals (first | exact hG4 _ (by kernel_rfl) | refine hR4 _ _ _ ?_ | omega | (unfold maxLen; omega) | (simp [h1, h1_, h2_, h2__]; done) | (simp [h1, h1_, h2_, h2__]; omega))
      refine AW.wk [(4, AV.bool (decide (v1 < v4)))] [] 2 (by simp [h1, h1_, h2_, h2__]) (by simp [h1, h1_, h2_, h2__]) (by simp) ?_
      simp only [Option.some.injEq] at hF
      subst hF
      refine AW.ret (hQ _ _ _ ?_ (matchO_0 ?_)).1
      · simp [Try.f197, h1, h1_, h2_, h2__]
      · simp [h1, h1_, h2_, h2__]
    · replace hF := ite_f h2 hF
      have h2_ := eqb_f h2
      have h2__ := neb_t h2
      try simp [h1, h1_, h2, h2_, h2__]
      repeat' apply And.intro
      any_goals (first | exact hG4 _ (by kernel_rfl) | refine hR4 _ _ _ ?_ | omega | (unfold maxLen; omega) | (simp [h1, h1_, h2, h2_, h2__]; done) | (simp [h1, h1_, h2, h2_, h2__]; omega))
      refine AW.wk [(4, AV.bool false)] [] 2 (by simp [h1, h1_, h2, h2_, h2__]) (by simp [h1, h1_, h2, h2_, h2__]) (by simp) ?_
      simp only [Option.some.injEq] at hF
      subst hF
      refine AW.ret (hQ _ _ _ ?_ (matchO_0 ?_)).1
      · simp [Try.f197, h1, h1_, h2, h2_, h2__]
      · simp [h1, h1_, h2, h2_, h2__]
set_option maxHeartbeats 4000000 in
theorem w_ref11_Check (k : Nat) (v0 : Int) (v1 : (List api_Edge)) (v2 : (List Int)) (v3 : Int) (hF : ref11_Check k v0 v1 v2 = some v3) :
    FCall Try.prog 173 [AV.agg [AV.int .i64 v0, AV.lst false false (List.map api_Edge.av v1), AV.lst false false (List.map (AV.int .i64) v2)]] [] (AV.int .i64 v3) [] := by
  unfold ref11_Check at hF
  refine FCall.enter Try.func173 rfl (by simp) (by decide) (by simp) (by simp) (by simp) (by simp) (by simp) ?_
  intro c0 w0 Q h0 hQ
  refine AW.wk [(0, AV.agg [AV.int .i64 v0, AV.lst false false (List.map api_Edge.av v1), AV.lst false false (List.map (AV.int .i64) v2)])] [] 0 (by simp) (by simp) (by simp) ?_
  refine AW.seqR mixed [] [none, none] (by kernel_rfl) fun G395 R395 hG395 hR395 => ?_
  try simp
  repeat' apply And.intro
  any_goals (first | exact hG395 _ (by kernel_rfl) | refine hR395 _ _ _ ?_ | omega | (unfold maxLen; omega) | (simp; done) | (simp; omega))
  refine AW.wk [(1, AV.ptr 0 0)] [(0, .cells [AV.int .i64 v0, AV.lst false false (List.map api_Edge.av v1), AV.lst false false (List.map (AV.int .i64) v2)])] 1 (by simp) (by simp) (by simp) ?_
  refine AW.seq fun K401 hK401 => ?_
  refine AW.seqR mixed [] [none, none, none, none, some (8, false), some (8, false), some (8, false), none, none, some (13, false), some (13, false), some (13, false), some (13, false), none, none, some (19, false), some (19, false), some (19, false), some (19, false), some (19, false), some (19, false), none] (by kernel_rfl) fun G402 R402 hG402 hR402 => ?_
  by_cases h1 : v0 < 0
  · replace hF := ite_t h1 hF
    have h1_ := h1
    try simp at h1_
    try simp [h1, h1_]
    repeat' apply And.intro
    any_goals (first | exact hG402 _ (by kernel_rfl) | refine hR402 _ _ _ ?_ | omega | (unfold maxLen; omega) | (simp [h1, h1_]; done) | (simp [h1, h1_]; omega))
    refine AW.wk [(1, AV.ptr 0 0), (26, AV.bool true)] [(0, .cells [AV.int .i64 v0, AV.lst false false (List.map api_Edge.av v1), AV.lst false false (List.map (AV.int .i64) v2)])] 1 (by simp [h1, h1_]) (by simp [h1, h1_]) (by simp) ?_
    refine AW.condT (by decide) (by simp [h1, h1_]) ?_
    refine AW.seqR mixed [] [none] (by kernel_rfl) fun G403 R403 hG403 hR403 => ?_
    try simp [h1, h1_]
    repeat' apply And.intro
    any_goals (first | exact hG403 _ (by kernel_rfl) | refine hR403 _ _ _ ?_ | omega | (unfold maxLen; omega) | (simp [h1, h1_]; done) | (simp [h1, h1_]; omega))
    refine AW.wk [(2, AV.int .i64 14)] [] 1 (by simp [h1, h1_]) (by simp [h1, h1_]) (by simp) ?_
    simp only [Option.some.injEq] at hF
    subst hF
    refine AW.ret (hQ _ _ _ ?_ (matchO_0 ?_)).1
    · simp [Try.f173, h1, h1_]
    · simp [h1, h1_]
  · replace hF := ite_f h1 hF
    have h1_ := h1
    try simp at h1_
    by_cases h2 : 64 < v0
    · replace hF := ite_t h2 hF
      have h2_ := h2
      try simp at h2_
      try simp [h1, h1_, h2, h2_]
      repeat' apply And.intro
      any_goals (first | exact hG402 _ (by kernel_rfl) | refine hR402 _ _ _ ?_ | omega | (unfold maxLen; omega) | (simp [h1, h1_, h2, h2_]; done) | (simp [h1, h1_, h2, h2_]; omega))
      refine AW.wk [(1, AV.ptr 0 0), (26, AV.bool true)] [(0, .cells [AV.int .i64 v0, AV.lst false false (List.map api_Edge.av v1), AV.lst false false (List.map (AV.int .i64) v2)])] 1 (by simp [h1, h1_, h2, h2_]) (by simp [h1, h1_, h2, h2_]) (by simp) ?_
      refine AW.condT (by decide) (by simp [h1, h1_, h2, h2_]) ?_
      refine AW.seqR mixed [] [none] (by kernel_rfl) fun G404 R404 hG404 hR404 => ?_
      try simp [h1, h1_, h2, h2_]
      repeat' apply And.intro
      any_goals (first | exact hG404 _ (by kernel_rfl) | refine hR404 _ _ _ ?_ | omega | (unfold maxLen; omega) | (simp [h1, h1_, h2, h2_]; done) | (simp [h1, h1_, h2, h2_]; omega))
      refine AW.wk [(2, AV.int .i64 14)] [] 1 (by simp [h1, h1_, h2, h2_]) (by simp [h1, h1_, h2, h2_]) (by simp) ?_
      simp only [Option.some.injEq] at hF
      subst hF
      refine AW.ret (hQ _ _ _ ?_ (matchO_0 ?_)).1
      · simp [Try.f173, h1, h1_, h2, h2_]
      · simp [h1, h1_, h2, h2_]
    · replace hF := ite_f h2 hF
      have h2_ := h2
      try simp at h2_
      by_cases h3 : 500 < (v1.length : Int)
      · replace hF := ite_t h3 hF
        have h3_ := h3
        try simp at h3_
        try simp [h1, h1_, h2, h2_, h3, h3_]
        repeat' apply And.intro
        any_goals (first | exact hG402 _ (by kernel_rfl) | refine hR402 _ _ _ ?_ | omega | (unfold maxLen; omega) | (simp [h1, h1_, h2, h2_, h3, h3_]; done) | (simp [h1, h1_, h2, h2_, h3, h3_]; omega))
        refine AW.wk [(1, AV.ptr 0 0), (26, AV.bool true)] [(0, .cells [AV.int .i64 v0, AV.lst false false (List.map api_Edge.av v1), AV.lst false false (List.map (AV.int .i64) v2)])] 1 (by simp [h1, h1_, h2, h2_, h3, h3_]) (by simp [h1, h1_, h2, h2_, h3, h3_]) (by simp) ?_
        refine AW.condT (by decide) (by simp [h1, h1_, h2, h2_, h3, h3_]) ?_
        refine AW.seqR mixed [] [none] (by kernel_rfl) fun G405 R405 hG405 hR405 => ?_
        try simp [h1, h1_, h2, h2_, h3, h3_]
        repeat' apply And.intro
        any_goals (first | exact hG405 _ (by kernel_rfl) | refine hR405 _ _ _ ?_ | omega | (unfold maxLen; omega) | (simp [h1, h1_, h2, h2_, h3, h3_]; done) | (simp [h1, h1_, h2, h2_, h3, h3_]; omega))
        refine AW.wk [(2, AV.int .i64 14)] [] 1 (by simp [h1, h1_, h2, h2_, h3, h3_]) (by simp [h1, h1_, h2, h2_, h3, h3_]) (by simp) ?_
        simp only [Option.some.injEq] at hF
        subst hF
        refine AW.ret (hQ _ _ _ ?_ (matchO_0 ?_)).1
        · simp [Try.f173, h1, h1_, h2, h2_, h3, h3_]
        · simp [h1, h1_, h2, h2_, h3, h3_]
      · replace hF := ite_f h3 hF
        have h3_ := h3
        try simp at h3_
        try simp [h1, h1_, h2, h2_, h3, h3_]
        repeat' apply And.intro
        try any_goals (first | omega | (unfold maxLen; omega) | (simp [h1, h1_, h2, h2_, h3, h3_]; done))
        obtain ⟨v4, h4, hF⟩ := bnd1_elim hF
        refine aCall_l (w_ref11_Set k _ _ _ h4) (by simp) [] [] [] rfl (.cons (.same (by simp [h1, h1_, h2, h2_, h3, h3_])) (.cons (.same (by simp [h1, h1_, h2, h2_, h3, h3_])) .nil)) (by simp [h1, h1_, h2, h2_, h3, h3_]) (by decide) (by simp) (by simp) (.inl rfl) (by simp) (by simp) ?_
        try simp [h1, h1_, h2, h2_, h3, h3_]
        repeat' apply And.intro
        any_goals (first | exact hG402 _ (by kernel_rfl) | refine hR402 _ _ _ ?_ | omega | (unfold maxLen; omega) | (simp [h1, h1_, h2, h2_, h3, h3_]; done) | (simp [h1, h1_, h2, h2_, h3, h3_]; omega))
        refine AW.wk [(1, AV.ptr 0 0), (26, AV.bool (!v4))] [(0, .cells [AV.int .i64 v0, AV.lst false false (List.map api_Edge.av v1), AV.lst false false (List.map (AV.int .i64) v2)])] 1 (by simp [h1, h1_, h2, h2_, h3, h3_]) (by simp [h1, h1_, h2, h2_, h3, h3_]) (by simp) ?_
        by_cases h5 : (!v4) = true
        · replace hF := ite_t h5 hF
          have h5_ := h5
          try simp at h5_
          refine AW.condT (by decide) (by first | (simp [h1, h1_, h2, h2_, h3, h3_, h5, h5_]; done) | (simp [h1, h1_, h2, h2_, h3, h3_, h5, h5_]; omega)) ?_
          refine AW.seqR mixed [] [none] (by kernel_rfl) fun G406 R406 hG406 hR406 => ?_
          try simp [h1, h1_, h2, h2_, h3, h3_, h5, h5_]
          repeat' apply And.intro
          any_goals (first | exact hG406 _ (by kernel_rfl) | refine hR406 _ _ _ ?_ | omega | (unfold maxLen; omega) | (simp [h1, h1_, h2, h2_, h3, h3_, h5, h5_]; done) | (simp [h1, h1_, h2, h2_, h3, h3_, h5, h5_]; omega))
          refine AW.wk [(2, AV.int .i64 14)] [] 1 (by simp [h1, h1_, h2, h2_, h3, h3_, h5, h5_]) (by simp [h1, h1_, h2, h2_, h3, h3_, h5, h5_]) (by simp) ?_
          simp only [Option.some.injEq] at hF
          subst hF
          refine AW.ret (hQ _ _ _ ?_ (matchO_0 ?_)).1
          · simp [Try.f173, h1, h1_, h2, h2_, h3, h3_, h5, h5_]
          · simp [h1, h1_, h2, h2_, h3, h3_, h5, h5_]
        · replace hF := ite_f h5 hF
          have h5_ := h5
          try simp at h5_
          refine AW.condF (by decide) (by first | (simp [h1, h1_, h2, h2_, h3, h3_, h5, h5_]; done) | (simp [h1, h1_, h2, h2_, h3, h3_, h5, h5_]; omega)) ?_
          refine AW.skip ?_
          refine hK401 _ _ _ ?_
          refine AW.seq fun K597 hK597 => ?_
          refine AW.seqR mixed [] [none] (by kernel_rfl) fun G598 R598 hG598 hR598 => ?_
          try simp [h1, h1_, h2, h2_, h3, h3_, h5, h5_]
          repeat' apply And.intro
          any_goals (first | exact hG598 _ (by kernel_rfl) | refine hR598 _ _ _ ?_ | omega | (unfold maxLen; omega) | (simp [h1, h1_, h2, h2_, h3, h3_, h5, h5_]; done) | (simp [h1, h1_, h2, h2_, h3, h3_, h5, h5_]; omega))
          refine AW.wk [(1, AV.ptr 0 0), (3, AV.int .i64 0)] [(0, .cells [AV.int .i64 v0, AV.lst false false (List.map api_Edge.av v1), AV.lst false false (List.map (AV.int .i64) v2)])] 1 (by simp [h1, h1_, h2, h2_, h3, h3_, h5, h5_]) (by simp [h1, h1_, h2, h2_, h3, h3_, h5, h5_]) (by simp) ?_
          refine AW.block ?_
          refine AW.loopF (α := Int) (fun n v5 => ref11_Check.L1 k v0 v1 v2 n v5 = some v3) (fun v5 => [(1, AV.ptr 0 0), (3, AV.int .i64 v5)]) (fun v5 => [(0, .cells [AV.int .i64 v0, AV.lst false false (List.map api_Edge.av v1), AV.lst false false (List.map (AV.int .i64) v2)])]) 1 k (0) hF (by simp [h1, h1_, h2, h2_, h3, h3_, h5, h5_]) (by simp [h1, h1_, h2, h2_, h3, h3_, h5, h5_]) (by simp) ?_
          rintro (_|n1) v5 hF K740 hK740
          · try dsimp only at hF
            rw [ref11_Check.L1] at hF; cases hF
          try dsimp only at hF
          rw [ref11_Check.L1] at hF
          refine AW.seq fun K742 hK742 => ?_
          refine AW.seqR mixed [] [none, none, none, none, none] (by kernel_rfl) fun G743 R743 hG743 hR743 => ?_
          try simp [h1, h1_, h2, h2_, h3, h3_, h5, h5_]
          repeat' apply And.intro
          any_goals (first | exact hG743 _ (by kernel_rfl) | refine hR743 _ _ _ ?_ | omega | (unfold maxLen; omega) | (simp [h1, h1_, h2, h2_, h3, h3_, h5, h5_]; done) | (simp [h1, h1_, h2, h2_, h3, h3_, h5, h5_]; omega))
          refine AW.wk [(1, AV.ptr 0 0), (3, AV.int .i64 v5), (31, AV.bool (decide (v5 < (v1.length : Int))))] [(0, .cells [AV.int .i64 v0, AV.lst false false (List.map api_Edge.av v1), AV.lst false false (List.map (AV.int .i64) v2)])] 1 (by simp [h1, h1_, h2, h2_, h3, h3_, h5, h5_]) (by simp [h1, h1_, h2, h2_, h3, h3_, h5, h5_]) (by simp) ?_
          by_cases h6 : v5 < (v1.length : Int)
          · replace hF := ite_t h6 hF
            have h6_ := h6
            try simp at h6_
            refine AW.condT (by decide) (by first | (simp [h1, h1_, h2, h2_, h3, h3_, h5, h5_, h6, h6_]; done) | (simp [h1, h1_, h2, h2_, h3, h3_, h5, h5_, h6, h6_]; omega)) ?_
            refine AW.skip ?_
            refine hK742 _ _ _ ?_
            refine AW.seq fun K765 hK765 => ?_
            refine AW.block ?_
            refine AW.seqR mixed [] [none, none, none, none, none, none, none] (by kernel_rfl) fun G766 R766 hG766 hR766 => ?_
            obtain ⟨v6, h7, h8, h9, hF⟩ := idx_elim hF
            have h9_ := get_of h9
            try simp at h9_
            have h8_ := h8
            try simp at h8_
            try simp [h1, h1_, h2, h2_, h3, h3_, h5, h5_, h6, h6_, h7, h8, h9, h9_, h8_]
            repeat' apply And.intro
            any_goals (first | exact hG766 _ (by kernel_rfl) | refine hR766 _ _ _ ?_ | omega | (unfold maxLen; omega) | (simp [h1, h1_, h2, h2_, h3, h3_, h5, h5_, h6, h6_, h7, h8, h9, h9_, h8_]; done) | (simp [h1, h1_, h2, h2_, h3, h3_, h5, h5_, h6, h6_, h7, h8, h9, h9_, h8_]; omega))
            refine AW.wk [(1, AV.ptr 0 0), (3, AV.int .i64 v5), (4, AV.ptr 1 0)] [(0, .cells [AV.int .i64 v0, AV.lst false false (List.map api_Edge.av v1), AV.lst false false (List.map (AV.int .i64) v2)]), (1, .cells [AV.int .i64 v6.From, AV.int .i64 v6.To, AV.int .i64 v6.Level])] 2 (by simp [h1, h1_, h2, h2_, h3, h3_, h5, h5_, h6, h6_, h7, h8, h9, h9_, h8_]) (by simp [h1, h1_, h2, h2_, h3, h3_, h5, h5_, h6, h6_, h7, h8, h9, h9_, h8_]) (by simp) ?_
            refine AW.seq fun K775 hK775 => ?_
            refine AW.seqR mixed [] [none, none, none, none, some (42, false), some (42, false), some (42, false), some (42, false), some (42, false), none, none, some (49, false), some (49, false), some (49, false), none, none, some (54, false), some (54, false), some (54, false), some (54, false), some (54, false), none, none, some (61, false), some (61, false), some (61, false), some (61, false), some (61, false), none, none, some (68, false), some (68, false), some (68, false), none, none, some (73, false), some (73, false), some (73, false), none] (by kernel_rfl) fun G776 R776 hG776 hR776 => ?_
            by_cases h10 : v6.From < 0
            · replace hF := ite_t h10 hF
              have h10_ := h10
              try simp at h10_
              try simp [h1, h1_, h2, h2_, h3, h3_, h5, h5_, h6, h6_, h7, h8, h9, h9_, h8_, h10, h10_]
              repeat' apply And.intro
              any_goals (first | exact hG776 _ (by kernel_rfl) | refine hR776 _ _ _ ?_ | omega | (unfold maxLen; omega) | (simp [h1, h1_, h2, h2_, h3, h3_, h5, h5_, h6, h6_, h7, h8, h9, h9_, h8_, h10, h10_]; done) | (simp [h1, h1_, h2, h2_, h3, h3_, h5, h5_, h6, h6_, h7, h8, h9, h9_, h8_, h10, h10_]; omega))
              refine AW.wk [(1, AV.ptr 0 0), (3, AV.int .i64 v5), (4, AV.ptr 1 0), (77, AV.bool true)] [(0, .cells [AV.int .i64 v0, AV.lst false false (List.map api_Edge.av v1), AV.lst false false (List.map (AV.int .i64) v2)]), (1, .cells [AV.int .i64 v6.From, AV.int .i64 v6.To, AV.int .i64 v6.Level])] 2 (by simp [h1, h1_, h2, h2_, h3, h3_, h5, h5_, h6, h6_, h7, h8, h9, h9_, h8_, h10, h10_]) (by simp [h1, h1_, h2, h2_, h3, h3_, h5, h5_, h6, h6_, h7, h8, h9, h9_, h8_, h10, h10_]) (by simp) ?_
              refine AW.condT (by decide) (by simp [h1, h1_, h2, h2_, h3, h3_, h5, h5_, h6, h6_, h7, h8, h9, h9_, h8_, h10, h10_]) ?_
              refine AW.seqR mixed [] [none] (by kernel_rfl) fun G777 R777 hG777 hR777 => ?_
              try simp [h1, h1_, h2, h2_, h3, h3_, h5, h5_, h6, h6_, h7, h8, h9, h9_, h8_, h10, h10_]
              repeat' apply And.intro
              any_goals (first | exact hG777 _ (by kernel_rfl) | refine hR777 _ _ _ ?_ | omega | (unfold maxLen; omega) | (simp [h1, h1_, h2, h2_, h3, h3_, h5, h5_, h6, h6_, h7, h8, h9, h9_, h8_, h10, h10_]; done) | (simp [h1, h1_, h2, h2_, h3, h3_, h5, h5_, h6, h6_, h7, h8, h9, h9_, h8_, h10, h10_]; omega))
              refine AW.wk [(2, AV.int .i64 14)] [] 2 (by simp [h1, h1_, h2, h2_, h3, h3_, h5, h5_, h6, h6_, h7, h8, h9, h9_, h8_, h10, h10_]) (by simp [h1, h1_, h2, h2_, h3, h3_, h5, h5_, h6, h6_, h7, h8, h9, h9_, h8_, h10, h10_]) (by simp) ?_
              simp only [Option.some.injEq] at hF
              subst hF
              refine AW.ret (hQ _ _ _ ?_ (matchO_0 ?_)).1
              · simp [Try.f173, h1, h1_, h2, h2_, h3, h3_, h5, h5_, h6, h6_, h7, h8, h9, h9_, h8_, h10, h10_]
              · simp [h1, h1_, h2, h2_, h3, h3_, h5, h5_, h6, h6_, h7, h8, h9, h9_, h8_, h10, h10_]
            · replace hF := ite_f h10 hF
              have h10_ := h10
              try simp at h10_
              by_cases h11 : v0 ≤ v6.From
              · replace hF := ite_t h11 hF
                have h11_ := h11
                try simp at h11_
                try simp [h1, h1_, h2, h2_, h3, h3_, h5, h5_, h6, h6_, h7, h8, h9, h9_, h8_, h10, h10_, h11, h11_]
                repeat' apply And.intro
                any_goals (first | exact hG776 _ (by kernel_rfl) | refine hR776 _ _ _ ?_ | omega | (unfold maxLen; omega) | (simp [h1, h1_, h2, h2_, h3, h3_, h5, h5_, h6, h6_, h7, h8, h9, h9_, h8_, h10, h10_, h11, h11_]; done) | (simp [h1, h1_, h2, h2_, h3, h3_, h5, h5_, h6, h6_, h7, h8, h9, h9_, h8_, h10, h10_, h11, h11_]; omega))
                refine AW.wk [(1, AV.ptr 0 0), (3, AV.int .i64 v5), (4, AV.ptr 1 0), (77, AV.bool true)] [(0, .cells [AV.int .i64 v0, AV.lst false false (List.map api_Edge.av v1), AV.lst false false (List.map (AV.int .i64) v2)]), (1, .cells [AV.int .i64 v6.From, AV.int .i64 v6.To, AV.int .i64 v6.Level])] 2 (by simp [h1, h1_, h2, h2_, h3, h3_, h5, h5_, h6, h6_, h7, h8, h9, h9_, h8_, h10, h10_, h11, h11_]) (by simp [h1, h1_, h2, h2_, h3, h3_, h5, h5_, h6, h6_, h7, h8, h9, h9_, h8_, h10, h10_, h11, h11_]) (by simp) ?_
                refine AW.condT (by decide) (by simp [h1, h1_, h2, h2_, h3, h3_, h5, h5_, h6, h6_, h7, h8, h9, h9_, h8_, h10, h10_, h11, h11_]) ?_
                refine AW.seqR mixed [] [none] (by kernel_rfl) fun G778 R778 hG778 hR778 => ?_
                try simp [h1, h1_, h2, h2_, h3, h3_, h5, h5_, h6, h6_, h7, h8, h9, h9_, h8_, h10, h10_, h11, h11_]
                repeat' apply And.intro
                any_goals (first | exact hG778 _ (by kernel_rfl) | refine hR778 _ _ _ ?_ | omega | (unfold maxLen; omega) | (simp [h1, h1_, h2, h2_, h3, h3_, h5, h5_, h6, h6_, h7, h8, h9, h9_, h8_, h10, h10_, h11, h11_]; done) | (simp [h1, h1_, h2, h2_, h3, h3_, h5, h5_, h6, h6_, h7, h8, h9, h9_, h8_, h10, h10_, h11, h11_]; omega))
                refine AW.wk [(2, AV.int .i64 14)] [] 2 (by simp [h1, h1_, h2, h2_, h3, h3_, h5, h5_, h6, h6_, h7, h8, h9, h9_, h8_, h10, h10_, h11, h11_]) (by simp [h1, h1_, h2, h2_, h3, h3_, h5, h5_, h6, h6_, h7, h8, h9, h9_, h8_, h10, h10_, h11, h11_]) (by simp) ?_
                simp only [Option.some.injEq] at hF
                subst hF
                refine AW.ret (hQ _ _ _ ?_ (matchO_0 ?_)).1
                · simp [Try.f173, h1, h1_, h2, h2_, h3, h3_, h5, h5_, h6, h6_, h7, h8, h9, h9_, h8_, h10, h10_, h11, h11_]
                · simp [h1, h1_, h2, h2_, h3, h3_, h5, h5_, h6, h6_, h7, h8, h9, h9_, h8_, h10, h10_, h11, h11_]
              · replace hF := ite_f h11 hF
                have h11_ := h11
                try simp at h11_
                by_cases h12 : v6.To < 0
                · replace hF := ite_t h12 hF
                  have h12_ := h12
                  try simp at h12_
                  try simp [h1, h1_, h2, h2_, h3, h3_, h5, h5_, h6, h6_, h7, h8, h9, h9_, h8_, h10, h10_, h11, h11_, h12, h12_]
                  repeat' apply And.intro
                  any_goals (first | exact hG776 _ (by kernel_rfl) | refine hR776 _ _ _ ?_ | omega | (unfold maxLen; omega) | (simp [h1, h1_, h2, h2_, h3, h3_, h5, h5_, h6, h6_, h7, h8, h9, h9_, h8_, h10, h10_, h11, h11_, h12, h12_]; done) | (simp [h1, h1_, h2, h2_, h3, h3_, h5, h5_, h6, h6_, h7, h8, h9, h9_, h8_, h10, h10_, h11, h11_, h12, h12_]; omega))
                  refine AW.wk [(1, AV.ptr 0 0), (3, AV.int .i64 v5), (4, AV.ptr 1 0), (77, AV.bool true)] [(0, .cells [AV.int .i64 v0, AV.lst false false (List.map api_Edge.av v1), AV.lst false false (List.map (AV.int .i64) v2)]), (1, .cells [AV.int .i64 v6.From, AV.int .i64 v6.To, AV.int .i64 v6.Level])] 2 (by simp [h1, h1_, h2, h2_, h3, h3_, h5, h5_, h6, h6_, h7, h8, h9, h9_, h8_, h10, h10_, h11, h11_, h12, h12_]) (by simp [h1, h1_, h2, h2_, h3, h3_, h5, h5_, h6, h6_, h7, h8, h9, h9_, h8_, h10, h10_, h11, h11_, h12, h12_]) (by simp) ?_
                  refine AW.condT (by decide) (by simp [h1, h1_, h2, h2_, h3, h3_, h5, h5_, h6, h6_, h7, h8, h9, h9_, h8_, h10, h10_, h11, h11_, h12, h12_]) ?_
                  refine AW.seqR mixed [] [none] (by kernel_rfl) fun G779 R779 hG779 hR779 => ?_
                  try simp [h1, h1_, h2, h2_, h3, h3_, h5, h5_, h6, h6_, h7, h8, h9, h9_, h8_, h10, h10_, h11, h11_, h12, h12_]
                  repeat' apply And.intro
                  any_goals (first | exact hG779 _ (by kernel_rfl) | refine hR779 _ _ _ ?_ | omega | (unfold maxLen; omega) | (simp [h1, h1_, h2, h2_, h3, h3_, h5, h5_, h6, h6_, h7, h8, h9, h9_, h8_, h10, h10_, h11, h11_, h12, h12_]; done) | (simp [h1, h1_, h2, h2_, h3, h3_, h5, h5_, h6, h6_, h7, h8, h9, h9_, h8_, h10, h10_, h11, h11_, h12, h12_]; omega))
                  refine AW.wk [(2, AV.int .i64 14)] [] 2 (by simp [h1, h1_, h2, h2_, h3, h3_, h5, h5_, h6, h6_, h7, h8, h9, h9_, h8_, h10, h10_, h11, h11_, h12, h12_]) (by simp [h1, h1_, h2, h2_, h3, h3_, h5, h5_, h6, h6_, h7, h8, h9, h9_, h8_, h10, h10_, h11, h11_, h12, h12_]) (by simp) ?_
                  simp only [Option.some.injEq] at hF
                  subst hF
                  refine AW.ret (hQ _ _ _ ?_ (matchO_0 ?_)).1
                  · simp [Try.f173, h1, h1_, h2, h2_, h3, h3_, h5, h5_, h6, h6_, h7, h8, h9, h9_, h8_, h10, h10_, h11, h11_, h12, h12_]
                  · simp [h1, h1_, h2, h2_, h3, h3_, h5, h5_, h6, h6_, h7, h8, h9, h9_, h8_, h10, h10_, h11, h11_, h12, h12_]
                · replace hF := ite_f h12 hF
                  have h12_ := h12
                  try simp at h12_
                  by_cases h13 : v0 ≤ v6.To
                  · replace hF := ite_t h13 hF
                    have h13_ := h13
                    try simp at h13_
                    try simp [h1, h1_, h2, h2_, h3, h3_, h5, h5_, h6, h6_, h7, h8, h9, h9_, h8_, h10, h10_, h11, h11_, h12, h12_, h13, h13_]
                    repeat' apply And.intro
                    any_goals (first | exact hG776 _ (by kernel_rfl) | refine hR776 _ _ _ ?_ | omega | (unfold maxLen; omega) | (simp [h1, h1_, h2, h2_, h3, h3_, h5, h5_, h6, h6_, h7, h8, h9, h9_, h8_, h10, h10_, h11, h11_, h12, h12_, h13, h13_]; done) | (simp [h1, h1_, h2, h2_, h3, h3_, h5, h5_, h6, h6_, h7, h8, h9, h9_, h8_, h10, h10_, h11, h11_, h12, h12_, h13, h13_]; omega))
                    refine AW.wk [(1, AV.ptr 0 0), (3, AV.int .i64 v5), (4, AV.ptr 1 0), (77, AV.bool true)] [(0, .cells [AV.int .i64 v0, AV.lst false false (List.map api_Edge.av v1), AV.lst false false (List.map (AV.int .i64) v2)]), (1, .cells [AV.int .i64 v6.From, AV.int .i64 v6.To, AV.int .i64 v6.Level])] 2 (by simp [h1, h1_, h2, h2_, h3, h3_, h5, h5_, h6, h6_, h7, h8, h9, h9_, h8_, h10, h10_, h11, h11_, h12, h12_, h13, h13_]) (by simp [h1, h1_, h2, h2_, h3, h3_, h5, h5_, h6, h6_, h7, h8, h9, h9_, h8_, h10, h10_, h11, h11_, h12, h12_, h13, h13_]) (by simp) ?_
                    refine AW.condT (by decide) (by simp [h1, h1_, h2, h2_, h3, h3_, h5, h5_, h6, h6_, h7, h8, h9, h9_, h8_, h10, h10_, h11, h11_, h12, h12_, h13, h13_]) ?_
                    refine AW.seqR mixed [] [none] (by kernel_rfl) fun G780 R780 hG780 hR780 => ?_
                    try simp [h1, h1_, h2, h2_, h3, h3_, h5, h5_, h6, h6_, h7, h8, h9, h9_, h8_, h10, h10_, h11, h11_, h12, h12_, h13, h13_]
                    repeat' apply And.intro
                    any_goals (first | exact hG780 _ (by kernel_rfl) | refine hR780 _ _ _ ?_ | omega | (unfold maxLen; omega) | (simp [h1, h1_, h2, h2_, h3, h3_, h5, h5_, h6, h6_, h7, h8, h9, h9_, h8_, h10, h10_, h11, h11_, h12, h12_, h13, h13_]; done) | (simp [h1, h1_, h2, h2_, h3, h3_, h5, h5_, h6, h6_, h7, h8, h9, h9_, h8_, h10, h10_, h11, h11_, h12, h12_, h13, h13_]; omega))
                    refine AW.wk [(2, AV.int .i64 14)] [] 2 (by simp [h1, h1_, h2, h2_, h3, h3_, h5, h5_, h6, h6_, h7, h8, h9, h9_, h8_, h10, h10_, h11, h11_, h12, h12_, h13, h13_]) (by simp [h1, h1_, h2, h2_, h3, h3_, h5, h5_, h6, h6_, h7, h8, h9, h9_, h8_, h10, h10_, h11, h11_, h12, h12_, h13, h13_]) (by simp) ?_
                    simp only [Option.some.injEq] at hF
                    subst hF
                    refine AW.ret (hQ _ _ _ ?_ (matchO_0 ?_)).1
                    · simp [Try.f173, h1, h1_, h2, h2_, h3, h3_, h5, h5_, h6, h6_, h7, h8, h9, h9_, h8_, h10, h10_, h11, h11_, h12, h12_, h13, h13_]
                    · simp [h1, h1_, h2, h2_, h3, h3_, h5, h5_, h6, h6_, h7, h8, h9, h9_, h8_, h10, h10_, h11, h11_, h12, h12_, h13, h13_]
                  · replace hF := ite_f h13 hF
                    have h13_ := h13
                    try simp at h13_
                    by_cases h14 : v6.From = v6.To
                    · replace hF := ite_t h14 hF
                      have h14q : v6.From = v6.To := h14
                      have h14_ := eqb_t h14q
                      have h14__ := neb_f h14q
                      try simp [h1, h1_, h2, h2_, h3, h3_, h5, h5_, h6, h6_, h7, h8, h9, h9_, h8_, h10, h10_, h11, h11_, h12, h12_, h13, h13_, h14_, h14__]
                      repeat' apply And.intro
                      any_goals (first | exact hG776 _ (by kernel_rfl) | refine hR776 _ _ _ ?_ | omega | (unfold maxLen; omega) | (simp [h1, h1_, h2, h2_, h3, h3_, h5, h5_, h6, h6_, h7, h8, h9, h9_, h8_, h10, h10_, h11, h11_, h12, h12_, h13, h13_, h14_, h14__]; done) | (simp [h1, h1_, h2, h2_, h3, h3_, h5, h5_, h6, h6_, h7, h8, h9, h9_, h8_, h10, h10_, h11, h11_, h12, h12_, h13, h13_, h14_, h14__]; omega))
                      refine AW.wk [(1, AV.ptr 0 0), (3, AV.int .i64 v5), (4, AV.ptr 1 0), (77, AV.bool true)] [(0, .cells [AV.int .i64 v0, AV.lst false false (List.map api_Edge.av v1), AV.lst false false (List.map (AV.int .i64) v2)]), (1, .cells [AV.int .i64 v6.From, AV.int .i64 v6.To, AV.int .i64 v6.Level])] 2 (by simp [h1, h1_, h2, h2_, h3, h3_, h5, h5_, h6, h6_, h7, h8, h9, h9_, h8_, h10, h10_, h11, h11_, h12, h12_, h13, h13_, h14_, h14__]) (by simp [h1, h1_, h2, h2_, h3, h3_, h5, h5_, h6, h6_, h7, h8, h9, h9_, h8_, h10, h10_, h11, h11_, h12, h12_, h13, h13_, h14_, h14__]) (by simp) ?_
                      refine AW.condT (by decide) (by simp [h1, h1_, h2, h2_, h3, h3_, h5, h5_, h6, h6_, h7, h8, h9, h9_, h8_, h10, h10_, h11, h11_, h12, h12_, h13, h13_, h14_, h14__]) ?_
                      refine AW.seqR mixed [] [none] (by kernel_rfl) fun G781 R781 hG781 hR781 => ?_
                      try simp [h1, h1_, h2, h2_, h3, h3_, h5, h5_, h6, h6_, h7, h8, h9, h9_, h8_, h10, h10_, h11, h11_, h12, h12_, h13, h13_, h14_, h14__]
                      repeat' apply And.intro
                      any_goals (first | exact hG781 _ (by kernel_rfl) | refine hR781 _ _ _ ?_ | omega | (unfold maxLen; omega) | (simp [h1, h1_, h2, h2_, h3, h3_, h5, h5_, h6, h6_, h7, h8, h9, h9_, h8_, h10, h10_, h11, h11_, h12, h12_, h13, h13_, h14_, h14__]; done) | (simp [h1, h1_, h2, h2_, h3, h3_, h5, h5_, h6, h6_, h7, h8, h9, h9_, h8_, h10, h10_, h11, h11_, h12, h12_, h13, h13_, h14_, h14__]; omega))
                      refine AW.wk [(2, AV.int .i64 14)] [] 2 (by simp [h1, h1_, h2, h2_, h3, h3_, h5, h5_, h6, h6_, h7, h8, h9, h9_, h8_, h10, h10_, h11, h11_, h12, h12_, h13, h13_, h14_, h14__]) (by simp [h1, h1_, h2, h2_, h3, h3_, h5, h5_, h6, h6_, h7, h8, h9, h9_, h8_, h10, h10_, h11, h11_, h12, h12_, h13, h13_, h14_, h14__]) (by simp) ?_
                      simp only [Option.some.injEq] at hF
                      subst hF
                      refine AW.ret (hQ _ _ _ ?_ (matchO_0 ?_)).1
                      · simp [Try.f173, h1, h1_, h2, h2_, h3, h3_, h5, h5_, h6, h6_, h7, h8, h9, h9_, h8_, h10, h10_, h11, h11_, h12, h12_, h13, h13_, h14_, h14__]
                      · simp [h1, h1_, h2, h2_, h3, h3_, h5, h5_, h6, h6_, h7, h8, h9, h9_, h8_, h10, h10_, h11, h11_, h12, h12_, h13, h13_, h14_, h14__]
                    · replace hF := ite_f h14 hF
                      have h14_ := eqb_f h14
                      have h14__ := neb_t h14
                      by_cases h15 : v6.Level < 1
                      · replace hF := ite_t h15 hF
                        have h15_ := h15
                        try simp at h15_
                        try simp [h1, h1_, h2, h2_, h3, h3_, h5, h5_, h6, h6_, h7, h8, h9, h9_, h8_, h10, h10_, h11, h11_, h12, h12_, h13, h13_, h14, h14_, h14__, h15, h15_]
                        repeat' apply And.intro
                        any_goals (first | exact hG776 _ (by kernel_rfl) | refine hR776 _ _ _ ?_ | omega | (unfold maxLen; omega) | (simp [h1, h1_, h2, h2_, h3, h3_, h5, h5_, h6, h6_, h7, h8, h9, h9_, h8_, h10, h10_, h11, h11_, h12, h12_, h13, h13_, h14, h14_, h14__, h15, h15_]; done) | (simp [h1, h1_, h2, h2_, h3, h3_, h5, h5_, h6, h6_, h7, h8, h9, h9_, h8_, h10, h10_, h11, h11_, h12, h12_, h13, h13_, h14, h14_, h14__, h15, h15_]; omega))
                        refine AW.wk [(1, AV.ptr 0 0), (3, AV.int .i64 v5), (4, AV.ptr 1 0), (77, AV.bool true)] [(0, .cells [AV.int .i64 v0, AV.lst false false (List.map api_Edge.av v1), AV.lst false false (List.map (AV.int .i64) v2)]), (1, .cells [AV.int .i64 v6.From, AV.int .i64 v6.To, AV.int .i64 v6.Level])] 2 (by simp [h1, h1_, h2, h2_, h3, h3_, h5, h5_, h6, h6_, h7, h8, h9, h9_, h8_, h10, h10_, h11, h11_, h12, h12_, h13, h13_, h14, h14_, h14__, h15, h15_]) (by simp [h1, h1_, h2, h2_, h3, h3_, h5, h5_, h6, h6_, h7, h8, h9, h9_, h8_, h10, h10_, h11, h11_, h12, h12_, h13, h13_, h14, h14_, h14__, h15, h15_]) (by simp) ?_
                        refine AW.condT (by decide) (by simp [h1, h1_, h2, h2_, h3, h3_, h5, h5_, h6, h6_, h7, h8, h9, h9_, h8_, h10, h10_, h11, h11_, h12, h12_, h13, h13_, h14, h14_, h14__, h15, h15_]) ?_
                        refine AW.seqR mixed [] [none] (by kernel_rfl) fun G782 R782 hG782 hR782 => ?_
                        try simp [h1, h1_, h2, h2_, h3, h3_, h5, h5_, h6, h6_, h7, h8, h9, h9_, h8_, h10, h10_, h11, h11_, h12, h12_, h13, h13_, h14, h14_, h14__, h15, h15_]
                        repeat' apply And.intro
                        any_goals (first | exact hG782 _ (by kernel_rfl) | refine hR782 _ _ _ ?_ | omega | (unfold maxLen; omega) | (simp [h1, h1_, h2, h2_, h3, h3_, h5, h5_, h6, h6_, h7, h8, h9, h9_, h8_, h10, h10_, h11, h11_, h12, h12_, h13, h13_, h14, h14_, h14__, h15, h15_]; done) | (simp [h1, h1_, h2, h2_, h3, h3_, h5, h5_, h6, h6_, h7, h8, h9, h9_, h8_, h10, h10_, h11, h11_, h12, h12_, h13, h13_, h14, h14_, h14__, h15, h15_]; omega))
                        refine AW.wk [(2, AV.int .i64 14)] [] 2 (by simp [h1, h1_, h2, h2_, h3, h3_, h5, h5_, h6, h6_, h7, h8, h9, h9_, h8_, h10, h10_, h11, h11_, h12, h12_, h13, h13_, h14, h14_, h14__, h15, h15_]) (by simp [h1, h1_, h2, h2_, h3, h3_, h5, h5_, h6, h6_, h7, h8, h9, h9_, h8_, h10, h10_, h11, h11_, h12, h12_, h13, h13_, h14, h14_, h14__, h15, h15_]) (by simp) ?_
                        simp only [Option.some.injEq] at hF
                        subst hF
                        refine AW.ret (hQ _ _ _ ?_ (matchO_0 ?_)).1
                        · simp [Try.f173, h1, h1_, h2, h2_, h3, h3_, h5, h5_, h6, h6_, h7, h8, h9, h9_, h8_, h10, h10_, h11, h11_, h12, h12_, h13, h13_, h14, h14_, h14__, h15, h15_]
                        · simp [h1, h1_, h2, h2_, h3, h3_, h5, h5_, h6, h6_, h7, h8, h9, h9_, h8_, h10, h10_, h11, h11_, h12, h12_, h13, h13_, h14, h14_, h14__, h15, h15_]
                      · replace hF := ite_f h15 hF
                        have h15_ := h15
                        try simp at h15_
                        try simp [h1, h1_, h2, h2_, h3, h3_, h5, h5_, h6, h6_, h7, h8, h9, h9_, h8_, h10, h10_, h11, h11_, h12, h12_, h13, h13_, h14, h14_, h14__, h15, h15_]
                        repeat' apply And.intro
                        any_goals (first | exact hG776 _ (by kernel_rfl) | refine hR776 _ _ _ ?_ | omega | (unfold maxLen; omega) | (simp [h1, h1_, h2, h2_, h3, h3_, h5, h5_, h6, h6_, h7, h8, h9, h9_, h8_, h10, h10_, h11, h11_, h12, h12_, h13, h13_, h14, h14_, h14__, h15, h15_]; done) | (simp [h1, h1_, h2, h2_, h3, h3_, h5, h5_, h6, h6_, h7, h8, h9, h9_, h8_, h10, h10_, h11, h11_, h12, h12_, h13, h13_, h14, h14_, h14__, h15, h15_]; omega))
                        refine AW.wk [(1, AV.ptr 0 0), (3, AV.int .i64 v5), (4, AV.ptr 1 0), (77, AV.bool (decide (3 < v6.Level)))] [(0, .cells [AV.int .i64 v0, AV.lst false false (List.map api_Edge.av v1), AV.lst false false (List.map (AV.int .i64) v2)]), (1, .cells [AV.int .i64 v6.From, AV.int .i64 v6.To, AV.int .i64 v6.Level])] 2 (by simp [h1, h1_, h2, h2_, h3, h3_, h5, h5_, h6, h6_, h7, h8, h9, h9_, h8_, h10, h10_, h11, h11_, h12, h12_, h13, h13_, h14, h14_, h14__, h15, h15_]) (by simp [h1, h1_, h2, h2_, h3, h3_, h5, h5_, h6, h6_, h7, h8, h9, h9_, h8_, h10, h10_, h11, h11_, h12, h12_, h13, h13_, h14, h14_, h14__, h15, h15_]) (by simp) ?_
                        by_cases h16 : 3 < v6.Level
                        · replace hF := ite_t h16 hF
                          have h16_ := h16
                          try simp at h16_
                          refine AW.condT (by decide) (by first | (simp [h1, h1_, h2, h2_, h3, h3_, h5, h5_, h6, h6_, h7, h8, h9, h9_, h8_, h10, h10_, h11, h11_, h12, h12_, h13, h13_, h14, h14_, h14__, h15, h15_, h16, h16_]; done) | (simp [h1, h1_, h2, h2_, h3, h3_, h5, h5_, h6, h6_, h7, h8, h9, h9_, h8_, h10, h10_, h11, h11_, h12, h12_, h13, h13_, h14, h14_, h14__, h15, h15_, h16, h16_]; omega)) ?_
                          refine AW.seqR mixed [] [none] (by kernel_rfl) fun G783 R783 hG783 hR783 => ?_
                          try simp [h1, h1_, h2, h2_, h3, h3_, h5, h5_, h6, h6_, h7, h8, h9, h9_, h8_, h10, h10_, h11, h11_, h12, h12_, h13, h13_, h14, h14_, h14__, h15, h15_, h16, h16_]
                          repeat' apply And.intro
                          any_goals (first | exact hG783 _ (by kernel_rfl) | refine hR783 _ _ _ ?_ | omega | (unfold maxLen; omega) | (simp [h1, h1_, h2, h2_, h3, h3_, h5, h5_, h6, h6_, h7, h8, h9, h9_, h8_, h10, h10_, h11, h11_, h12, h12_, h13, h13_, h14, h14_, h14__, h15, h15_, h16, h16_]; done) | (simp [h1, h1_, h2, h2_, h3, h3_, h5, h5_, h6, h6_, h7, h8, h9, h9_, h8_, h10, h10_, h11, h11_, h12, h12_, h13, h13_, h14, h14_, h14__, h15, h15_, h16, h16_]; omega))
                          refine AW.wk [(2, AV.int .i64 14)] [] 2 (by simp [h1, h1_, h2, h2_, h3, h3_, h5, h5_, h6, h6_, h7, h8, h9, h9_, h8_, h10, h10_, h11, h11_, h12, h12_, h13, h13_, h14, h14_, h14__, h15, h15_, h16, h16_]) (by simp [h1, h1_, h2, h2_, h3, h3_, h5, h5_, h6, h6_, h7, h8, h9, h9_, h8_, h10, h10_, h11, h11_, h12, h12_, h13, h13_, h14, h14_, h14__, h15, h15_, h16, h16_]) (by simp) ?_
                          simp only [Option.some.injEq] at hF
                          subst hF
                          refine AW.ret (hQ _ _ _ ?_ (matchO_0 ?_)).1
                          · simp [Try.f173, h1, h1_, h2, h2_, h3, h3_, h5, h5_, h6, h6_, h7, h8, h9, h9_, h8_, h10, h10_, h11, h11_, h12, h12_, h13, h13_, h14, h14_, h14__, h15, h15_, h16, h16_]
                          · simp [h1, h1_, h2, h2_, h3, h3_, h5, h5_, h6, h6_, h7, h8, h9, h9_, h8_, h10, h10_, h11, h11_, h12, h12_, h13, h13_, h14, h14_, h14__, h15, h15_, h16, h16_]
                        · replace hF := ite_f h16 hF
                          have h16_ := h16
                          try simp at h16_
                          refine AW.condF (by decide) (by first | (simp [h1, h1_, h2, h2_, h3, h3_, h5, h5_, h6, h6_, h7, h8, h9, h9_, h8_, h10, h10_, h11, h11_, h12, h12_, h13, h13_, h14, h14_, h14__, h15, h15_, h16, h16_]; done) | (simp [h1, h1_, h2, h2_, h3, h3_, h5, h5_, h6, h6_, h7, h8, h9, h9_, h8_, h10, h10_, h11, h11_, h12, h12_, h13, h13_, h14, h14_, h14__, h15, h15_, h16, h16_]; omega)) ?_
                          refine AW.skip ?_
                          refine hK775 _ _ _ ?_
                          refine AW.midF (α := Bool) (fun v7 => ref11_Check.J2 k v5 (fun v5_ => ref11_Check.L1 k v0 v1 v2 n1 v5_) v7 = some v3) (fun v7 => [(1, AV.ptr 0 0), (3, AV.int .i64 v5), (104, AV.bool v7)]) (fun v7 => [(0, .cells [AV.int .i64 v0, AV.lst false false (List.map api_Edge.av v1), AV.lst false false (List.map (AV.int .i64) v2)])]) 1 (fun K787 hK787 => ?_) ?_
                          · refine AW.region mixed [] [none, none, none, some (80, true), some (80, true), some (80, true), some (80, true), some (80, true), some (80, true), some (80, true), some (80, true), some (80, true), none, none, some (91, false), some (91, false), some (91, false), some (91, false), some (91, false), none, none, some (98, false), some (98, false), some (98, false), some (98, false), some (98, false), none] (by kernel_rfl) fun G784 R784 hG784 hR784 => ?_
                            by_cases h18 : 0 < v5
                            · replace hF := ite_t h18 hF
                              have h18_ := h18
                              try simp at h18_
                              obtain ⟨v8, h19, h20, h21, hF⟩ := idx_elim hF
                              have h21_ := get_of h21
                              try simp at h21_
                              have h20_ := h20
                              try simp at h20_
                              try simp [h1, h1_, h2, h2_, h3, h3_, h5, h5_, h6, h6_, h7, h8, h9, h9_, h8_, h10, h10_, h11, h11_, h12, h12_, h13, h13_, h14, h14_, h14__, h15, h15_, h16, h16_, h18, h18_, h19, h20, h21, h21_, h20_]
                              repeat' apply And.intro
                              try any_goals (first | omega | (unfold maxLen; omega) | (simp [h1, h1_, h2, h2_, h3, h3_, h5, h5_, h6, h6_, h7, h8, h9, h9_, h8_, h10, h10_, h11, h11_, h12, h12_, h13, h13_, h14, h14_, h14__, h15, h15_, h16, h16_, h18, h18_, h19, h20, h21, h21_, h20_]; done))
                              obtain ⟨v9, h22, hF⟩ := bnd1_elim hF
                              refine aCall_l (w_ref11_before k _ _ _ _ _ _ _ h22) (by simp) [] [] [] rfl (.cons (.same (by simp [h1, h1_, h2, h2_, h3, h3_, h5, h5_, h6, h6_, h7, h8, h9, h9_, h8_, h10, h10_, h11, h11_, h12, h12_, h13, h13_, h14, h14_, h14__, h15, h15_, h16, h16_, h18, h18_, h19, h20, h21, h21_, h20_])) (.cons (.same (by simp [h1, h1_, h2, h2_, h3, h3_, h5, h5_, h6, h6_, h7, h8, h9, h9_, h8_, h10, h10_, h11, h11_, h12, h12_, h13, h13_, h14, h14_, h14__, h15, h15_, h16, h16_, h18, h18_, h19, h20, h21, h21_, h20_])) .nil)) (by simp [h1, h1_, h2, h2_, h3, h3_, h5, h5_, h6, h6_, h7, h8, h9, h9_, h8_, h10, h10_, h11, h11_, h12, h12_, h13, h13_, h14, h14_, h14__, h15, h15_, h16, h16_, h18, h18_, h19, h20, h21, h21_, h20_]) (by decide) (by simp) (by simp) (.inl rfl) (by simp) (by simp) ?_
                              by_cases h23 : (!v9) = true
                              · replace hF := ite_t h23 hF
                                have h23_ := h23
                                try simp at h23_
                                try simp [h1, h1_, h2, h2_, h3, h3_, h5, h5_, h6, h6_, h7, h8, h9, h9_, h8_, h10, h10_, h11, h11_, h12, h12_, h13, h13_, h14, h14_, h14__, h15, h15_, h16, h16_, h18, h18_, h19, h20, h21, h21_, h20_, h23, h23_]
                                repeat' apply And.intro
                                any_goals (first | exact hG784 _ (by kernel_rfl) | refine hR784 _ _ _ ?_ | omega | (unfold maxLen; omega) | (simp [h1, h1_, h2, h2_, h3, h3_, h5, h5_, h6, h6_, h7, h8, h9, h9_, h8_, h10, h10_, h11, h11_, h12, h12_, h13, h13_, h14, h14_, h14__, h15, h15_, h16, h16_, h18, h18_, h19, h20, h21, h21_, h20_, h23, h23_]; done) | (simp [h1, h1_, h2, h2_, h3, h3_, h5, h5_, h6, h6_, h7, h8, h9, h9_, h8_, h10, h10_, h11, h11_, h12, h12_, h13, h13_, h14, h14_, h14__, h15, h15_, h16, h16_, h18, h18_, h19, h20, h21, h21_, h20_, h23, h23_]; omega))
                                refine hK787 _ _ _ ?_
                                refine Can.weak [(1, AV.ptr 0 0), (3, AV.int .i64 v5), (104, AV.bool true)] [(0, .cells [AV.int .i64 v0, AV.lst false false (List.map api_Edge.av v1), AV.lst false false (List.map (AV.int .i64) v2)])] 2 (by simp [h1, h1_, h2, h2_, h3, h3_, h5, h5_, h6, h6_, h7, h8, h9, h9_, h8_, h10, h10_, h11, h11_, h12, h12_, h13, h13_, h14, h14_, h14__, h15, h15_, h16, h16_, h18, h18_, h19, h20, h21, h21_, h20_, h23, h23_]) (by simp [h1, h1_, h2, h2_, h3, h3_, h5, h5_, h6, h6_, h7, h8, h9, h9_, h8_, h10, h10_, h11, h11_, h12, h12_, h13, h13_, h14, h14_, h14__, h15, h15_, h16, h16_, h18, h18_, h19, h20, h21, h21_, h20_, h23, h23_]) (by simp) ?_
                                refine Can.ren (m := 0) h0 [(0, 0)] [(1, AV.ptr 0 0), (3, AV.int .i64 v5), (104, AV.bool true)] [(0, .cells [AV.int .i64 v0, AV.lst false false (List.map api_Edge.av v1), AV.lst false false (List.map (AV.int .i64) v2)])] 1 (by decide) (by decide) (by decide) rfl (by simp [h1, h1_, h2, h2_, h3, h3_, h5, h5_, h6, h6_, h7, h8, h9, h9_, h8_, h10, h10_, h11, h11_, h12, h12_, h13, h13_, h14, h14_, h14__, h15, h15_, h16, h16_, h18, h18_, h19, h20, h21, h21_, h20_, h23, h23_]) (by simp [h1, h1_, h2, h2_, h3, h3_, h5, h5_, h6, h6_, h7, h8, h9, h9_, h8_, h10, h10_, h11, h11_, h12, h12_, h13, h13_, h14, h14_, h14__, h15, h15_, h16, h16_, h18, h18_, h19, h20, h21, h21_, h20_, h23, h23_]) ?_
                                exact Can.join (true) hF (by simp [h1, h1_, h2, h2_, h3, h3_, h5, h5_, h6, h6_, h7, h8, h9, h9_, h8_, h10, h10_, h11, h11_, h12, h12_, h13, h13_, h14, h14_, h14__, h15, h15_, h16, h16_, h18, h18_, h19, h20, h21, h21_, h20_, h23, h23_]) (by simp [h1, h1_, h2, h2_, h3, h3_, h5, h5_, h6, h6_, h7, h8, h9, h9_, h8_, h10, h10_, h11, h11_, h12, h12_, h13, h13_, h14, h14_, h14__, h15, h15_, h16, h16_, h18, h18_, h19, h20, h21, h21_, h20_, h23, h23_]) (by simp)
                              · replace hF := ite_f h23 hF
                                have h23_ := h23
                                try simp at h23_
                                try simp [h1, h1_, h2, h2_, h3, h3_, h5, h5_, h6, h6_, h7, h8, h9, h9_, h8_, h10, h10_, h11, h11_, h12, h12_, h13, h13_, h14, h14_, h14__, h15, h15_, h16, h16_, h18, h18_, h19, h20, h21, h21_, h20_, h23, h23_]
                                repeat' apply And.intro
                                try any_goals (first | omega | (unfold maxLen; omega) | (simp [h1, h1_, h2, h2_, h3, h3_, h5, h5_, h6, h6_, h7, h8, h9, h9_, h8_, h10, h10_, h11, h11_, h12, h12_, h13, h13_, h14, h14_, h14__, h15, h15_, h16, h16_, h18, h18_, h19, h20, h21, h21_, h20_, h23, h23_]; done))
                                obtain ⟨v10, h24, hF⟩ := bnd1_elim hF
                                refine aCall_l (w_ref11_Has k _ _ _ h24) (by simp) [] [] [] rfl (.cons (.same (by simp [h1, h1_, h2, h2_, h3, h3_, h5, h5_, h6, h6_, h7, h8, h9, h9_, h8_, h10, h10_, h11, h11_, h12, h12_, h13, h13_, h14, h14_, h14__, h15, h15_, h16, h16_, h18, h18_, h19, h20, h21, h21_, h20_, h23, h23_])) (.cons (.same (by simp [h1, h1_, h2, h2_, h3, h3_, h5, h5_, h6, h6_, h7, h8, h9, h9_, h8_, h10, h10_, h11, h11_, h12, h12_, h13, h13_, h14, h14_, h14__, h15, h15_, h16, h16_, h18, h18_, h19, h20, h21, h21_, h20_, h23, h23_])) .nil)) (by simp [h1, h1_, h2, h2_, h3, h3_, h5, h5_, h6, h6_, h7, h8, h9, h9_, h8_, h10, h10_, h11, h11_, h12, h12_, h13, h13_, h14, h14_, h14__, h15, h15_, h16, h16_, h18, h18_, h19, h20, h21, h21_, h20_, h23, h23_]) (by decide) (by simp) (by simp) (.inl rfl) (by simp) (by simp) ?_
                                by_cases h25 : v10 = true
                                · replace hF := ite_t h25 hF
                                  have h25_ := h25
                                  try simp at h25_
                                  try simp [h1, h1_, h2, h2_, h3, h3_, h5, h5_, h6, h6_, h7, h8, h9, h9_, h8_, h10, h10_, h11, h11_, h12, h12_, h13, h13_, h14, h14_, h14__, h15, h15_, h16, h16_, h18, h18_, h19, h20, h21, h21_, h20_, h23, h23_, h25, h25_]
                                  repeat' apply And.intro
                                  any_goals (first | exact hG784 _ (by kernel_rfl) | refine hR784 _ _ _ ?_ | omega | (unfold maxLen; omega) | (simp [h1, h1_, h2, h2_, h3, h3_, h5, h5_, h6, h6_, h7, h8, h9, h9_, h8_, h10, h10_, h11, h11_, h12, h12_, h13, h13_, h14, h14_, h14__, h15, h15_, h16, h16_, h18, h18_, h19, h20, h21, h21_, h20_, h23, h23_, h25, h25_]; done) | (simp [h1, h1_, h2, h2_, h3, h3_, h5, h5_, h6, h6_, h7, h8, h9, h9_, h8_, h10, h10_, h11, h11_, h12, h12_, h13, h13_, h14, h14_, h14__, h15, h15_, h16, h16_, h18, h18_, h19, h20, h21, h21_, h20_, h23, h23_, h25, h25_]; omega))
                                  refine hK787 _ _ _ ?_
                                  refine Can.weak [(1, AV.ptr 0 0), (3, AV.int .i64 v5), (104, AV.bool true)] [(0, .cells [AV.int .i64 v0, AV.lst false false (List.map api_Edge.av v1), AV.lst false false (List.map (AV.int .i64) v2)])] 2 (by simp [h1, h1_, h2, h2_, h3, h3_, h5, h5_, h6, h6_, h7, h8, h9, h9_, h8_, h10, h10_, h11, h11_, h12, h12_, h13, h13_, h14, h14_, h14__, h15, h15_, h16, h16_, h18, h18_, h19, h20, h21, h21_, h20_, h23, h23_, h25, h25_]) (by simp [h1, h1_, h2, h2_, h3, h3_, h5, h5_, h6, h6_, h7, h8, h9, h9_, h8_, h10, h10_, h11, h11_, h12, h12_, h13, h13_, h14, h14_, h14__, h15, h15_, h16, h16_, h18, h18_, h19, h20, h21, h21_, h20_, h23, h23_, h25, h25_]) (by simp) ?_
                                  refine Can.ren (m := 0) h0 [(0, 0)] [(1, AV.ptr 0 0), (3, AV.int .i64 v5), (104, AV.bool true)] [(0, .cells [AV.int .i64 v0, AV.lst false false (List.map api_Edge.av v1), AV.lst false false (List.map (AV.int .i64) v2)])] 1 (by decide) (by decide) (by decide) rfl (by simp [h1, h1_, h2, h2_, h3, h3_, h5, h5_, h6, h6_, h7, h8, h9, h9_, h8_, h10, h10_, h11, h11_, h12, h12_, h13, h13_, h14, h14_, h14__, h15, h15_, h16, h16_, h18, h18_, h19, h20, h21, h21_, h20_, h23, h23_, h25, h25_]) (by simp [h1, h1_, h2, h2_, h3, h3_, h5, h5_, h6, h6_, h7, h8, h9, h9_, h8_, h10, h10_, h11, h11_, h12, h12_, h13, h13_, h14, h14_, h14__, h15, h15_, h16, h16_, h18, h18_, h19, h20, h21, h21_, h20_, h23, h23_, h25, h25_]) ?_
                                  exact Can.join (true) hF (by simp [h1, h1_, h2, h2_, h3, h3_, h5, h5_, h6, h6_, h7, h8, h9, h9_, h8_, h10, h10_, h11, h11_, h12, h12_, h13, h13_, h14, h14_, h14__, h15, h15_, h16, h16_, h18, h18_, h19, h20, h21, h21_, h20_, h23, h23_, h25, h25_]) (by simp [h1, h1_, h2, h2_, h3, h3_, h5, h5_, h6, h6_, h7, h8, h9, h9_, h8_, h10, h10_, h11, h11_, h12, h12_, h13, h13_, h14, h14_, h14__, h15, h15_, h16, h16_, h18, h18_, h19, h20, h21, h21_, h20_, h23, h23_, h25, h25_]) (by simp)
                                · replace hF := ite_f h25 hF
                                  have h25_ := h25
                                  try simp at h25_
                                  try simp [h1, h1_, h2, h2_, h3, h3_, h5, h5_, h6, h6_, h7, h8, h9, h9_, h8_, h10, h10_, h11, h11_, h12, h12_, h13, h13_, h14, h14_, h14__, h15, h15_, h16, h16_, h18, h18_, h19, h20, h21, h21_, h20_, h23, h23_, h25, h25_]
                                  repeat' apply And.intro
                                  try any_goals (first | omega | (unfold maxLen; omega) | (simp [h1, h1_, h2, h2_, h3, h3_, h5, h5_, h6, h6_, h7, h8, h9, h9_, h8_, h10, h10_, h11, h11_, h12, h12_, h13, h13_, h14, h14_, h14__, h15, h15_, h16, h16_, h18, h18_, h19, h20, h21, h21_, h20_, h23, h23_, h25, h25_]; done))
                                  obtain ⟨v11, h26, hF⟩ := bnd1_elim hF
                                  refine aCall_l (w_ref11_Has k _ _ _ h26) (by simp) [] [] [] rfl (.cons (.same (by simp [h1, h1_, h2, h2_, h3, h3_, h5, h5_, h6, h6_, h7, h8, h9, h9_, h8_, h10, h10_, h11, h11_, h12, h12_, h13, h13_, h14, h14_, h14__, h15, h15_, h16, h16_, h18, h18_, h19, h20, h21, h21_, h20_, h23, h23_, h25, h25_])) (.cons (.same (by simp [h1, h1_, h2, h2_, h3, h3_, h5, h5_, h6, h6_, h7, h8, h9, h9_, h8_, h10, h10_, h11, h11_, h12, h12_, h13, h13_, h14, h14_, h14__, h15, h15_, h16, h16_, h18, h18_, h19, h20, h21, h21_, h20_, h23, h23_, h25, h25_])) .nil)) (by simp [h1, h1_, h2, h2_, h3, h3_, h5, h5_, h6, h6_, h7, h8, h9, h9_, h8_, h10, h10_, h11, h11_, h12, h12_, h13, h13_, h14, h14_, h14__, h15, h15_, h16, h16_, h18, h18_, h19, h20, h21, h21_, h20_, h23, h23_, h25, h25_]) (by decide) (by simp) (by simp) (.inl rfl) (by simp) (by simp) ?_
                                  try simp [h1, h1_, h2, h2_, h3, h3_, h5, h5_, h6, h6_, h7, h8, h9, h9_, h8_, h10, h10_, h11, h11_, h12, h12_, h13, h13_, h14, h14_, h14__, h15, h15_, h16, h16_, h18, h18_, h19, h20, h21, h21_, h20_, h23, h23_, h25, h25_]
                                  repeat' apply And.intro
                                  any_goals (first | exact hG784 _ (by kernel_rfl) | refine hR784 _ _ _ ?_ | omega | (unfold maxLen; omega) | (simp [h1, h1_, h2, h2_, h3, h3_, h5, h5_, h6, h6_, h7, h8, h9, h9_, h8_, h10, h10_, h11, h11_, h12, h12_, h13, h13_, h14, h14_, h14__, h15, h15_, h16, h16_, h18, h18_, h19, h20, h21, h21_, h20_, h23, h23_, h25, h25_]; done) | (simp [h1, h1_, h2, h2_, h3, h3_, h5, h5_, h6, h6_, h7, h8, h9, h9_, h8_, h10, h10_, h11, h11_, h12, h12_, h13, h13_, h14, h14_, h14__, h15, h15_, h16, h16_, h18, h18_, h19, h20, h21, h21_, h20_, h23, h23_, h25, h25_]; omega))
                                  refine hK787 _ _ _ ?_
                                  refine Can.weak [(1, AV.ptr 0 0), (3, AV.int .i64 v5), (104, AV.bool v11)] [(0, .cells [AV.int .i64 v0, AV.lst false false (List.map api_Edge.av v1), AV.lst false false (List.map (AV.int .i64) v2)])] 2 (by simp [h1, h1_, h2, h2_, h3, h3_, h5, h5_, h6, h6_, h7, h8, h9, h9_, h8_, h10, h10_, h11, h11_, h12, h12_, h13, h13_, h14, h14_, h14__, h15, h15_, h16, h16_, h18, h18_, h19, h20, h21, h21_, h20_, h23, h23_, h25, h25_]) (by simp [h1, h1_, h2, h2_, h3, h3_, h5, h5_, h6, h6_, h7, h8, h9, h9_, h8_, h10, h10_, h11, h11_, h12, h12_, h13, h13_, h14, h14_, h14__, h15, h15_, h16, h16_, h18, h18_, h19, h20, h21, h21_, h20_, h23, h23_, h25, h25_]) (by simp) ?_
                                  refine Can.ren (m := 0) h0 [(0, 0)] [(1, AV.ptr 0 0), (3, AV.int .i64 v5), (104, AV.bool v11)] [(0, .cells [AV.int .i64 v0, AV.lst false false (List.map api_Edge.av v1), AV.lst false false (List.map (AV.int .i64) v2)])] 1 (by decide) (by decide) (by decide) rfl (by simp [h1, h1_, h2, h2_, h3, h3_, h5, h5_, h6, h6_, h7, h8, h9, h9_, h8_, h10, h10_, h11, h11_, h12, h12_, h13, h13_, h14, h14_, h14__, h15, h15_, h16, h16_, h18, h18_, h19, h20, h21, h21_, h20_, h23, h23_, h25, h25_]) (by simp [h1, h1_, h2, h2_, h3, h3_, h5, h5_, h6, h6_, h7, h8, h9, h9_, h8_, h10, h10_, h11, h11_, h12, h12_, h13, h13_, h14, h14_, h14__, h15, h15_, h16, h16_, h18, h18_, h19, h20, h21, h21_, h20_, h23, h23_, h25, h25_]) ?_
                                  exact Can.join (v11) hF (by simp [h1, h1_, h2, h2_, h3, h3_, h5, h5_, h6, h6_, h7, h8, h9, h9_, h8_, h10, h10_, h11, h11_, h12, h12_, h13, h13_, h14, h14_, h14__, h15, h15_, h16, h16_, h18, h18_, h19, h20, h21, h21_, h20_, h23, h23_, h25, h25_]) (by simp [h1, h1_, h2, h2_, h3, h3_, h5, h5_, h6, h6_, h7, h8, h9, h9_, h8_, h10, h10_, h11, h11_, h12, h12_, h13, h13_, h14, h14_, h14__, h15, h15_, h16, h16_, h18, h18_, h19, h20, h21, h21_, h20_, h23, h23_, h25, h25_]) (by simp)
                            · replace hF := ite_f h18 hF
                              have h18_ := h18
                              try simp at h18_
                              try simp [h1, h1_, h2, h2_, h3, h3_, h5, h5_, h6, h6_, h7, h8, h9, h9_, h8_, h10, h10_, h11, h11_, h12, h12_, h13, h13_, h14, h14_, h14__, h15, h15_, h16, h16_, h18, h18_]
                              repeat' apply And.intro
                              try any_goals (first | omega | (unfold maxLen; omega) | (simp [h1, h1_, h2, h2_, h3, h3_, h5, h5_, h6, h6_, h7, h8, h9, h9_, h8_, h10, h10_, h11, h11_, h12, h12_, h13, h13_, h14, h14_, h14__, h15, h15_, h16, h16_, h18, h18_]; done))
                              obtain ⟨v12, h27, hF⟩ := bnd1_elim hF
                              refine aCall_l (w_ref11_Has k _ _ _ h27) (by simp) [] [] [] rfl (.cons (.same (by simp [h1, h1_, h2, h2_, h3, h3_, h5, h5_, h6, h6_, h7, h8, h9, h9_, h8_, h10, h10_, h11, h11_, h12, h12_, h13, h13_, h14, h14_, h14__, h15, h15_, h16, h16_, h18, h18_])) (.cons (.same (by simp [h1, h1_, h2, h2_, h3, h3_, h5, h5_, h6, h6_, h7, h8, h9, h9_, h8_, h10, h10_, h11, h11_, h12, h12_, h13, h13_, h14, h14_, h14__, h15, h15_, h16, h16_, h18, h18_])) .nil)) (by simp [h1, h1_, h2, h2_, h3, h3_, h5, h5_, h6, h6_, h7, h8, h9, h9_, h8_, h10, h10_, h11, h11_, h12, h12_, h13, h13_, h14, h14_, h14__, h15, h15_, h16, h16_, h18, h18_]) (by decide) (by simp) (by simp) (.inl rfl) (by simp) (by simp) ?_
                              by_cases h28 : v12 = true
                              · replace hF := ite_t h28 hF
                                have h28_ := h28
                                try simp at h28_
                                try simp [h1, h1_, h2, h2_, h3, h3_, h5, h5_, h6, h6_, h7, h8, h9, h9_, h8_, h10, h10_, h11, h11_, h12, h12_, h13, h13_, h14, h14_, h14__, h15, h15_, h16, h16_, h18, h18_, h28, h28_]
                                repeat' apply And.intro
                                any_goals (first | exact hG784 _ (by kernel_rfl) | refine hR784 _ _ _ ?_ | omega | (unfold maxLen; omega) | (simp [h1, h1_, h2, h2_, h3, h3_, h5, h5_, h6, h6_, h7, h8, h9, h9_, h8_, h10, h10_, h11, h11_, h12, h12_, h13, h13_, h14, h14_, h14__, h15, h15_, h16, h16_, h18, h18_, h28, h28_]; done) | (simp [h1, h1_, h2, h2_, h3, h3_, h5, h5_, h6, h6_, h7, h8, h9, h9_, h8_, h10, h10_, h11, h11_, h12, h12_, h13, h13_, h14, h14_, h14__, h15, h15_, h16, h16_, h18, h18_, h28, h28_]; omega))
                                refine hK787 _ _ _ ?_
                                refine Can.weak [(1, AV.ptr 0 0), (3, AV.int .i64 v5), (104, AV.bool true)] [(0, .cells [AV.int .i64 v0, AV.lst false false (List.map api_Edge.av v1), AV.lst false false (List.map (AV.int .i64) v2)])] 2 (by simp [h1, h1_, h2, h2_, h3, h3_, h5, h5_, h6, h6_, h7, h8, h9, h9_, h8_, h10, h10_, h11, h11_, h12, h12_, h13, h13_, h14, h14_, h14__, h15, h15_, h16, h16_, h18, h18_, h28, h28_]) (by simp [h1, h1_, h2, h2_, h3, h3_, h5, h5_, h6, h6_, h7, h8, h9, h9_, h8_, h10, h10_, h11, h11_, h12, h12_, h13, h13_, h14, h14_, h14__, h15, h15_, h16, h16_, h18, h18_, h28, h28_]) (by simp) ?_
                                refine Can.ren (m := 0) h0 [(0, 0)] [(1, AV.ptr 0 0), (3, AV.int .i64 v5), (104, AV.bool true)] [(0, .cells [AV.int .i64 v0, AV.lst false false (List.map api_Edge.av v1), AV.lst false false (List.map (AV.int .i64) v2)])] 1 (by decide) (by decide) (by decide) rfl (by simp [h1, h1_, h2, h2_, h3, h3_, h5, h5_, h6, h6_, h7, h8, h9, h9_, h8_, h10, h10_, h11, h11_, h12, h12_, h13, h13_, h14, h14_, h14__, h15, h15_, h16, h16_, h18, h18_, h28, h28_]) (by simp [h1, h1_, h2, h2_, h3, h3_, h5, h5_, h6, h6_, h7, h8, h9, h9_, h8_, h10, h10_, h11, h11_, h12, h12_, h13, h13_, h14, h14_, h14__, h15, h15_, h16, h16_, h18, h18_, h28, h28_]) ?_
                                exact Can.join (true) hF (by simp [h1, h1_, h2, h2_, h3, h3_, h5, h5_, h6, h6_, h7, h8, h9, h9_, h8_, h10, h10_, h11, h11_, h12, h12_, h13, h13_, h14, h14_, h14__, h15, h15_, h16, h16_, h18, h18_, h28, h28_]) (by simp [h1, h1_, h2, h2_, h3, h3_, h5, h5_, h6, h6_, h7, h8, h9, h9_, h8_, h10, h10_, h11, h11_, h12, h12_, h13, h13_, h14, h14_, h14__, h15, h15_, h16, h16_, h18, h18_, h28, h28_]) (by simp)
                              · replace hF := ite_f h28 hF
                                have h28_ := h28
                                try simp at h28_
                                try simp [h1, h1_, h2, h2_, h3, h3_, h5, h5_, h6, h6_, h7, h8, h9, h9_, h8_, h10, h10_, h11, h11_, h12, h12_, h13, h13_, h14, h14_, h14__, h15, h15_, h16, h16_, h18, h18_, h28, h28_]
                                repeat' apply And.intro
                                try any_goals (first | omega | (unfold maxLen; omega) | (simp [h1, h1_, h2, h2_, h3, h3_, h5, h5_, h6, h6_, h7, h8, h9, h9_, h8_, h10, h10_, h11, h11_, h12, h12_, h13, h13_, h14, h14_, h14__, h15, h15_, h16, h16_, h18, h18_, h28, h28_]; done))
                                obtain ⟨v13, h29, hF⟩ := bnd1_elim hF
                                refine aCall_l (w_ref11_Has k _ _ _ h29) (by simp) [] [] [] rfl (.cons (.same (by simp [h1, h1_, h2, h2_, h3, h3_, h5, h5_, h6, h6_, h7, h8, h9, h9_, h8_, h10, h10_, h11, h11_, h12, h12_, h13, h13_, h14, h14_, h14__, h15, h15_, h16, h16_, h18, h18_, h28, h28_])) (.cons (.same (by simp [h1, h1_, h2, h2_, h3, h3_, h5, h5_, h6, h6_, h7, h8, h9, h9_, h8_, h10, h10_, h11, h11_, h12, h12_, h13, h13_, h14, h14_, h14__, h15, h15_, h16, h16_, h18, h18_, h28, h28_])) .nil)) (by simp [h1, h1_, h2, h2_, h3, h3_, h5, h5_, h6, h6_, h7, h8, h9, h9_, h8_, h10, h10_, h11, h11_, h12, h12_, h13, h13_, h14, h14_, h14__, h15, h15_, h16, h16_, h18, h18_, h28, h28_]) (by decide) (by simp) (by simp) (.inl rfl) (by simp) (by simp) ?_
                                try simp [h1, h1_, h2, h2_, h3, h3_, h5, h5_, h6, h6_, h7, h8, h9, h9_, h8_, h10, h10_, h11, h11_, h12, h12_, h13, h13_, h14, h14_, h14__, h15, h15_, h16, h16_, h18, h18_, h28, h28_]
                                repeat' apply And.intro
                                any_goals (first | exact hG784 _ (by kernel_rfl) | refine hR784 _ _ _ ?_ | omega | (unfold maxLen; omega) | (simp [h1, h1_, h2, h2_, h3, h3_, h5, h5_, h6, h6_, h7, h8, h9, h9_, h8_, h10, h10_, h11, h11_, h12, h12_, h13, h13_, h14, h14_, h14__, h15, h15_, h16, h16_, h18, h18_, h28, h28_]; done) | (simp [h1, h1_, h2, h2_, h3, h3_, h5, h5_, h6, h6_, h7, h8, h9, h9_, h8_, h10, h10_, h11, h11_, h12, h12_, h13, h13_, h14, h14_, h14__, h15, h15_, h16, h16_, h18, h18_, h28, h28_]; omega))
                                refine hK787 _ _ _ ?_
                                refine Can.weak [(1, AV.ptr 0 0), (3, AV.int .i64 v5), (104, AV.bool v13)] [(0, .cells [AV.int .i64 v0, AV.lst false false (List.map api_Edge.av v1), AV.lst false false (List.map (AV.int .i64) v2)])] 2 (by simp [h1, h1_, h2, h2_, h3, h3_, h5, h5_, h6, h6_, h7, h8, h9, h9_, h8_, h10, h10_, h11, h11_, h12, h12_, h13, h13_, h14, h14_, h14__, h15, h15_, h16, h16_, h18, h18_, h28, h28_]) (by simp [h1, h1_, h2, h2_, h3, h3_, h5, h5_, h6, h6_, h7, h8, h9, h9_, h8_, h10, h10_, h11, h11_, h12, h12_, h13, h13_, h14, h14_, h14__, h15, h15_, h16, h16_, h18, h18_, h28, h28_]) (by simp) ?_
                                refine Can.ren (m := 0) h0 [(0, 0)] [(1, AV.ptr 0 0), (3, AV.int .i64 v5), (104, AV.bool v13)] [(0, .cells [AV.int .i64 v0, AV.lst false false (List.map api_Edge.av v1), AV.lst false false (List.map (AV.int .i64) v2)])] 1 (by decide) (by decide) (by decide) rfl (by simp [h1, h1_, h2, h2_, h3, h3_, h5, h5_, h6, h6_, h7, h8, h9, h9_, h8_, h10, h10_, h11, h11_, h12, h12_, h13, h13_, h14, h14_, h14__, h15, h15_, h16, h16_, h18, h18_, h28, h28_]) (by simp [h1, h1_, h2, h2_, h3, h3_, h5, h5_, h6, h6_, h7, h8, h9, h9_, h8_, h10, h10_, h11, h11_, h12, h12_, h13, h13_, h14, h14_, h14__, h15, h15_, h16, h16_, h18, h18_, h28, h28_]) ?_
                                exact Can.join (v13) hF (by simp [h1, h1_, h2, h2_, h3, h3_, h5, h5_, h6, h6_, h7, h8, h9, h9_, h8_, h10, h10_, h11, h11_, h12, h12_, h13, h13_, h14, h14_, h14__, h15, h15_, h16, h16_, h18, h18_, h28, h28_]) (by simp [h1, h1_, h2, h2_, h3, h3_, h5, h5_, h6, h6_, h7, h8, h9, h9_, h8_, h10, h10_, h11, h11_, h12, h12_, h13, h13_, h14, h14_, h14__, h15, h15_, h16, h16_, h18, h18_, h28, h28_]) (by simp)
                          · rintro v7 hF
                            try dsimp only at hF
                            unfold ref11_Check.J2 at hF
                            by_cases h17 : v7 = true
                            · replace hF := ite_t h17 hF
                              have h17_ := h17
                              try simp at h17_
                              refine AW.condT (by decide) (by first | (simp [h1, h1_, h2, h2_, h3, h3_, h5, h5_, h6, h6_, h7, h8, h9, h9_, h8_, h10, h10_, h11, h11_, h12, h12_, h13, h13_, h14, h14_, h14__, h15, h15_, h16, h16_, h17, h17_]; done) | (simp [h1, h1_, h2, h2_, h3, h3_, h5, h5_, h6, h6_, h7, h8, h9, h9_, h8_, h10, h10_, h11, h11_, h12, h12_, h13, h13_, h14, h14_, h14__, h15, h15_, h16, h16_, h17, h17_]; omega)) ?_
                              refine AW.seqR mixed [] [none] (by kernel_rfl) fun G785 R785 hG785 hR785 => ?_
                              try simp [h1, h1_, h2, h2_, h3, h3_, h5, h5_, h6, h6_, h7, h8, h9, h9_, h8_, h10, h10_, h11, h11_, h12, h12_, h13, h13_, h14, h14_, h14__, h15, h15_, h16, h16_, h17, h17_]
                              repeat' apply And.intro
                              any_goals (first | exact hG785 _ (by kernel_rfl) | refine hR785 _ _ _ ?_ | omega | (unfold maxLen; omega) | (simp [h1, h1_, h2, h2_, h3, h3_, h5, h5_, h6, h6_, h7, h8, h9, h9_, h8_, h10, h10_, h11, h11_, h12, h12_, h13, h13_, h14, h14_, h14__, h15, h15_, h16, h16_, h17, h17_]; done) | (simp [h1, h1_, h2, h2_, h3, h3_, h5, h5_, h6, h6_, h7, h8, h9, h9_, h8_, h10, h10_, h11, h11_, h12, h12_, h13, h13_, h14, h14_, h14__, h15, h15_, h16, h16_, h17, h17_]; omega))
                              refine AW.wk [(2, AV.int .i64 14)] [] 1 (by simp [h1, h1_, h2, h2_, h3, h3_, h5, h5_, h6, h6_, h7, h8, h9, h9_, h8_, h10, h10_, h11, h11_, h12, h12_, h13, h13_, h14, h14_, h14__, h15, h15_, h16, h16_, h17, h17_]) (by simp [h1, h1_, h2, h2_, h3, h3_, h5, h5_, h6, h6_, h7, h8, h9, h9_, h8_, h10, h10_, h11, h11_, h12, h12_, h13, h13_, h14, h14_, h14__, h15, h15_, h16, h16_, h17, h17_]) (by simp) ?_
                              simp only [Option.some.injEq] at hF
                              subst hF
                              refine AW.ret (hQ _ _ _ ?_ (matchO_0 ?_)).1
                              · simp [Try.f173, h1, h1_, h2, h2_, h3, h3_, h5, h5_, h6, h6_, h7, h8, h9, h9_, h8_, h10, h10_, h11, h11_, h12, h12_, h13, h13_, h14, h14_, h14__, h15, h15_, h16, h16_, h17, h17_]
                              · simp [h1, h1_, h2, h2_, h3, h3_, h5, h5_, h6, h6_, h7, h8, h9, h9_, h8_, h10, h10_, h11, h11_, h12, h12_, h13, h13_, h14, h14_, h14__, h15, h15_, h16, h16_, h17, h17_]
                            · replace hF := ite_f h17 hF
                              have h17_ := h17
                              try simp at h17_
                              refine AW.condF (by decide) (by first | (simp [h1, h1_, h2, h2_, h3, h3_, h5, h5_, h6, h6_, h7, h8, h9, h9_, h8_, h10, h10_, h11, h11_, h12, h12_, h13, h13_, h14, h14_, h14__, h15, h15_, h16, h16_, h17, h17_]; done) | (simp [h1, h1_, h2, h2_, h3, h3_, h5, h5_, h6, h6_, h7, h8, h9, h9_, h8_, h10, h10_, h11, h11_, h12, h12_, h13, h13_, h14, h14_, h14__, h15, h15_, h16, h16_, h17, h17_]; omega)) ?_
                              refine AW.skip ?_
                              refine hK765 _ _ _ ?_
                              refine AW.region mixed [] [none, none, none] (by kernel_rfl) fun G786 R786 hG786 hR786 => ?_
                              try simp [h1, h1_, h2, h2_, h3, h3_, h5, h5_, h6, h6_, h7, h8, h9, h9_, h8_, h10, h10_, h11, h11_, h12, h12_, h13, h13_, h14, h14_, h14__, h15, h15_, h16, h16_, h17, h17_]
                              repeat' apply And.intro
                              any_goals (first | exact hG786 _ (by kernel_rfl) | refine hR786 _ _ _ ?_ | omega | (unfold maxLen; omega) | (simp [h1, h1_, h2, h2_, h3, h3_, h5, h5_, h6, h6_, h7, h8, h9, h9_, h8_, h10, h10_, h11, h11_, h12, h12_, h13, h13_, h14, h14_, h14__, h15, h15_, h16, h16_, h17, h17_]; done) | (simp [h1, h1_, h2, h2_, h3, h3_, h5, h5_, h6, h6_, h7, h8, h9, h9_, h8_, h10, h10_, h11, h11_, h12, h12_, h13, h13_, h14, h14_, h14__, h15, h15_, h16, h16_, h17, h17_]; omega))
                              refine hK740 _ _ _ ?_
                              refine Can.weak [(1, AV.ptr 0 0), (3, AV.int .i64 (IntKind.wrap .i64 (v5 + 1)))] [(0, .cells [AV.int .i64 v0, AV.lst false false (List.map api_Edge.av v1), AV.lst false false (List.map (AV.int .i64) v2)])] 1 (by simp [h1, h1_, h2, h2_, h3, h3_, h5, h5_, h6, h6_, h7, h8, h9, h9_, h8_, h10, h10_, h11, h11_, h12, h12_, h13, h13_, h14, h14_, h14__, h15, h15_, h16, h16_, h17, h17_]) (by simp [h1, h1_, h2, h2_, h3, h3_, h5, h5_, h6, h6_, h7, h8, h9, h9_, h8_, h10, h10_, h11, h11_, h12, h12_, h13, h13_, h14, h14_, h14__, h15, h15_, h16, h16_, h17, h17_]) (by simp) ?_
                              exact Can.next (k' := n1) (IntKind.wrap .i64 (v5 + 1)) (by omega) hF (by simp [h1, h1_, h2, h2_, h3, h3_, h5, h5_, h6, h6_, h7, h8, h9, h9_, h8_, h10, h10_, h11, h11_, h12, h12_, h13, h13_, h14, h14_, h14__, h15, h15_, h16, h16_, h17, h17_]) (by simp [h1, h1_, h2, h2_, h3, h3_, h5, h5_, h6, h6_, h7, h8, h9, h9_, h8_, h10, h10_, h11, h11_, h12, h12_, h13, h13_, h14, h14_, h14__, h15, h15_, h16, h16_, h17, h17_]) (by simp)
          · replace hF := ite_f h6 hF
            have h6_ := h6
            try simp at h6_
            refine AW.condF (by decide) (by first | (simp [h1, h1_, h2, h2_, h3, h3_, h5, h5_, h6, h6_]; done) | (simp [h1, h1_, h2, h2_, h3, h3_, h5, h5_, h6, h6_]; omega)) ?_
            refine AW.exit ?_
            try simp
            refine hK597 _ _ _ ?_
            refine AW.seqR mixed [] [none] (by kernel_rfl) fun G788 R788 hG788 hR788 => ?_
            try simp [h1, h1_, h2, h2_, h3, h3_, h5, h5_, h6, h6_]
            repeat' apply And.intro
            any_goals (first | exact hG788 _ (by kernel_rfl) | refine hR788 _ _ _ ?_ | omega | (unfold maxLen; omega) | (simp [h1, h1_, h2, h2_, h3, h3_, h5, h5_, h6, h6_]; done) | (simp [h1, h1_, h2, h2_, h3, h3_, h5, h5_, h6, h6_]; omega))
            refine AW.wk [(2, AV.int .i64 0)] [] 1 (by simp [h1, h1_, h2, h2_, h3, h3_, h5, h5_, h6, h6_]) (by simp [h1, h1_, h2, h2_, h3, h3_, h5, h5_, h6, h6_]) (by simp) ?_
            simp only [Option.some.injEq] at hF
            subst hF
            refine AW.ret (hQ _ _ _ ?_ (matchO_0 ?_)).1
            · simp [Try.f173, h1, h1_, h2, h2_, h3, h3_, h5, h5_, h6, h6_]
            · simp [h1, h1_, h2, h2_, h3, h3_, h5, h5_, h6, h6_]
end Go.TF
