/- Walks: the Go text computes the Lean functions (printed by a program of our own). -/
import Derived.Test.YtepdfenlkeaefaaEPu
import Derived.Test.YtepdfenlkeaefaaEAbsT
import Derived.Test.YtepdfenlkeaefaaEWa0
import Derived.Test.YtepdfenlkeaefaaEWa1
import Derived.Test.YtepdfenlkeaefaaEWa3
import Derived.Test.YtepdfenlkeaefaaEWa4
import Derived.Test.YtepdfenlkeaefaaEWa6
set_option linter.unusedVariables false
set_option linter.unusedSimpArgs false
set_option maxRecDepth 100000
namespace Go.TF
open Go Go.Abs Go.Proofs Go.Proofs.YtepdfenlkeaefaaET
set_option maxHeartbeats 4000000 in
theorem w_ref25_Mix (k : Nat) (v0 : (List Int)) (v1 : Int) (v2 : Int) (v3 : Int) (hF : ref25_Mix k v0 v1 = some (v2, v3)) :
    FCall Try.prog 43 [AV.lst false false (List.map (AV.int .i64) v0), AV.int .i64 v1] [] (AV.tup [AV.int .i64 v2, AV.int .i64 v3]) [] := by
  unfold ref25_Mix at hF
  refine FCall.enter Try.func43 rfl (by simp) (by decide) (by simp) (by simp) (by simp) (by simp) (by simp) ?_
  intro c0 w0 Q h0 hQ
  refine AW.wk [(0, AV.lst false false (List.map (AV.int .i64) v0)), (1, AV.int .i64 v1)] [] 0 (by simp) (by simp) (by simp) ?_
  refine AW.seqR mixed [] [none, none] (by kernel_rfl) fun G189 R189 hG189 hR189 => ?_
  try simp
  repeat' apply And.intro
  any_goals (first | exact hG189 _ (by kernel_rfl) | refine hR189 _ _ _ ?_ | omega | (unfold maxLen; omega) | (simp; done) | (simp; omega))
  refine AW.wk [(0, AV.lst false false (List.map (AV.int .i64) v0)), (1, AV.int .i64 v1)] [] 0 (by simp) (by simp) (by simp) ?_
  refine AW.seq fun K192 hK192 => ?_
  refine AW.seqR mixed [] [none, none, none] (by kernel_rfl) fun G193 R193 hG193 hR193 => ?_
  try simp
  repeat' apply And.intro
  any_goals (first | exact hG193 _ (by kernel_rfl) | refine hR193 _ _ _ ?_ | omega | (unfold maxLen; omega) | (simp; done) | (simp; omega))
  refine AW.wk [(0, AV.lst false false (List.map (AV.int .i64) v0)), (1, AV.int .i64 v1), (10, AV.bool (decide (64 < (v0.length : Int))))] [] 0 (by simp) (by simp) (by simp) ?_
  by_cases h1 : 64 < (v0.length : Int)
  · replace hF := ite_t h1 hF
    have h1_ := h1
    try simp at h1_
    refine AW.condT (by decide) (by first | (simp [h1, h1_]; done) | (simp [h1, h1_]; omega)) ?_
    refine AW.seqR mixed [] [none, none] (by kernel_rfl) fun G194 R194 hG194 hR194 => ?_
    try simp [h1, h1_]
    repeat' apply And.intro
    any_goals (first | exact hG194 _ (by kernel_rfl) | refine hR194 _ _ _ ?_ | omega | (unfold maxLen; omega) | (simp [h1, h1_]; done) | (simp [h1, h1_]; omega))
    refine AW.wk [(4, AV.int .i64 0), (5, AV.int .i64 3)] [] 0 (by simp [h1, h1_]) (by simp [h1, h1_]) (by simp) ?_
    simp only [Option.some.injEq, Prod.mk.injEq] at hF
    obtain ⟨e0, e1⟩ := hF
    subst e0 e1
    refine AW.ret (hQ _ _ _ ?_ (matchO_0 ?_)).1
    · simp [Try.f43, h1, h1_]
    · simp [h1, h1_]
  · replace hF := ite_f h1 hF
    have h1_ := h1
    try simp at h1_
    refine AW.condF (by decide) (by first | (simp [h1, h1_]; done) | (simp [h1, h1_]; omega)) ?_
    refine AW.skip ?_
    refine hK192 _ _ _ ?_
    refine AW.seq fun K198 hK198 => ?_
    refine AW.seqR mixed [] [none, none, none, some (13, false), some (13, false), none] (by kernel_rfl) fun G199 R199 hG199 hR199 => ?_
    by_cases h2 : v1 < 1
    · replace hF := ite_t h2 hF
      have h2_ := h2
      try simp at h2_
      try simp [h1, h1_, h2, h2_]
      repeat' apply And.intro
      any_goals (first | exact hG199 _ (by kernel_rfl) | refine hR199 _ _ _ ?_ | omega | (unfold maxLen; omega) | (simp [h1, h1_, h2, h2_]; done) | (simp [h1, h1_, h2, h2_]; omega))
      refine AW.wk [(0, AV.lst false false (List.map (AV.int .i64) v0)), (1, AV.int .i64 v1), (16, AV.bool true)] [] 0 (by simp [h1, h1_, h2, h2_]) (by simp [h1, h1_, h2, h2_]) (by simp) ?_
      refine AW.condT (by decide) (by simp [h1, h1_, h2, h2_]) ?_
      refine AW.seqR mixed [] [none, none] (by kernel_rfl) fun G200 R200 hG200 hR200 => ?_
      try simp [h1, h1_, h2, h2_]
      repeat' apply And.intro
      any_goals (first | exact hG200 _ (by kernel_rfl) | refine hR200 _ _ _ ?_ | omega | (unfold maxLen; omega) | (simp [h1, h1_, h2, h2_]; done) | (simp [h1, h1_, h2, h2_]; omega))
      refine AW.wk [(4, AV.int .i64 0), (5, AV.int .i64 2)] [] 0 (by simp [h1, h1_, h2, h2_]) (by simp [h1, h1_, h2, h2_]) (by simp) ?_
      simp only [Option.some.injEq, Prod.mk.injEq] at hF
      obtain ⟨e0, e1⟩ := hF
      subst e0 e1
      refine AW.ret (hQ _ _ _ ?_ (matchO_0 ?_)).1
      · simp [Try.f43, h1, h1_, h2, h2_]
      · simp [h1, h1_, h2, h2_]
    · replace hF := ite_f h2 hF
      have h2_ := h2
      try simp at h2_
      try simp [h1, h1_, h2, h2_]
      repeat' apply And.intro
      any_goals (first | exact hG199 _ (by kernel_rfl) | refine hR199 _ _ _ ?_ | omega | (unfold maxLen; omega) | (simp [h1, h1_, h2, h2_]; done) | (simp [h1, h1_, h2, h2_]; omega))
      refine AW.wk [(0, AV.lst false false (List.map (AV.int .i64) v0)), (1, AV.int .i64 v1), (16, AV.bool (decide (2147483648 < v1)))] [] 0 (by simp [h1, h1_, h2, h2_]) (by simp [h1, h1_, h2, h2_]) (by simp) ?_
      by_cases h3 : 2147483648 < v1
      · replace hF := ite_t h3 hF
        have h3_ := h3
        try simp at h3_
        refine AW.condT (by decide) (by first | (simp [h1, h1_, h2, h2_, h3, h3_]; done) | (simp [h1, h1_, h2, h2_, h3, h3_]; omega)) ?_
        refine AW.seqR mixed [] [none, none] (by kernel_rfl) fun G201 R201 hG201 hR201 => ?_
        try simp [h1, h1_, h2, h2_, h3, h3_]
        repeat' apply And.intro
        any_goals (first | exact hG201 _ (by kernel_rfl) | refine hR201 _ _ _ ?_ | omega | (unfold maxLen; omega) | (simp [h1, h1_, h2, h2_, h3, h3_]; done) | (simp [h1, h1_, h2, h2_, h3, h3_]; omega))
        refine AW.wk [(4, AV.int .i64 0), (5, AV.int .i64 2)] [] 0 (by simp [h1, h1_, h2, h2_, h3, h3_]) (by simp [h1, h1_, h2, h2_, h3, h3_]) (by simp) ?_
        simp only [Option.some.injEq, Prod.mk.injEq] at hF
        obtain ⟨e0, e1⟩ := hF
        subst e0 e1
        refine AW.ret (hQ _ _ _ ?_ (matchO_0 ?_)).1
        · simp [Try.f43, h1, h1_, h2, h2_, h3, h3_]
        · simp [h1, h1_, h2, h2_, h3, h3_]
      · replace hF := ite_f h3 hF
        have h3_ := h3
        try simp at h3_
        refine AW.condF (by decide) (by first | (simp [h1, h1_, h2, h2_, h3, h3_]; done) | (simp [h1, h1_, h2, h2_, h3, h3_]; omega)) ?_
        refine AW.skip ?_
        refine hK198 _ _ _ ?_
        refine AW.seqR mixed [] [none] (by kernel_rfl) fun G202 R202 hG202 hR202 => ?_
        try simp [h1, h1_, h2, h2_, h3, h3_]
        repeat' apply And.intro
        any_goals (first | exact hG202 _ (by kernel_rfl) | refine hR202 _ _ _ ?_ | omega | (unfold maxLen; omega) | (simp [h1, h1_, h2, h2_, h3, h3_]; done) | (simp [h1, h1_, h2, h2_, h3, h3_]; omega))
        refine AW.wk [(0, AV.lst false false (List.map (AV.int .i64) v0)), (1, AV.int .i64 v1), (6, AV.int .i64 0)] [] 0 (by simp [h1, h1_, h2, h2_, h3, h3_]) (by simp [h1, h1_, h2, h2_, h3, h3_]) (by simp) ?_
        refine AW.seq fun K289 hK289 => ?_
        refine AW.seqR mixed [] [none] (by kernel_rfl) fun G290 R290 hG290 hR290 => ?_
        try simp [h1, h1_, h2, h2_, h3, h3_]
        repeat' apply And.intro
        any_goals (first | exact hG290 _ (by kernel_rfl) | refine hR290 _ _ _ ?_ | omega | (unfold maxLen; omega) | (simp [h1, h1_, h2, h2_, h3, h3_]; done) | (simp [h1, h1_, h2, h2_, h3, h3_]; omega))
        refine AW.wk [(0, AV.lst false false (List.map (AV.int .i64) v0)), (1, AV.int .i64 v1), (6, AV.int .i64 0), (7, AV.int .i64 0)] [] 0 (by simp [h1, h1_, h2, h2_, h3, h3_]) (by simp [h1, h1_, h2, h2_, h3, h3_]) (by simp) ?_
        refine AW.block ?_
        refine AW.loopF (α := (Int × Int)) (fun n (v4, v5) => ref25_Mix.L1 k v0 v1 n v4 v5 = some (v2, v3)) (fun (v4, v5) => [(0, AV.lst false false (List.map (AV.int .i64) v0)), (1, AV.int .i64 v1), (6, AV.int .i64 v4), (7, AV.int .i64 v5)]) (fun (v4, v5) => []) 0 k ((0, 0)) hF (by simp [h1, h1_, h2, h2_, h3, h3_]) (by simp [h1, h1_, h2, h2_, h3, h3_]) (by simp) ?_
        rintro (_|n1) ⟨v4, v5⟩ hF K354 hK354
        · try dsimp only at hF
          rw [ref25_Mix.L1] at hF; cases hF
        try dsimp only at hF
        rw [ref25_Mix.L1] at hF
        refine AW.seq fun K356 hK356 => ?_
        refine AW.seqR mixed [] [none, none, none, none] (by kernel_rfl) fun G357 R357 hG357 hR357 => ?_
        try simp [h1, h1_, h2, h2_, h3, h3_]
        repeat' apply And.intro
        any_goals (first | exact hG357 _ (by kernel_rfl) | refine hR357 _ _ _ ?_ | omega | (unfold maxLen; omega) | (simp [h1, h1_, h2, h2_, h3, h3_]; done) | (simp [h1, h1_, h2, h2_, h3, h3_]; omega))
        refine AW.wk [(0, AV.lst false false (List.map (AV.int .i64) v0)), (1, AV.int .i64 v1), (6, AV.int .i64 v4), (7, AV.int .i64 v5), (20, AV.bool (decide (v5 < (v0.length : Int))))] [] 0 (by simp [h1, h1_, h2, h2_, h3, h3_]) (by simp [h1, h1_, h2, h2_, h3, h3_]) (by simp) ?_
        by_cases h4 : v5 < (v0.length : Int)
        · replace hF := ite_t h4 hF
          have h4_ := h4
          try simp at h4_
          refine AW.condT (by decide) (by first | (simp [h1, h1_, h2, h2_, h3, h3_, h4, h4_]; done) | (simp [h1, h1_, h2, h2_, h3, h3_, h4, h4_]; omega)) ?_
          refine AW.skip ?_
          refine hK356 _ _ _ ?_
          refine AW.seq fun K366 hK366 => ?_
          refine AW.block ?_
          refine AW.seq fun K370 hK370 => ?_
          refine AW.seqR mixed [] [none, none, none, none, none, none, some (28, false), some (28, false), some (28, false), some (28, false), some (28, false), none] (by kernel_rfl) fun G371 R371 hG371 hR371 => ?_
          obtain ⟨v6, h5, h6, h7, hF⟩ := idx_elim hF
          have h7_ := get_of h7
          try simp at h7_
          have h6_ := h6
          try simp at h6_
          by_cases h8 : v6 < 0
          · replace hF := ite_t h8 hF
            have h8_ := h8
            try simp at h8_
            try simp [h1, h1_, h2, h2_, h3, h3_, h4, h4_, h5, h6, h7, h7_, h6_, h8, h8_]
            repeat' apply And.intro
            any_goals (first | exact hG371 _ (by kernel_rfl) | refine hR371 _ _ _ ?_ | omega | (unfold maxLen; omega) | (simp [h1, h1_, h2, h2_, h3, h3_, h4, h4_, h5, h6, h7, h7_, h6_, h8, h8_]; done) | (simp [h1, h1_, h2, h2_, h3, h3_, h4, h4_, h5, h6, h7, h7_, h6_, h8, h8_]; omega))
            refine AW.wk [(0, AV.lst false false (List.map (AV.int .i64) v0)), (1, AV.int .i64 v1), (6, AV.int .i64 v4), (7, AV.int .i64 v5), (34, AV.bool true)] [] 0 (by simp [h1, h1_, h2, h2_, h3, h3_, h4, h4_, h5, h6, h7, h7_, h6_, h8, h8_]) (by simp [h1, h1_, h2, h2_, h3, h3_, h4, h4_, h5, h6, h7, h7_, h6_, h8, h8_]) (by simp) ?_
            refine AW.condT (by decide) (by simp [h1, h1_, h2, h2_, h3, h3_, h4, h4_, h5, h6, h7, h7_, h6_, h8, h8_]) ?_
            refine AW.seqR mixed [] [none, none] (by kernel_rfl) fun G372 R372 hG372 hR372 => ?_
            try simp [h1, h1_, h2, h2_, h3, h3_, h4, h4_, h5, h6, h7, h7_, h6_, h8, h8_]
            repeat' apply And.intro
            any_goals (first | exact hG372 _ (by kernel_rfl) | refine hR372 _ _ _ ?_ | omega | (unfold maxLen; omega) | (simp [h1, h1_, h2, h2_, h3, h3_, h4, h4_, h5, h6, h7, h7_, h6_, h8, h8_]; done) | (simp [h1, h1_, h2, h2_, h3, h3_, h4, h4_, h5, h6, h7, h7_, h6_, h8, h8_]; omega))
            refine AW.wk [(4, AV.int .i64 0), (5, AV.int .i64 2)] [] 0 (by simp [h1, h1_, h2, h2_, h3, h3_, h4, h4_, h5, h6, h7, h7_, h6_, h8, h8_]) (by simp [h1, h1_, h2, h2_, h3, h3_, h4, h4_, h5, h6, h7, h7_, h6_, h8, h8_]) (by simp) ?_
            simp only [Option.some.injEq, Prod.mk.injEq] at hF
            obtain ⟨e0, e1⟩ := hF
            subst e0 e1
            refine AW.ret (hQ _ _ _ ?_ (matchO_0 ?_)).1
            · simp [Try.f43, h1, h1_, h2, h2_, h3, h3_, h4, h4_, h5, h6, h7, h7_, h6_, h8, h8_]
            · simp [h1, h1_, h2, h2_, h3, h3_, h4, h4_, h5, h6, h7, h7_, h6_, h8, h8_]
          · replace hF := ite_f h8 hF
            have h8_ := h8
            try simp at h8_
            try simp [h1, h1_, h2, h2_, h3, h3_, h4, h4_, h5, h6, h7, h7_, h6_, h8, h8_]
            repeat' apply And.intro
            any_goals (first | exact hG371 _ (by kernel_rfl) | refine hR371 _ _ _ ?_ | omega | (unfold maxLen; omega) | (simp [h1, h1_, h2, h2_, h3, h3_, h4, h4_, h5, h6, h7, h7_, h6_, h8, h8_]; done) | (simp [h1, h1_, h2, h2_, h3, h3_, h4, h4_, h5, h6, h7, h7_, h6_, h8, h8_]; omega))
            refine AW.wk [(0, AV.lst false false (List.map (AV.int .i64) v0)), (1, AV.int .i64 v1), (6, AV.int .i64 v4), (7, AV.int .i64 v5), (34, AV.bool (decide (4294967296 ≤ v6)))] [] 0 (by simp [h1, h1_, h2, h2_, h3, h3_, h4, h4_, h5, h6, h7, h7_, h6_, h8, h8_]) (by simp [h1, h1_, h2, h2_, h3, h3_, h4, h4_, h5, h6, h7, h7_, h6_, h8, h8_]) (by simp) ?_
            by_cases h9 : 4294967296 ≤ v6
            · replace hF := ite_t h9 hF
              have h9_ := h9
              try simp at h9_
              refine AW.condT (by decide) (by first | (simp [h1, h1_, h2, h2_, h3, h3_, h4, h4_, h5, h6, h7, h7_, h6_, h8, h8_, h9, h9_]; done) | (simp [h1, h1_, h2, h2_, h3, h3_, h4, h4_, h5, h6, h7, h7_, h6_, h8, h8_, h9, h9_]; omega)) ?_
              refine AW.seqR mixed [] [none, none] (by kernel_rfl) fun G373 R373 hG373 hR373 => ?_
              try simp [h1, h1_, h2, h2_, h3, h3_, h4, h4_, h5, h6, h7, h7_, h6_, h8, h8_, h9, h9_]
              repeat' apply And.intro
              any_goals (first | exact hG373 _ (by kernel_rfl) | refine hR373 _ _ _ ?_ | omega | (unfold maxLen; omega) | (simp [h1, h1_, h2, h2_, h3, h3_, h4, h4_, h5, h6, h7, h7_, h6_, h8, h8_, h9, h9_]; done) | (simp [h1, h1_, h2, h2_, h3, h3_, h4, h4_, h5, h6, h7, h7_, h6_, h8, h8_, h9, h9_]; omega))
              refine AW.wk [(4, AV.int .i64 0), (5, AV.int .i64 2)] [] 0 (by simp [h1, h1_, h2, h2_, h3, h3_, h4, h4_, h5, h6, h7, h7_, h6_, h8, h8_, h9, h9_]) (by simp [h1, h1_, h2, h2_, h3, h3_, h4, h4_, h5, h6, h7, h7_, h6_, h8, h8_, h9, h9_]) (by simp) ?_
              simp only [Option.some.injEq, Prod.mk.injEq] at hF
              obtain ⟨e0, e1⟩ := hF
              subst e0 e1
              refine AW.ret (hQ _ _ _ ?_ (matchO_0 ?_)).1
              · simp [Try.f43, h1, h1_, h2, h2_, h3, h3_, h4, h4_, h5, h6, h7, h7_, h6_, h8, h8_, h9, h9_]
              · simp [h1, h1_, h2, h2_, h3, h3_, h4, h4_, h5, h6, h7, h7_, h6_, h8, h8_, h9, h9_]
            · replace hF := ite_f h9 hF
              have h9_ := h9
              try simp at h9_
              refine AW.condF (by decide) (by first | (simp [h1, h1_, h2, h2_, h3, h3_, h4, h4_, h5, h6, h7, h7_, h6_, h8, h8_, h9, h9_]; done) | (simp [h1, h1_, h2, h2_, h3, h3_, h4, h4_, h5, h6, h7, h7_, h6_, h8, h8_, h9, h9_]; omega)) ?_
              refine AW.skip ?_
              refine hK370 _ _ _ ?_
              refine AW.region mixed [] [none, none, none, none, none, none, none] (by kernel_rfl) fun G374 R374 hG374 hR374 => ?_
              try simp [h1, h1_, h2, h2_, h3, h3_, h4, h4_, h5, h6, h7, h7_, h6_, h8, h8_, h9, h9_]
              repeat' apply And.intro
              any_goals (first | exact hG374 _ (by kernel_rfl) | refine hR374 _ _ _ ?_ | omega | (unfold maxLen; omega) | (simp [h1, h1_, h2, h2_, h3, h3_, h4, h4_, h5, h6, h7, h7_, h6_, h8, h8_, h9, h9_]; done) | (simp [h1, h1_, h2, h2_, h3, h3_, h4, h4_, h5, h6, h7, h7_, h6_, h8, h8_, h9, h9_]; omega))
              refine hK366 _ _ _ ?_
              refine AW.wk [(0, AV.lst false false (List.map (AV.int .i64) v0)), (1, AV.int .i64 v1), (6, AV.int .i64 (IntKind.wrap .i64 (v4 + v6))), (7, AV.int .i64 v5)] [] 0 (by simp [h1, h1_, h2, h2_, h3, h3_, h4, h4_, h5, h6, h7, h7_, h6_, h8, h8_, h9, h9_]) (by simp [h1, h1_, h2, h2_, h3, h3_, h4, h4_, h5, h6, h7, h7_, h6_, h8, h8_, h9, h9_]) (by simp) ?_
              refine AW.region mixed [] [none, none, none] (by kernel_rfl) fun G375 R375 hG375 hR375 => ?_
              try simp [h1, h1_, h2, h2_, h3, h3_, h4, h4_, h5, h6, h7, h7_, h6_, h8, h8_, h9, h9_]
              repeat' apply And.intro
              any_goals (first | exact hG375 _ (by kernel_rfl) | refine hR375 _ _ _ ?_ | omega | (unfold maxLen; omega) | (simp [h1, h1_, h2, h2_, h3, h3_, h4, h4_, h5, h6, h7, h7_, h6_, h8, h8_, h9, h9_]; done) | (simp [h1, h1_, h2, h2_, h3, h3_, h4, h4_, h5, h6, h7, h7_, h6_, h8, h8_, h9, h9_]; omega))
              refine hK354 _ _ _ ?_
              refine Can.weak [(0, AV.lst false false (List.map (AV.int .i64) v0)), (1, AV.int .i64 v1), (6, AV.int .i64 (IntKind.wrap .i64 (v4 + v6))), (7, AV.int .i64 (IntKind.wrap .i64 (v5 + 1)))] [] 0 (by simp [h1, h1_, h2, h2_, h3, h3_, h4, h4_, h5, h6, h7, h7_, h6_, h8, h8_, h9, h9_]) (by simp [h1, h1_, h2, h2_, h3, h3_, h4, h4_, h5, h6, h7, h7_, h6_, h8, h8_, h9, h9_]) (by simp) ?_
              exact Can.next (k' := n1) ((IntKind.wrap .i64 (v4 + v6), IntKind.wrap .i64 (v5 + 1))) (by omega) hF (by simp [h1, h1_, h2, h2_, h3, h3_, h4, h4_, h5, h6, h7, h7_, h6_, h8, h8_, h9, h9_]) (by simp [h1, h1_, h2, h2_, h3, h3_, h4, h4_, h5, h6, h7, h7_, h6_, h8, h8_, h9, h9_]) (by simp)
        · replace hF := ite_f h4 hF
          have h4_ := h4
          try simp at h4_
          refine AW.condF (by decide) (by first | (simp [h1, h1_, h2, h2_, h3, h3_, h4, h4_]; done) | (simp [h1, h1_, h2, h2_, h3, h3_, h4, h4_]; omega)) ?_
          refine AW.exit ?_
          try simp
          refine hK289 _ _ _ ?_
          refine AW.seqR mixed [] [none, none, none, none, none] (by kernel_rfl) fun G376 R376 hG376 hR376 => ?_
          obtain ⟨h10, hF⟩ := chk_elim hF
          have h10_ := h10
          try simp at h10_
          try simp [h1, h1_, h2, h2_, h3, h3_, h4, h4_, h10, h10_]
          repeat' apply And.intro
          any_goals (first | exact hG376 _ (by kernel_rfl) | refine hR376 _ _ _ ?_ | omega | (unfold maxLen; omega) | (simp [h1, h1_, h2, h2_, h3, h3_, h4, h4_, h10, h10_]; done) | (simp [h1, h1_, h2, h2_, h3, h3_, h4, h4_, h10, h10_]; omega))
          refine AW.wk [(4, AV.int .i64 (Int.tmod v4 v1)), (5, AV.int .i64 0)] [] 0 (by simp [h1, h1_, h2, h2_, h3, h3_, h4, h4_, h10, h10_]) (by simp [h1, h1_, h2, h2_, h3, h3_, h4, h4_, h10, h10_]) (by simp) ?_
          simp only [Option.some.injEq, Prod.mk.injEq] at hF
          obtain ⟨e0, e1⟩ := hF
          subst e0 e1
          refine AW.ret (hQ _ _ _ ?_ (matchO_0 ?_)).1
          · simp [Try.f43, h1, h1_, h2, h2_, h3, h3_, h4, h4_, h10, h10_]
          · simp [h1, h1_, h2, h2_, h3, h3_, h4, h4_, h10, h10_]
set_option maxHeartbeats 4000000 in
theorem w_ref25_number_v2 (k : Nat) (v0 : Int) (v1 : (List Int)) (hF : ref25_number_v2 k v0 = some v1) :
    FCall Try.prog 84 [AV.lst true true (List.map (AV.int .u8) ([] : List Int)), AV.int .i64 v0] [] (AV.slc 0 0 1 v1.length false) [some (.grow (List.map (AV.int .u8) v1))] := by
  unfold ref25_number_v2 at hF
  refine FCall.enter Try.func84 rfl (by simp) (by decide) (by simp) (by simp) (by simp) (by simp) (by simp) ?_
  intro c0 w0 Q h0 hQ
  refine AW.wk [(0, AV.lst true true (List.map (AV.int .u8) ([] : List Int))), (1, AV.int .i64 v0)] [] 0 (by simp) (by simp) (by simp) ?_
  refine AW.seqR mixed [] [none] (by kernel_rfl) fun G65 R65 hG65 hR65 => ?_
  try simp
  repeat' apply And.intro
  any_goals (first | exact hG65 _ (by kernel_rfl) | refine hR65 _ _ _ ?_ | omega | (unfold maxLen; omega) | (simp; done) | (simp; omega))
  refine AW.wk [(0, AV.lst true true (List.map (AV.int .u8) ([] : List Int))), (1, AV.int .i64 v0)] [] 0 (by simp) (by simp) (by simp) ?_
  refine AW.seqR mixed [] [none, none, none] (by kernel_rfl) fun G66 R66 hG66 hR66 => ?_
  try simp
  repeat' apply And.intro
  any_goals (first | exact hG66 _ (by kernel_rfl) | refine hR66 _ _ _ ?_ | omega | (unfold maxLen; omega) | (simp; done) | (simp; omega))
  refine AW.wk [(0, AV.lst true true (List.map (AV.int .u8) ([] : List Int))), (5, AV.int .u64 (IntKind.wrap .u64 v0))] [] 0 (by simp) (by simp) (by simp) ?_
  refine AW.seq fun K97 hK97 => ?_
  refine AW.seqR mixed [] [none] (by kernel_rfl) fun G98 R98 hG98 hR98 => ?_
  try simp
  repeat' apply And.intro
  any_goals (first | exact hG98 _ (by kernel_rfl) | refine hR98 _ _ _ ?_ | omega | (unfold maxLen; omega) | (simp; done) | (simp; omega))
  refine AW.wk [(0, AV.lst true true (List.map (AV.int .u8) ([] : List Int))), (5, AV.int .u64 (IntKind.wrap .u64 v0)), (6, AV.int .i64 7)] [] 0 (by simp) (by simp) (by simp) ?_
  refine AW.block ?_
  refine AW.own' 0 1 true (by simp) (by decide) ?_
  refine AW.loopF (α := (Int × (List Int))) (fun n (v2, v3) => ref25_number_v2.L1 k v0 n v2 v3 = some v1) (fun (v2, v3) => [(0, AV.slc 0 0 1 v3.length false), (5, AV.int .u64 (IntKind.wrap .u64 v0)), (6, AV.int .i64 v2)]) (fun (v2, v3) => [(0, .grow (List.map (AV.int .u8) v3))]) 1 k ((7, ([] : List Int))) hF (by simp) (by simp) (by simp) ?_
  rintro (_|n1) ⟨v2, v3⟩ hF K120 hK120
  · try dsimp only at hF
    rw [ref25_number_v2.L1] at hF; cases hF
  try dsimp only at hF
  rw [ref25_number_v2.L1] at hF
  refine AW.seq fun K122 hK122 => ?_
  refine AW.seqR mixed [] [none, none] (by kernel_rfl) fun G123 R123 hG123 hR123 => ?_
  try simp
  repeat' apply And.intro
  any_goals (first | exact hG123 _ (by kernel_rfl) | refine hR123 _ _ _ ?_ | omega | (unfold maxLen; omega) | (simp; done) | (simp; omega))
  refine AW.wk [(0, AV.slc 0 0 1 v3.length false), (5, AV.int .u64 (IntKind.wrap .u64 v0)), (6, AV.int .i64 v2), (10, AV.bool (decide (0 ≤ v2)))] [(0, .grow (List.map (AV.int .u8) v3))] 1 (by simp) (by simp) (by simp) ?_
  by_cases h1 : 0 ≤ v2
  · replace hF := ite_t h1 hF
    have h1_ := h1
    try simp at h1_
    refine AW.condT (by decide) (by first | (simp [h1, h1_]; done) | (simp [h1, h1_]; omega)) ?_
    refine AW.skip ?_
    refine hK122 _ _ _ ?_
    refine AW.seq fun K125 hK125 => ?_
    refine AW.block ?_
    refine AW.region mixed [] [none, none, none, none, none, none, none, none, none, none] (by kernel_rfl) fun G126 R126 hG126 hR126 => ?_
    obtain ⟨h2, hF⟩ := chk_elim hF
    obtain ⟨h3, hF⟩ := chk_elim hF
    have h3_ := h3
    try simp at h3_
    try simp [h1, h1_, h2, h3]
    repeat' apply And.intro
    any_goals (first | exact hG126 _ (by kernel_rfl) | refine hR126 _ _ _ ?_ | omega | (unfold maxLen; omega) | (simp [h1, h1_, h2, h3]; done) | (simp [h1, h1_, h2, h3]; omega))
    refine hK125 _ _ _ ?_
    refine AW.wk [(0, AV.slc 1 0 1 ((v3 ++ ([IntKind.wrap .u8 (Int.fdiv (IntKind.wrap .u64 v0) (2 ^ (min ((IntKind.wrap .u64 (IntKind.wrap .i64 (8 * v2))).toNat) 64)))] : List Int)).length) false), (5, AV.int .u64 (IntKind.wrap .u64 v0)), (6, AV.int .i64 v2)] [(1, .grow (List.map (AV.int .u8) (v3 ++ ([IntKind.wrap .u8 (Int.fdiv (IntKind.wrap .u64 v0) (2 ^ (min ((IntKind.wrap .u64 (IntKind.wrap .i64 (8 * v2))).toNat) 64)))] : List Int))))] 2 (by simp [h1, h1_, h2, h3] <;> omega) (by simp [h1, h1_, h2, h3]) (by simp) ?_
    refine AW.region mixed [] [none, none, none] (by kernel_rfl) fun G127 R127 hG127 hR127 => ?_
    try simp [h1, h1_, h2, h3]
    repeat' apply And.intro
    any_goals (first | exact hG127 _ (by kernel_rfl) | refine hR127 _ _ _ ?_ | omega | (unfold maxLen; omega) | (simp [h1, h1_, h2, h3]; done) | (simp [h1, h1_, h2, h3]; omega))
    refine hK120 _ _ _ ?_
    refine Can.weak [(0, AV.slc 1 0 1 ((v3 ++ ([IntKind.wrap .u8 (Int.fdiv (IntKind.wrap .u64 v0) (2 ^ (min ((IntKind.wrap .u64 (IntKind.wrap .i64 (8 * v2))).toNat) 64)))] : List Int)).length) false), (5, AV.int .u64 (IntKind.wrap .u64 v0)), (6, AV.int .i64 (IntKind.wrap .i64 (v2 - 1)))] [(1, .grow (List.map (AV.int .u8) (v3 ++ ([IntKind.wrap .u8 (Int.fdiv (IntKind.wrap .u64 v0) (2 ^ (min ((IntKind.wrap .u64 (IntKind.wrap .i64 (8 * v2))).toNat) 64)))] : List Int))))] 2 (by simp [h1, h1_, h2, h3] <;> omega) (by simp [h1, h1_, h2, h3]) (by simp) ?_
    refine Can.ren (m := 0) h0 [(0, 1)] [(0, AV.slc 0 0 1 ((v3 ++ ([IntKind.wrap .u8 (Int.fdiv (IntKind.wrap .u64 v0) (2 ^ (min ((IntKind.wrap .u64 (IntKind.wrap .i64 (8 * v2))).toNat) 64)))] : List Int)).length) false), (5, AV.int .u64 (IntKind.wrap .u64 v0)), (6, AV.int .i64 (IntKind.wrap .i64 (v2 - 1)))] [(0, .grow (List.map (AV.int .u8) (v3 ++ ([IntKind.wrap .u8 (Int.fdiv (IntKind.wrap .u64 v0) (2 ^ (min ((IntKind.wrap .u64 (IntKind.wrap .i64 (8 * v2))).toNat) 64)))] : List Int))))] 1 (by decide) (by decide) (by decide) rfl (by simp [h1, h1_, h2, h3]) (by simp [h1, h1_, h2, h3]) ?_
    exact Can.next (k' := n1) ((IntKind.wrap .i64 (v2 - 1), v3 ++ ([IntKind.wrap .u8 (Int.fdiv (IntKind.wrap .u64 v0) (2 ^ (min ((IntKind.wrap .u64 (IntKind.wrap .i64 (8 * v2))).toNat) 64)))] : List Int))) (by omega) hF (by simp [h1, h1_, h2, h3]) (by simp [h1, h1_, h2, h3]) (by simp)
  · replace hF := ite_f h1 hF
    have h1_ := h1
    try simp at h1_
    refine AW.condF (by decide) (by first | (simp [h1, h1_]; done) | (simp [h1, h1_]; omega)) ?_
    refine AW.exit ?_
    try simp
    refine hK97 _ _ _ ?_
    refine AW.seqR mixed [] [none, none] (by kernel_rfl) fun G128 R128 hG128 hR128 => ?_
    try simp [h1, h1_]
    repeat' apply And.intro
    any_goals (first | exact hG128 _ (by kernel_rfl) | refine hR128 _ _ _ ?_ | omega | (unfold maxLen; omega) | (simp [h1, h1_]; done) | (simp [h1, h1_]; omega))
    refine AW.wk [(4, AV.slc 0 0 1 v3.length false)] [(0, .grow (List.map (AV.int .u8) v3))] 1 (by simp [h1, h1_]) (by simp [h1, h1_]) (by simp) ?_
    simp only [Option.some.injEq] at hF
    subst hF
    refine AW.ret (hQ _ _ _ ?_ (matchO_0 ?_)).1
    · simp [Try.f84, h1, h1_]
    · simp [h1, h1_]
set_option maxHeartbeats 4000000 in
theorem w_ref25_Commit (k : Nat) (v0 : Int) (v1 : ByteArray) (v2 : ByteArray) (v3 : Int) (hF : ref25_Commit k v0 v1 = some (v2, v3)) :
    FCall Try.prog 45 [AV.int .i64 v0, AV.str v1] [] (AV.tup [AV.str v2, AV.int .i64 v3]) [] := by
  unfold ref25_Commit at hF
  refine FCall.enter Try.func45 rfl (by simp) (by decide) (by simp) (by simp) (by simp) (by simp) (by simp) ?_
  intro c0 w0 Q h0 hQ
  refine AW.wk [(0, AV.int .i64 v0), (1, AV.str v1)] [] 0 (by simp) (by simp) (by simp) ?_
  refine AW.seqR mixed [] [none, none] (by kernel_rfl) fun G15 R15 hG15 hR15 => ?_
  try simp
  repeat' apply And.intro
  any_goals (first | exact hG15 _ (by kernel_rfl) | refine hR15 _ _ _ ?_ | omega | (unfold maxLen; omega) | (simp; done) | (simp; omega))
  refine AW.wk [(0, AV.int .i64 v0), (1, AV.str v1)] [] 0 (by simp) (by simp) (by simp) ?_
  refine AW.seq fun K19 hK19 => ?_
  refine AW.seqR mixed [] [none, none, none, some (8, false), some (8, false), none] (by kernel_rfl) fun G20 R20 hG20 hR20 => ?_
  by_cases h1 : v0 < 0
  · replace hF := ite_t h1 hF
    have h1_ := h1
    try simp at h1_
    try simp [h1, h1_]
    repeat' apply And.intro
    any_goals (first | exact hG20 _ (by kernel_rfl) | refine hR20 _ _ _ ?_ | omega | (unfold maxLen; omega) | (simp [h1, h1_]; done) | (simp [h1, h1_]; omega))
    refine AW.wk [(0, AV.int .i64 v0), (1, AV.str v1), (11, AV.bool true)] [] 0 (by simp [h1, h1_]) (by simp [h1, h1_]) (by simp) ?_
    refine AW.condT (by decide) (by simp [h1, h1_]) ?_
    refine AW.seqR mixed [] [none, none] (by kernel_rfl) fun G21 R21 hG21 hR21 => ?_
    try simp [h1, h1_]
    repeat' apply And.intro
    any_goals (first | exact hG21 _ (by kernel_rfl) | refine hR21 _ _ _ ?_ | omega | (unfold maxLen; omega) | (simp [h1, h1_]; done) | (simp [h1, h1_]; omega))
    refine AW.wk [(4, AV.str (ByteArray.mk #[])), (5, AV.int .i64 2)] [] 0 (by simp [h1, h1_]) (by simp [h1, h1_]) (by simp) ?_
    simp only [Option.some.injEq, Prod.mk.injEq] at hF
    obtain ⟨e0, e1⟩ := hF
    subst e0 e1
    refine AW.ret (hQ _ _ _ ?_ (matchO_0 ?_)).1
    · simp [Try.f45, h1, h1_]
    · simp [h1, h1_]
  · replace hF := ite_f h1 hF
    have h1_ := h1
    try simp at h1_
    try simp [h1, h1_]
    repeat' apply And.intro
    any_goals (first | exact hG20 _ (by kernel_rfl) | refine hR20 _ _ _ ?_ | omega | (unfold maxLen; omega) | (simp [h1, h1_]; done) | (simp [h1, h1_]; omega))
    refine AW.wk [(0, AV.int .i64 v0), (1, AV.str v1), (11, AV.bool (decide (4294967296 ≤ v0)))] [] 0 (by simp [h1, h1_]) (by simp [h1, h1_]) (by simp) ?_
    by_cases h2 : 4294967296 ≤ v0
    · replace hF := ite_t h2 hF
      have h2_ := h2
      try simp at h2_
      refine AW.condT (by decide) (by first | (simp [h1, h1_, h2, h2_]; done) | (simp [h1, h1_, h2, h2_]; omega)) ?_
      refine AW.seqR mixed [] [none, none] (by kernel_rfl) fun G22 R22 hG22 hR22 => ?_
      try simp [h1, h1_, h2, h2_]
      repeat' apply And.intro
      any_goals (first | exact hG22 _ (by kernel_rfl) | refine hR22 _ _ _ ?_ | omega | (unfold maxLen; omega) | (simp [h1, h1_, h2, h2_]; done) | (simp [h1, h1_, h2, h2_]; omega))
      refine AW.wk [(4, AV.str (ByteArray.mk #[])), (5, AV.int .i64 2)] [] 0 (by simp [h1, h1_, h2, h2_]) (by simp [h1, h1_, h2, h2_]) (by simp) ?_
      simp only [Option.some.injEq, Prod.mk.injEq] at hF
      obtain ⟨e0, e1⟩ := hF
      subst e0 e1
      refine AW.ret (hQ _ _ _ ?_ (matchO_0 ?_)).1
      · simp [Try.f45, h1, h1_, h2, h2_]
      · simp [h1, h1_, h2, h2_]
    · replace hF := ite_f h2 hF
      have h2_ := h2
      try simp at h2_
      refine AW.condF (by decide) (by first | (simp [h1, h1_, h2, h2_]; done) | (simp [h1, h1_, h2, h2_]; omega)) ?_
      refine AW.skip ?_
      refine hK19 _ _ _ ?_
      refine AW.seq fun K25 hK25 => ?_
      refine AW.seqR mixed [] [none, none, none] (by kernel_rfl) fun G26 R26 hG26 hR26 => ?_
      try simp [h1, h1_, h2, h2_]
      repeat' apply And.intro
      any_goals (first | exact hG26 _ (by kernel_rfl) | refine hR26 _ _ _ ?_ | omega | (unfold maxLen; omega) | (simp [h1, h1_, h2, h2_]; done) | (simp [h1, h1_, h2, h2_]; omega))
      refine AW.wk [(0, AV.int .i64 v0), (1, AV.str v1), (14, AV.bool (decide (64 < (v1.size : Int))))] [] 0 (by simp [h1, h1_, h2, h2_]) (by simp [h1, h1_, h2, h2_]) (by simp) ?_
      by_cases h3 : 64 < (v1.size : Int)
      · replace hF := ite_t h3 hF
        have h3_ := h3
        try simp at h3_
        refine AW.condT (by decide) (by first | (simp [h1, h1_, h2, h2_, h3, h3_]; done) | (simp [h1, h1_, h2, h2_, h3, h3_]; omega)) ?_
        refine AW.seqR mixed [] [none, none] (by kernel_rfl) fun G27 R27 hG27 hR27 => ?_
        try simp [h1, h1_, h2, h2_, h3, h3_]
        repeat' apply And.intro
        any_goals (first | exact hG27 _ (by kernel_rfl) | refine hR27 _ _ _ ?_ | omega | (unfold maxLen; omega) | (simp [h1, h1_, h2, h2_, h3, h3_]; done) | (simp [h1, h1_, h2, h2_, h3, h3_]; omega))
        refine AW.wk [(4, AV.str (ByteArray.mk #[])), (5, AV.int .i64 3)] [] 0 (by simp [h1, h1_, h2, h2_, h3, h3_]) (by simp [h1, h1_, h2, h2_, h3, h3_]) (by simp) ?_
        simp only [Option.some.injEq, Prod.mk.injEq] at hF
        obtain ⟨e0, e1⟩ := hF
        subst e0 e1
        refine AW.ret (hQ _ _ _ ?_ (matchO_0 ?_)).1
        · simp [Try.f45, h1, h1_, h2, h2_, h3, h3_]
        · simp [h1, h1_, h2, h2_, h3, h3_]
      · replace hF := ite_f h3 hF
        have h3_ := h3
        try simp at h3_
        refine AW.condF (by decide) (by first | (simp [h1, h1_, h2, h2_, h3, h3_]; done) | (simp [h1, h1_, h2, h2_, h3, h3_]; omega)) ?_
        refine AW.skip ?_
        refine hK25 _ _ _ ?_
        refine AW.seqR mixed [] [none, none, none, none, none, none, none] (by kernel_rfl) fun G28 R28 hG28 hR28 => ?_
        try simp [h1, h1_, h2, h2_, h3, h3_]
        repeat' apply And.intro
        try any_goals (first | omega | (unfold maxLen; omega) | (simp [h1, h1_, h2, h2_, h3, h3_]; done))
        obtain ⟨v4, h4, hF⟩ := bnd1_elim hF
        refine aCall_l (w_ref25_number_v2 k _ _ h4) (by simp) [] [] [] rfl (.cons (.same (by simp [h1, h1_, h2, h2_, h3, h3_])) (.cons (.same (by simp [h1, h1_, h2, h2_, h3, h3_])) .nil)) (by simp [h1, h1_, h2, h2_, h3, h3_]) (by decide) (by simp) (by simp) (.inl rfl) (by simp) (by simp) ?_
        obtain ⟨h5, hF⟩ := chk_elim hF
        have h5_ := h5
        try simp at h5_
        try simp [h1, h1_, h2, h2_, h3, h3_, h5]
        repeat' apply And.intro
        try any_goals (first | omega | (unfold maxLen; omega) | (simp [h1, h1_, h2, h2_, h3, h3_, h5]; done))
        obtain ⟨v5, h6, hF⟩ := bnd1_elim hF
        refine aCall_l (w_ref01_Sum k _ _ h6) (by simp) [] [1] [] rfl (.cons (Coe.l (o := .grow (List.map (AV.int .u8) (v4 ++ (bI v1)))) (by simp [h1, h1_, h2, h2_, h3, h3_, h5]) rfl (by simp [h1, h1_, h2, h2_, h3, h3_, h5]) (by simp [noIdsL]) (by simp [h1, h1_, h2, h2_, h3, h3_, h5]) (by simp [h1, h1_, h2, h2_, h3, h3_, h5])) .nil) (by simp [h1, h1_, h2, h2_, h3, h3_, h5]) (by decide) (by simp) (by simp) (.inr ⟨by simp, by simp⟩) (by simp) (by simp) ?_
        try simp [h1, h1_, h2, h2_, h3, h3_, h5]
        repeat' apply And.intro
        any_goals (first | exact hG28 _ (by kernel_rfl) | refine hR28 _ _ _ ?_ | omega | (unfold maxLen; omega) | (simp [h1, h1_, h2, h2_, h3, h3_, h5]; done) | (simp [h1, h1_, h2, h2_, h3, h3_, h5]; omega))
        refine AW.wk [(4, AV.str v5), (5, AV.int .i64 0)] [] 2 (by simp [h1, h1_, h2, h2_, h3, h3_, h5]) (by simp [h1, h1_, h2, h2_, h3, h3_, h5]) (by simp) ?_
        simp only [Option.some.injEq, Prod.mk.injEq] at hF
        obtain ⟨e0, e1⟩ := hF
        subst e0 e1
        refine AW.ret (hQ _ _ _ ?_ (matchO_0 ?_)).1
        · simp [Try.f45, h1, h1_, h2, h2_, h3, h3_, h5]
        · simp [h1, h1_, h2, h2_, h3, h3_, h5]
set_option maxHeartbeats 4000000 in
theorem w_ref23_SameInts (k : Nat) (v0 : (List Int)) (v1 : (List Int)) (v2 : Bool) (hF : ref23_SameInts k v0 v1 = some v2) :
    FCall Try.prog 32 [AV.lst false false (List.map (AV.int .i64) v0), AV.lst false false (List.map (AV.int .i64) v1)] [] (AV.bool v2) [] := by
  unfold ref23_SameInts at hF
  refine FCall.enter Try.func32 rfl (by simp) (by decide) (by simp) (by simp) (by simp) (by simp) (by simp) ?_
  intro c0 w0 Q h0 hQ
  refine AW.wk [(0, AV.lst false false (List.map (AV.int .i64) v0)), (1, AV.lst false false (List.map (AV.int .i64) v1))] [] 0 (by simp) (by simp) (by simp) ?_
  refine AW.seqR mixed [] [none] (by kernel_rfl) fun G85 R85 hG85 hR85 => ?_
  try simp
  repeat' apply And.intro
  any_goals (first | exact hG85 _ (by kernel_rfl) | refine hR85 _ _ _ ?_ | omega | (unfold maxLen; omega) | (simp; done) | (simp; omega))
  refine AW.wk [(0, AV.lst false false (List.map (AV.int .i64) v0)), (1, AV.lst false false (List.map (AV.int .i64) v1))] [] 0 (by simp) (by simp) (by simp) ?_
  refine AW.seq fun K88 hK88 => ?_
  refine AW.seqR mixed [] [none, none, none, none, none] (by kernel_rfl) fun G89 R89 hG89 hR89 => ?_
  try simp
  repeat' apply And.intro
  any_goals (first | exact hG89 _ (by kernel_rfl) | refine hR89 _ _ _ ?_ | omega | (unfold maxLen; omega) | (simp; done) | (simp; omega))
  refine AW.wk [(0, AV.lst false false (List.map (AV.int .i64) v0)), (1, AV.lst false false (List.map (AV.int .i64) v1)), (10, AV.bool ((v0.length : Int) != (v1.length : Int)))] [] 0 (by simp) (by simp) (by simp) ?_
  by_cases h1 : (v0.length : Int) ≠ (v1.length : Int)
  · replace hF := ite_t h1 hF
    have h1_ := eqb_f h1
    have h1__ := neb_t h1
    refine AW.condT (by decide) (by first | (simp [h1, h1_, h1__]; done) | (simp [h1, h1_, h1__]; omega)) ?_
    refine AW.seqR mixed [] [none] (by kernel_rfl) fun G90 R90 hG90 hR90 => ?_
    try simp [h1, h1_, h1__]
    repeat' apply And.intro
    any_goals (first | exact hG90 _ (by kernel_rfl) | refine hR90 _ _ _ ?_ | omega | (unfold maxLen; omega) | (simp [h1, h1_, h1__]; done) | (simp [h1, h1_, h1__]; omega))
    refine AW.wk [(4, AV.bool false)] [] 0 (by simp [h1, h1_, h1__]) (by simp [h1, h1_, h1__]) (by simp) ?_
    simp only [Option.some.injEq] at hF
    subst hF
    refine AW.ret (hQ _ _ _ ?_ (matchO_0 ?_)).1
    · simp [Try.f32, h1, h1_, h1__]
    · simp [h1, h1_, h1__]
  · replace hF := ite_f h1 hF
    have h1q : (v0.length : Int) = (v1.length : Int) := Classical.not_not.1 h1
    have h1_ := eqb_t h1q
    have h1__ := neb_f h1q
    refine AW.condF (by decide) (by first | (simp [h1_, h1__]; done) | (simp [h1_, h1__]; omega)) ?_
    refine AW.skip ?_
    refine hK88 _ _ _ ?_
    refine AW.seq fun K129 hK129 => ?_
    refine AW.seqR mixed [] [none] (by kernel_rfl) fun G130 R130 hG130 hR130 => ?_
    try simp [h1_, h1__]
    repeat' apply And.intro
    any_goals (first | exact hG130 _ (by kernel_rfl) | refine hR130 _ _ _ ?_ | omega | (unfold maxLen; omega) | (simp [h1_, h1__]; done) | (simp [h1_, h1__]; omega))
    refine AW.wk [(0, AV.lst false false (List.map (AV.int .i64) v0)), (1, AV.lst false false (List.map (AV.int .i64) v1)), (5, AV.int .i64 0)] [] 0 (by simp [h1_, h1__]) (by simp [h1_, h1__]) (by simp) ?_
    refine AW.block ?_
    refine AW.loopF (α := Int) (fun n v3 => ref23_SameInts.L1 k v0 v1 n v3 = some v2) (fun v3 => [(0, AV.lst false false (List.map (AV.int .i64) v0)), (1, AV.lst false false (List.map (AV.int .i64) v1)), (5, AV.int .i64 v3)]) (fun v3 => []) 0 k (0) hF (by simp [h1_, h1__]) (by simp [h1_, h1__]) (by simp) ?_
    rintro (_|n1) v3 hF K158 hK158
    · try dsimp only at hF
      rw [ref23_SameInts.L1] at hF; cases hF
    try dsimp only at hF
    rw [ref23_SameInts.L1] at hF
    refine AW.seq fun K160 hK160 => ?_
    refine AW.seqR mixed [] [none, none, none, none] (by kernel_rfl) fun G161 R161 hG161 hR161 => ?_
    try simp [h1_, h1__]
    repeat' apply And.intro
    any_goals (first | exact hG161 _ (by kernel_rfl) | refine hR161 _ _ _ ?_ | omega | (unfold maxLen; omega) | (simp [h1_, h1__]; done) | (simp [h1_, h1__]; omega))
    refine AW.wk [(0, AV.lst false false (List.map (AV.int .i64) v0)), (1, AV.lst false false (List.map (AV.int .i64) v1)), (5, AV.int .i64 v3), (14, AV.bool (decide (v3 < (v0.length : Int))))] [] 0 (by simp [h1_, h1__]) (by simp [h1_, h1__]) (by simp) ?_
    by_cases h2 : v3 < (v0.length : Int)
    · replace hF := ite_t h2 hF
      have h2_ := h2
      try simp at h2_
      refine AW.condT (by decide) (by first | (simp [h1_, h1__, h2, h2_]; done) | (simp [h1_, h1__, h2, h2_]; omega)) ?_
      refine AW.skip ?_
      refine hK160 _ _ _ ?_
      refine AW.seq fun K164 hK164 => ?_
      refine AW.block ?_
      refine AW.seqR mixed [] [none, none, none, none, none, none, none, none, none] (by kernel_rfl) fun G165 R165 hG165 hR165 => ?_
      obtain ⟨v4, h3, h4, h5, hF⟩ := idx_elim hF
      have h5_ := get_of h5
      try simp at h5_
      have h4_ := h4
      try simp at h4_
      obtain ⟨v5, h6, h7, h8, hF⟩ := idx_elim hF
      have h8_ := get_of h8
      try simp at h8_
      have h7_ := h7
      try simp at h7_
      try simp [h1_, h1__, h2, h2_, h3, h4, h5, h5_, h4_, h6, h7, h8, h8_, h7_]
      repeat' apply And.intro
      any_goals (first | exact hG165 _ (by kernel_rfl) | refine hR165 _ _ _ ?_ | omega | (unfold maxLen; omega) | (simp [h1_, h1__, h2, h2_, h3, h4, h5, h5_, h4_, h6, h7, h8, h8_, h7_]; done) | (simp [h1_, h1__, h2, h2_, h3, h4, h5, h5_, h4_, h6, h7, h8, h8_, h7_]; omega))
      refine AW.wk [(0, AV.lst false false (List.map (AV.int .i64) v0)), (1, AV.lst false false (List.map (AV.int .i64) v1)), (5, AV.int .i64 v3), (25, AV.bool (v4 != v5))] [] 0 (by simp [h1_, h1__, h2, h2_, h3, h4, h5, h5_, h4_, h6, h7, h8, h8_, h7_]) (by simp [h1_, h1__, h2, h2_, h3, h4, h5, h5_, h4_, h6, h7, h8, h8_, h7_]) (by simp) ?_
      by_cases h9 : v4 ≠ v5
      · replace hF := ite_t h9 hF
        have h9_ := eqb_f h9
        have h9__ := neb_t h9
        refine AW.condT (by decide) (by first | (simp [h1_, h1__, h2, h2_, h3, h4, h5, h5_, h4_, h6, h7, h8, h8_, h7_, h9, h9_, h9__]; done) | (simp [h1_, h1__, h2, h2_, h3, h4, h5, h5_, h4_, h6, h7, h8, h8_, h7_, h9, h9_, h9__]; omega)) ?_
        refine AW.seqR mixed [] [none] (by kernel_rfl) fun G166 R166 hG166 hR166 => ?_
        try simp [h1_, h1__, h2, h2_, h3, h4, h5, h5_, h4_, h6, h7, h8, h8_, h7_, h9, h9_, h9__]
        repeat' apply And.intro
        any_goals (first | exact hG166 _ (by kernel_rfl) | refine hR166 _ _ _ ?_ | omega | (unfold maxLen; omega) | (simp [h1_, h1__, h2, h2_, h3, h4, h5, h5_, h4_, h6, h7, h8, h8_, h7_, h9, h9_, h9__]; done) | (simp [h1_, h1__, h2, h2_, h3, h4, h5, h5_, h4_, h6, h7, h8, h8_, h7_, h9, h9_, h9__]; omega))
        refine AW.wk [(4, AV.bool false)] [] 0 (by simp [h1_, h1__, h2, h2_, h3, h4, h5, h5_, h4_, h6, h7, h8, h8_, h7_, h9, h9_, h9__]) (by simp [h1_, h1__, h2, h2_, h3, h4, h5, h5_, h4_, h6, h7, h8, h8_, h7_, h9, h9_, h9__]) (by simp) ?_
        simp only [Option.some.injEq] at hF
        subst hF
        refine AW.ret (hQ _ _ _ ?_ (matchO_0 ?_)).1
        · simp [Try.f32, h1_, h1__, h2, h2_, h3, h4, h5, h5_, h4_, h6, h7, h8, h8_, h7_, h9, h9_, h9__]
        · simp [h1_, h1__, h2, h2_, h3, h4, h5, h5_, h4_, h6, h7, h8, h8_, h7_, h9, h9_, h9__]
      · replace hF := ite_f h9 hF
        have h9q : v4 = v5 := Classical.not_not.1 h9
        have h9_ := eqb_t h9q
        have h9__ := neb_f h9q
        refine AW.condF (by decide) (by first | (simp [h1_, h1__, h2, h2_, h3, h4, h5, h5_, h4_, h6, h7, h8, h8_, h7_, h9_, h9__]; done) | (simp [h1_, h1__, h2, h2_, h3, h4, h5, h5_, h4_, h6, h7, h8, h8_, h7_, h9_, h9__]; omega)) ?_
        refine AW.skip ?_
        refine hK164 _ _ _ ?_
        refine AW.region mixed [] [none, none, none] (by kernel_rfl) fun G167 R167 hG167 hR167 => ?_
        try simp [h1_, h1__, h2, h2_, h3, h4, h5, h5_, h4_, h6, h7, h8, h8_, h7_, h9_, h9__]
        repeat' apply And.intro
        any_goals (first | exact hG167 _ (by kernel_rfl) | refine hR167 _ _ _ ?_ | omega | (unfold maxLen; omega) | (simp [h1_, h1__, h2, h2_, h3, h4, h5, h5_, h4_, h6, h7, h8, h8_, h7_, h9_, h9__]; done) | (simp [h1_, h1__, h2, h2_, h3, h4, h5, h5_, h4_, h6, h7, h8, h8_, h7_, h9_, h9__]; omega))
        refine hK158 _ _ _ ?_
        refine Can.weak [(0, AV.lst false false (List.map (AV.int .i64) v0)), (1, AV.lst false false (List.map (AV.int .i64) v1)), (5, AV.int .i64 (IntKind.wrap .i64 (v3 + 1)))] [] 0 (by simp [h1_, h1__, h2, h2_, h3, h4, h5, h5_, h4_, h6, h7, h8, h8_, h7_, h9_, h9__]) (by simp [h1_, h1__, h2, h2_, h3, h4, h5, h5_, h4_, h6, h7, h8, h8_, h7_, h9_, h9__]) (by simp) ?_
        exact Can.next (k' := n1) (IntKind.wrap .i64 (v3 + 1)) (by omega) hF (by simp [h1_, h1__, h2, h2_, h3, h4, h5, h5_, h4_, h6, h7, h8, h8_, h7_, h9_, h9__]) (by simp [h1_, h1__, h2, h2_, h3, h4, h5, h5_, h4_, h6, h7, h8, h8_, h7_, h9_, h9__]) (by simp)
    · replace hF := ite_f h2 hF
      have h2_ := h2
      try simp at h2_
      refine AW.condF (by decide) (by first | (simp [h1_, h1__, h2, h2_]; done) | (simp [h1_, h1__, h2, h2_]; omega)) ?_
      refine AW.exit ?_
      try simp
      refine hK129 _ _ _ ?_
      refine AW.seqR mixed [] [none] (by kernel_rfl) fun G168 R168 hG168 hR168 => ?_
      try simp [h1_, h1__, h2, h2_]
      repeat' apply And.intro
      any_goals (first | exact hG168 _ (by kernel_rfl) | refine hR168 _ _ _ ?_ | omega | (unfold maxLen; omega) | (simp [h1_, h1__, h2, h2_]; done) | (simp [h1_, h1__, h2, h2_]; omega))
      refine AW.wk [(4, AV.bool true)] [] 0 (by simp [h1_, h1__, h2, h2_]) (by simp [h1_, h1__, h2, h2_]) (by simp) ?_
      simp only [Option.some.injEq] at hF
      subst hF
      refine AW.ret (hQ _ _ _ ?_ (matchO_0 ?_)).1
      · simp [Try.f32, h1_, h1__, h2, h2_]
      · simp [h1_, h1__, h2, h2_]
set_option maxHeartbeats 4000000 in
theorem w_ref25_Opens (k : Nat) (v0 : ByteArray) (v1 : Int) (v2 : ByteArray) (v3 : Bool) (hF : ref25_Opens k v0 v1 v2 = some v3) :
    FCall Try.prog 47 [AV.str v0, AV.int .i64 v1, AV.str v2] [] (AV.bool v3) [] := by
  unfold ref25_Opens at hF
  refine FCall.enter Try.func47 rfl (by simp) (by decide) (by simp) (by simp) (by simp) (by simp) (by simp) ?_
  intro c0 w0 Q h0 hQ
  refine AW.wk [(0, AV.str v0), (1, AV.int .i64 v1), (2, AV.str v2)] [] 0 (by simp) (by simp) (by simp) ?_
  refine AW.seqR mixed [] [none] (by kernel_rfl) fun G4 R4 hG4 hR4 => ?_
  try simp
  repeat' apply And.intro
  any_goals (first | exact hG4 _ (by kernel_rfl) | refine hR4 _ _ _ ?_ | omega | (unfold maxLen; omega) | (simp; done) | (simp; omega))
  refine AW.wk [(0, AV.str v0), (1, AV.int .i64 v1), (2, AV.str v2)] [] 0 (by simp) (by simp) (by simp) ?_
  refine AW.seqR mixed [] [none, none, none, none, none, none, none, none] (by kernel_rfl) fun G5 R5 hG5 hR5 => ?_
  try simp
  repeat' apply And.intro
  try any_goals (first | omega | (unfold maxLen; omega) | (simp; done))
  obtain ⟨v4, v5, h1, hF⟩ := bnd2_elim hF
  refine aCall_l (w_ref25_Commit k _ _ _ _ h1) (by simp) [] [] [] rfl (.cons (.same (by simp)) (.cons (.same (by simp)) .nil)) (by simp) (by decide) (by simp) (by simp) (.inl rfl) (by simp) (by simp) ?_
  try simp
  repeat' apply And.intro
  any_goals (first | exact hG5 _ (by kernel_rfl) | refine hR5 _ _ _ ?_ | omega | (unfold maxLen; omega) | (simp; done) | (simp; omega))
  refine AW.wk [(0, AV.str v0), (7, AV.str v4), (8, AV.int .i64 v5)] [] 0 (by simp) (by simp) (by simp) ?_
  refine AW.seqR mixed [] [none, none, none, some (17, true), some (17, true), some (17, true), none, none] (by kernel_rfl) fun G6 R6 hG6 hR6 => ?_
  by_cases h2 : v5 = 0
  · replace hF := ite_t h2 hF
    have h2q : v5 = 0 := h2
    have h2_ := eqb_t h2q
    have h2__ := neb_f h2q
    try simp [h2_, h2__, h2q]
    repeat' apply And.intro
    any_goals (first | exact hG6 _ (by kernel_rfl) | refine hR6 _ _ _ ?_ | omega | (unfold maxLen; omega) | (simp [h2_, h2__, h2q]; done) | (simp [h2_, h2__, h2q]; omega))
    refine AW.wk [(6, AV.bool (strEq v4 v0))] [] 0 (by simp [h2_, h2__, h2q]) (by simp [h2_, h2__, h2q]) (by simp) ?_
    simp only [Option.some.injEq] at hF
    subst hF
    refine AW.ret (hQ _ _ _ ?_ (matchO_0 ?_)).1
    · simp [Try.f47, h2_, h2__, h2q]
    · simp [h2_, h2__, h2q]
  · replace hF := ite_f h2 hF
    have h2_ := eqb_f h2
    have h2__ := neb_t h2
    try simp [h2, h2_, h2__]
    repeat' apply And.intro
    any_goals (first | exact hG6 _ (by kernel_rfl) | refine hR6 _ _ _ ?_ | omega | (unfold maxLen; omega) | (simp [h2, h2_, h2__]; done) | (simp [h2, h2_, h2__]; omega))
    refine AW.wk [(6, AV.bool false)] [] 0 (by simp [h2, h2_, h2__]) (by simp [h2, h2_, h2__]) (by simp) ?_
    simp only [Option.some.injEq] at hF
    subst hF
    refine AW.ret (hQ _ _ _ ?_ (matchO_0 ?_)).1
    · simp [Try.f47, h2, h2_, h2__]
    · simp [h2, h2_, h2__]
set_option maxHeartbeats 4000000 in
theorem w_made_Mod (k : Nat) (v0 : Int) (v1 : Int) (v2 : Int) (hF : made_Mod k v0 v1 = some v2) :
    FCall Try.prog 12 [AV.int .i64 v0, AV.int .i64 v1] [] (AV.int .i64 v2) [] := by
  unfold made_Mod at hF
  refine FCall.enter Try.func12 rfl (by simp) (by decide) (by simp) (by simp) (by simp) (by simp) (by simp) ?_
  intro c0 w0 Q h0 hQ
  refine AW.wk [(0, AV.int .i64 v0), (1, AV.int .i64 v1)] [] 0 (by simp) (by simp) (by simp) ?_
  refine AW.seqR mixed [] [none] (by kernel_rfl) fun G14 R14 hG14 hR14 => ?_
  try simp
  repeat' apply And.intro
  any_goals (first | exact hG14 _ (by kernel_rfl) | refine hR14 _ _ _ ?_ | omega | (unfold maxLen; omega) | (simp; done) | (simp; omega))
  refine AW.wk [(0, AV.int .i64 v0), (1, AV.int .i64 v1)] [] 0 (by simp) (by simp) (by simp) ?_
  refine AW.seq fun K17 hK17 => ?_
  refine AW.seqR mixed [] [none, none] (by kernel_rfl) fun G18 R18 hG18 hR18 => ?_
  try simp
  repeat' apply And.intro
  any_goals (first | exact hG18 _ (by kernel_rfl) | refine hR18 _ _ _ ?_ | omega | (unfold maxLen; omega) | (simp; done) | (simp; omega))
  refine AW.wk [(0, AV.int .i64 v0), (1, AV.int .i64 v1), (6, AV.bool (decide (v1 < 1)))] [] 0 (by simp) (by simp) (by simp) ?_
  by_cases h1 : v1 < 1
  · replace hF := ite_t h1 hF
    have h1_ := h1
    try simp at h1_
    refine AW.condT (by decide) (by first | (simp [h1, h1_]; done) | (simp [h1, h1_]; omega)) ?_
    refine AW.seqR mixed [] [none] (by kernel_rfl) fun G19 R19 hG19 hR19 => ?_
    try simp [h1, h1_]
    repeat' apply And.intro
    any_goals (first | exact hG19 _ (by kernel_rfl) | refine hR19 _ _ _ ?_ | omega | (unfold maxLen; omega) | (simp [h1, h1_]; done) | (simp [h1, h1_]; omega))
    refine AW.wk [(4, AV.int .i64 0)] [] 0 (by simp [h1, h1_]) (by simp [h1, h1_]) (by simp) ?_
    simp only [Option.some.injEq] at hF
    subst hF
    refine AW.ret (hQ _ _ _ ?_ (matchO_0 ?_)).1
    · simp [Try.f12, h1, h1_]
    · simp [h1, h1_]
  · replace hF := ite_f h1 hF
    have h1_ := h1
    try simp at h1_
    refine AW.condF (by decide) (by first | (simp [h1, h1_]; done) | (simp [h1, h1_]; omega)) ?_
    refine AW.skip ?_
    refine hK17 _ _ _ ?_
    refine AW.seqR mixed [] [none, none, none, none] (by kernel_rfl) fun G20 R20 hG20 hR20 => ?_
    obtain ⟨h2, hF⟩ := chk_elim hF
    have h2_ := h2
    try simp at h2_
    try simp [h1, h1_, h2, h2_]
    repeat' apply And.intro
    any_goals (first | exact hG20 _ (by kernel_rfl) | refine hR20 _ _ _ ?_ | omega | (unfold maxLen; omega) | (simp [h1, h1_, h2, h2_]; done) | (simp [h1, h1_, h2, h2_]; omega))
    refine AW.wk [(0, AV.int .i64 (Int.tmod v0 v1)), (1, AV.int .i64 v1)] [] 0 (by simp [h1, h1_, h2, h2_]) (by simp [h1, h1_, h2, h2_]) (by simp) ?_
    refine AW.midF (α := Int) (fun v3 => made_Mod.J1 k v3 = some v2) (fun v3 => [(0, AV.int .i64 v3)]) (fun v3 => []) 0 (fun K24 hK24 => ?_) ?_
    · refine AW.seqR mixed [] [none, none] (by kernel_rfl) fun G25 R25 hG25 hR25 => ?_
      try simp [h1, h1_, h2, h2_]
      repeat' apply And.intro
      any_goals (first | exact hG25 _ (by kernel_rfl) | refine hR25 _ _ _ ?_ | omega | (unfold maxLen; omega) | (simp [h1, h1_, h2, h2_]; done) | (simp [h1, h1_, h2, h2_]; omega))
      refine AW.wk [(0, AV.int .i64 (Int.tmod v0 v1)), (1, AV.int .i64 v1), (11, AV.bool (decide (Int.tmod v0 v1 < 0)))] [] 0 (by simp [h1, h1_, h2, h2_]) (by simp [h1, h1_, h2, h2_]) (by simp) ?_
      by_cases h3 : Int.tmod v0 v1 < 0
      · replace hF := ite_t h3 hF
        have h3_ := h3
        try simp at h3_
        refine AW.condT (by decide) (by first | (simp [h1, h1_, h2, h2_, h3, h3_]; done) | (simp [h1, h1_, h2, h2_, h3, h3_]; omega)) ?_
        refine AW.region mixed [] [none, none, none, none] (by kernel_rfl) fun G26 R26 hG26 hR26 => ?_
        try simp [h1, h1_, h2, h2_, h3, h3_]
        repeat' apply And.intro
        any_goals (first | exact hG26 _ (by kernel_rfl) | refine hR26 _ _ _ ?_ | omega | (unfold maxLen; omega) | (simp [h1, h1_, h2, h2_, h3, h3_]; done) | (simp [h1, h1_, h2, h2_, h3, h3_]; omega))
        refine hK24 _ _ _ ?_
        refine Can.weak [(0, AV.int .i64 (IntKind.wrap .i64 (Int.tmod v0 v1 + v1)))] [] 0 (by simp [h1, h1_, h2, h2_, h3, h3_]) (by simp [h1, h1_, h2, h2_, h3, h3_]) (by simp) ?_
        exact Can.join (IntKind.wrap .i64 (Int.tmod v0 v1 + v1)) hF (by simp [h1, h1_, h2, h2_, h3, h3_]) (by simp [h1, h1_, h2, h2_, h3, h3_]) (by simp)
      · replace hF := ite_f h3 hF
        have h3_ := h3
        try simp at h3_
        refine AW.condF (by decide) (by first | (simp [h1, h1_, h2, h2_, h3, h3_]; done) | (simp [h1, h1_, h2, h2_, h3, h3_]; omega)) ?_
        refine AW.skip ?_
        refine hK24 _ _ _ ?_
        exact Can.join (Int.tmod v0 v1) hF (by simp [h1, h1_, h2, h2_, h3, h3_]) (by simp [h1, h1_, h2, h2_, h3, h3_]) (by simp)
    · rintro v3 hF
      try dsimp only at hF
      unfold made_Mod.J1 at hF
      refine AW.seqR mixed [] [none, none] (by kernel_rfl) fun G23 R23 hG23 hR23 => ?_
      try simp [h1, h1_, h2, h2_]
      repeat' apply And.intro
      any_goals (first | exact hG23 _ (by kernel_rfl) | refine hR23 _ _ _ ?_ | omega | (unfold maxLen; omega) | (simp [h1, h1_, h2, h2_]; done) | (simp [h1, h1_, h2, h2_]; omega))
      refine AW.wk [(4, AV.int .i64 v3)] [] 0 (by simp [h1, h1_, h2, h2_]) (by simp [h1, h1_, h2, h2_]) (by simp) ?_
      simp only [Option.some.injEq] at hF
      subst hF
      refine AW.ret (hQ _ _ _ ?_ (matchO_0 ?_)).1
      · simp [Try.f12, h1, h1_, h2, h2_]
      · simp [h1, h1_, h2, h2_]
set_option maxHeartbeats 4000000 in
theorem w_mill_Mod (k : Nat) (v0 : Int) (v1 : Int) (v2 : Int) (hF : mill_Mod k v0 v1 = some v2) :
    FCall Try.prog 25 [AV.int .i64 v0, AV.int .i64 v1] [] (AV.int .i64 v2) [] := by
  unfold mill_Mod at hF
  refine FCall.enter Try.func25 rfl (by simp) (by decide) (by simp) (by simp) (by simp) (by simp) (by simp) ?_
  intro c0 w0 Q h0 hQ
  refine AW.wk [(0, AV.int .i64 v0), (1, AV.int .i64 v1)] [] 0 (by simp) (by simp) (by simp) ?_
  refine AW.seqR mixed [] [none] (by kernel_rfl) fun G3 R3 hG3 hR3 => ?_
  try simp
  repeat' apply And.intro
  any_goals (first | exact hG3 _ (by kernel_rfl) | refine hR3 _ _ _ ?_ | omega | (unfold maxLen; omega) | (simp; done) | (simp; omega))
  refine AW.wk [(0, AV.int .i64 v0), (1, AV.int .i64 v1)] [] 0 (by simp) (by simp) (by simp) ?_
  refine AW.seqR mixed [] [none, none, none, none] (by kernel_rfl) fun G4 R4 hG4 hR4 => ?_
  try simp
  repeat' apply And.intro
  try any_goals (first | omega | (unfold maxLen; omega) | (simp; done))
  obtain ⟨v3, h1, hF⟩ := bnd1_elim hF
  refine aCall_l (w_made_Mod k _ _ _ h1) (by simp) [] [] [] rfl (.cons (.same (by simp)) (.cons (.same (by simp)) .nil)) (by simp) (by decide) (by simp) (by simp) (.inl rfl) (by simp) (by simp) ?_
  try simp
  repeat' apply And.intro
  any_goals (first | exact hG4 _ (by kernel_rfl) | refine hR4 _ _ _ ?_ | omega | (unfold maxLen; omega) | (simp; done) | (simp; omega))
  refine AW.wk [(4, AV.int .i64 v3)] [] 0 (by simp) (by simp) (by simp) ?_
  simp only [Option.some.injEq] at hF
  subst hF
  refine AW.ret (hQ _ _ _ ?_ (matchO_0 ?_)).1
  · simp [Try.f25]
  · simp
set_option maxHeartbeats 4000000 in
theorem w_law25_BeaconRaw (k : Nat) (v0 : ByteArray) (v1 : ByteArray) (v2 : (List Int)) (v3 : Int) (v4 : Bool) (hF : law25_BeaconRaw k v0 v1 v2 v3 = some v4) :
    FCall Try.prog 9 [AV.str v0, AV.str v1, AV.lst false false (List.map (AV.int .i64) v2), AV.int .i64 v3] [] (AV.bool v4) [] := by
  unfold law25_BeaconRaw at hF
  refine FCall.enter Try.func9 rfl (by simp) (by decide) (by simp) (by simp) (by simp) (by simp) (by simp) ?_
  intro c0 w0 Q h0 hQ
  refine AW.wk [(0, AV.str v0), (1, AV.str v1), (2, AV.lst false false (List.map (AV.int .i64) v2)), (3, AV.int .i64 v3)] [] 0 (by simp [-List.reduceReplicate, sOf_set, ofI_set, allU8_set]) (by simp [-List.reduceReplicate, sOf_set, ofI_set, allU8_set]) (by simp) ?_
  refine AW.seqR mixed [] [none] (by kernel_rfl) fun G1047 R1047 hG1047 hR1047 => ?_
  try simp [-List.reduceReplicate, sOf_set, ofI_set, allU8_set]
  repeat' apply And.intro
  any_goals (first | exact hG1047 _ (by kernel_rfl) | refine hR1047 _ _ _ ?_ | omega | (unfold maxLen; omega) | (simp [-List.reduceReplicate, sOf_set, ofI_set, allU8_set]; done) | (simp [-List.reduceReplicate, sOf_set, ofI_set, allU8_set]; omega))
  refine AW.wk [(0, AV.str v0), (1, AV.str v1), (2, AV.lst false false (List.map (AV.int .i64) v2)), (3, AV.int .i64 v3)] [] 0 (by simp [-List.reduceReplicate, sOf_set, ofI_set, allU8_set]) (by simp [-List.reduceReplicate, sOf_set, ofI_set, allU8_set]) (by simp) ?_
  refine AW.seq fun K1051 hK1051 => ?_
  refine AW.seqR mixed [] [none, none, none, none, some (30, false), some (30, false), some (30, false), some (30, false), some (30, false), some (30, false), none] (by kernel_rfl) fun G1052 R1052 hG1052 hR1052 => ?_
  by_cases h1 : 100 < (v2.length : Int)
  · replace hF := ite_t h1 hF
    have h1_ := h1
    try simp [-List.reduceReplicate] at h1_
    try simp [-List.reduceReplicate, sOf_set, ofI_set, allU8_set, h1, h1_]
    repeat' apply And.intro
    any_goals (first | exact hG1052 _ (by kernel_rfl) | refine hR1052 _ _ _ ?_ | omega | (unfold maxLen; omega) | (simp [-List.reduceReplicate, sOf_set, ofI_set, allU8_set, h1, h1_]; done) | (simp [-List.reduceReplicate, sOf_set, ofI_set, allU8_set, h1, h1_]; omega))
    refine AW.wk [(0, AV.str v0), (1, AV.str v1), (2, AV.lst false false (List.map (AV.int .i64) v2)), (3, AV.int .i64 v3), (37, AV.bool true)] [] 0 (by simp [-List.reduceReplicate, sOf_set, ofI_set, allU8_set, h1, h1_]) (by simp [-List.reduceReplicate, sOf_set, ofI_set, allU8_set, h1, h1_]) (by simp) ?_
    refine AW.condT (by decide) (by simp [-List.reduceReplicate, sOf_set, ofI_set, allU8_set, h1, h1_]) ?_
    refine AW.seqR mixed [] [none, none] (by kernel_rfl) fun G1053 R1053 hG1053 hR1053 => ?_
    try simp [-List.reduceReplicate, sOf_set, ofI_set, allU8_set, h1, h1_]
    repeat' apply And.intro
    try any_goals (first | omega | (unfold maxLen; omega) | (simp [-List.reduceReplicate, sOf_set, ofI_set, allU8_set, h1, h1_]; done))
    obtain ⟨v5, h2, hF⟩ := bnd1_elim hF
    refine aCall_l (w_law25_awake k _ h2) (by simp) [] [] [] rfl .nil (by simp [-List.reduceReplicate, sOf_set, ofI_set, allU8_set, h1, h1_]) (by decide) (by simp) (by simp) (.inl rfl) (by simp) (by simp) ?_
    try simp [-List.reduceReplicate, sOf_set, ofI_set, allU8_set, h1, h1_]
    repeat' apply And.intro
    any_goals (first | exact hG1053 _ (by kernel_rfl) | refine hR1053 _ _ _ ?_ | omega | (unfold maxLen; omega) | (simp [-List.reduceReplicate, sOf_set, ofI_set, allU8_set, h1, h1_]; done) | (simp [-List.reduceReplicate, sOf_set, ofI_set, allU8_set, h1, h1_]; omega))
    refine AW.wk [(8, AV.bool v5)] [] 0 (by simp [-List.reduceReplicate, sOf_set, ofI_set, allU8_set, h1, h1_]) (by simp [-List.reduceReplicate, sOf_set, ofI_set, allU8_set, h1, h1_]) (by simp) ?_
    simp only [Option.some.injEq] at hF
    subst hF
    refine AW.ret (hQ _ _ _ ?_ (matchO_0 ?_)).1
    · simp [Try.f9, h1, h1_]
    · simp [h1, h1_]
  · replace hF := ite_f h1 hF
    have h1_ := h1
    try simp [-List.reduceReplicate] at h1_
    try simp [-List.reduceReplicate, sOf_set, ofI_set, allU8_set, h1, h1_]
    repeat' apply And.intro
    any_goals (first | exact hG1052 _ (by kernel_rfl) | refine hR1052 _ _ _ ?_ | omega | (unfold maxLen; omega) | (simp [-List.reduceReplicate, sOf_set, ofI_set, allU8_set, h1, h1_]; done) | (simp [-List.reduceReplicate, sOf_set, ofI_set, allU8_set, h1, h1_]; omega))
    refine AW.wk [(0, AV.str v0), (1, AV.str v1), (2, AV.lst false false (List.map (AV.int .i64) v2)), (3, AV.int .i64 v3), (37, AV.bool (decide (300 < IntKind.wrap .i64 ((v0.size : Int) + (v1.size : Int)))))] [] 0 (by simp [-List.reduceReplicate, sOf_set, ofI_set, allU8_set, h1, h1_]) (by simp [-List.reduceReplicate, sOf_set, ofI_set, allU8_set, h1, h1_]) (by simp) ?_
    by_cases h3 : 300 < IntKind.wrap .i64 ((v0.size : Int) + (v1.size : Int))
    · replace hF := ite_t h3 hF
      have h3_ := h3
      try simp [-List.reduceReplicate] at h3_
      refine AW.condT (by decide) (by first | (simp [-List.reduceReplicate, sOf_set, ofI_set, allU8_set, h1, h1_, h3, h3_]; done) | (simp [-List.reduceReplicate, sOf_set, ofI_set, allU8_set, h1, h1_, h3, h3_]; omega)) ?_
      refine AW.seqR mixed [] [none, none] (by kernel_rfl) fun G1054 R1054 hG1054 hR1054 => ?_
      try simp [-List.reduceReplicate, sOf_set, ofI_set, allU8_set, h1, h1_, h3, h3_]
      repeat' apply And.intro
      try any_goals (first | omega | (unfold maxLen; omega) | (simp [-List.reduceReplicate, sOf_set, ofI_set, allU8_set, h1, h1_, h3, h3_]; done))
      obtain ⟨v6, h4, hF⟩ := bnd1_elim hF
      refine aCall_l (w_law25_awake k _ h4) (by simp) [] [] [] rfl .nil (by simp [-List.reduceReplicate, sOf_set, ofI_set, allU8_set, h1, h1_, h3, h3_]) (by decide) (by simp) (by simp) (.inl rfl) (by simp) (by simp) ?_
      try simp [-List.reduceReplicate, sOf_set, ofI_set, allU8_set, h1, h1_, h3, h3_]
      repeat' apply And.intro
      any_goals (first | exact hG1054 _ (by kernel_rfl) | refine hR1054 _ _ _ ?_ | omega | (unfold maxLen; omega) | (simp [-List.reduceReplicate, sOf_set, ofI_set, allU8_set, h1, h1_, h3, h3_]; done) | (simp [-List.reduceReplicate, sOf_set, ofI_set, allU8_set, h1, h1_, h3, h3_]; omega))
      refine AW.wk [(8, AV.bool v6)] [] 0 (by simp [-List.reduceReplicate, sOf_set, ofI_set, allU8_set, h1, h1_, h3, h3_]) (by simp [-List.reduceReplicate, sOf_set, ofI_set, allU8_set, h1, h1_, h3, h3_]) (by simp) ?_
      simp only [Option.some.injEq] at hF
      subst hF
      refine AW.ret (hQ _ _ _ ?_ (matchO_0 ?_)).1
      · simp [Try.f9, h1, h1_, h3, h3_]
      · simp [h1, h1_, h3, h3_]
    · replace hF := ite_f h3 hF
      have h3_ := h3
      try simp [-List.reduceReplicate] at h3_
      refine AW.condF (by decide) (by first | (simp [-List.reduceReplicate, sOf_set, ofI_set, allU8_set, h1, h1_, h3, h3_]; done) | (simp [-List.reduceReplicate, sOf_set, ofI_set, allU8_set, h1, h1_, h3, h3_]; omega)) ?_
      refine AW.skip ?_
      refine hK1051 _ _ _ ?_
      refine AW.seq fun K1573 hK1573 => ?_
      refine AW.seqR mixed [] [none] (by kernel_rfl) fun G1574 R1574 hG1574 hR1574 => ?_
      try simp [-List.reduceReplicate, sOf_set, ofI_set, allU8_set, h1, h1_, h3, h3_]
      repeat' apply And.intro
      any_goals (first | exact hG1574 _ (by kernel_rfl) | refine hR1574 _ _ _ ?_ | omega | (unfold maxLen; omega) | (simp [-List.reduceReplicate, sOf_set, ofI_set, allU8_set, h1, h1_, h3, h3_]; done) | (simp [-List.reduceReplicate, sOf_set, ofI_set, allU8_set, h1, h1_, h3, h3_]; omega))
      refine AW.wk [(0, AV.str v0), (1, AV.str v1), (2, AV.lst false false (List.map (AV.int .i64) v2)), (3, AV.int .i64 v3), (9, AV.int .i64 0)] [] 0 (by simp [-List.reduceReplicate, sOf_set, ofI_set, allU8_set, h1, h1_, h3, h3_]) (by simp [-List.reduceReplicate, sOf_set, ofI_set, allU8_set, h1, h1_, h3, h3_]) (by simp) ?_
      refine AW.block ?_
      refine AW.loopF (α := (ByteArray × (List Int) × Int × Int)) (fun n (v7, v8, v9, v10) => law25_BeaconRaw.L1 k v1 n v7 v8 v9 v10 = some v4) (fun (v7, v8, v9, v10) => [(0, AV.str v7), (1, AV.str v1), (2, AV.lst false false (List.map (AV.int .i64) v8)), (3, AV.int .i64 v9), (9, AV.int .i64 v10)]) (fun (v7, v8, v9, v10) => []) 0 k ((v0, v2, v3, 0)) hF (by simp [-List.reduceReplicate, sOf_set, ofI_set, allU8_set, h1, h1_, h3, h3_]) (by simp [-List.reduceReplicate, sOf_set, ofI_set, allU8_set, h1, h1_, h3, h3_]) (by simp) ?_
      rintro (_|n1) ⟨v7, v8, v9, v10⟩ hF K1962 hK1962
      · try dsimp only at hF
        rw [law25_BeaconRaw.L1] at hF; cases hF
      try dsimp only at hF
      rw [law25_BeaconRaw.L1] at hF
      refine AW.seq fun K1964 hK1964 => ?_
      refine AW.seqR mixed [] [none, none] (by kernel_rfl) fun G1965 R1965 hG1965 hR1965 => ?_
      try simp [-List.reduceReplicate, sOf_set, ofI_set, allU8_set, h1, h1_, h3, h3_]
      repeat' apply And.intro
      any_goals (first | exact hG1965 _ (by kernel_rfl) | refine hR1965 _ _ _ ?_ | omega | (unfold maxLen; omega) | (simp [-List.reduceReplicate, sOf_set, ofI_set, allU8_set, h1, h1_, h3, h3_]; done) | (simp [-List.reduceReplicate, sOf_set, ofI_set, allU8_set, h1, h1_, h3, h3_]; omega))
      refine AW.wk [(0, AV.str v7), (1, AV.str v1), (2, AV.lst false false (List.map (AV.int .i64) v8)), (3, AV.int .i64 v9), (9, AV.int .i64 v10), (40, AV.bool (decide (v10 < 2)))] [] 0 (by simp [-List.reduceReplicate, sOf_set, ofI_set, allU8_set, h1, h1_, h3, h3_]) (by simp [-List.reduceReplicate, sOf_set, ofI_set, allU8_set, h1, h1_, h3, h3_]) (by simp) ?_
      by_cases h5 : v10 < 2
      · replace hF := ite_t h5 hF
        have h5_ := h5
        try simp [-List.reduceReplicate] at h5_
        refine AW.condT (by decide) (by first | (simp [-List.reduceReplicate, sOf_set, ofI_set, allU8_set, h1, h1_, h3, h3_, h5, h5_]; done) | (simp [-List.reduceReplicate, sOf_set, ofI_set, allU8_set, h1, h1_, h3, h3_, h5, h5_]; omega)) ?_
        refine AW.skip ?_
        refine hK1964 _ _ _ ?_
        refine AW.seq fun K2028 hK2028 => ?_
        refine AW.block ?_
        refine AW.seqR mixed [] [none, none, none, none, none, none, none, none, none] (by kernel_rfl) fun G2029 R2029 hG2029 hR2029 => ?_
        try simp [-List.reduceReplicate, sOf_set, ofI_set, allU8_set, h1, h1_, h3, h3_, h5, h5_]
        repeat' apply And.intro
        try any_goals (first | omega | (unfold maxLen; omega) | (simp [-List.reduceReplicate, sOf_set, ofI_set, allU8_set, h1, h1_, h3, h3_, h5, h5_]; done))
        obtain ⟨v11, v12, h6, hF⟩ := bnd2_elim hF
        refine aCall_l (w_beacon_Next k _ _ _ _ _ h6) (by simp) [] [] [] rfl (.cons (.same (by simp [-List.reduceReplicate, sOf_set, ofI_set, allU8_set, h1, h1_, h3, h3_, h5, h5_])) (.cons (.same (by simp [-List.reduceReplicate, sOf_set, ofI_set, allU8_set, h1, h1_, h3, h3_, h5, h5_])) (.cons (.same (by simp [-List.reduceReplicate, sOf_set, ofI_set, allU8_set, h1, h1_, h3, h3_, h5, h5_])) .nil))) (by simp [-List.reduceReplicate, sOf_set, ofI_set, allU8_set, h1, h1_, h3, h3_, h5, h5_]) (by decide) (by simp) (by simp) (.inl rfl) (by simp) (by simp) ?_
        try simp [-List.reduceReplicate, sOf_set, ofI_set, allU8_set, h1, h1_, h3, h3_, h5, h5_]
        repeat' apply And.intro
        any_goals (first | exact hG2029 _ (by kernel_rfl) | refine hR2029 _ _ _ ?_ | omega | (unfold maxLen; omega) | (simp [-List.reduceReplicate, sOf_set, ofI_set, allU8_set, h1, h1_, h3, h3_, h5, h5_]; done) | (simp [-List.reduceReplicate, sOf_set, ofI_set, allU8_set, h1, h1_, h3, h3_, h5, h5_]; omega))
        refine AW.wk [(0, AV.str v7), (1, AV.str v1), (2, AV.lst false false (List.map (AV.int .i64) v8)), (3, AV.int .i64 v9), (9, AV.int .i64 v10), (10, AV.str v11), (11, AV.int .i64 v12)] [] 0 (by simp [-List.reduceReplicate, sOf_set, ofI_set, allU8_set, h1, h1_, h3, h3_, h5, h5_]) (by simp [-List.reduceReplicate, sOf_set, ofI_set, allU8_set, h1, h1_, h3, h3_, h5, h5_]) (by simp) ?_
        refine AW.seqR mixed [] [none, none, none, none, none, none, none, none, none] (by kernel_rfl) fun G2030 R2030 hG2030 hR2030 => ?_
        try simp [-List.reduceReplicate, sOf_set, ofI_set, allU8_set, h1, h1_, h3, h3_, h5, h5_]
        repeat' apply And.intro
        try any_goals (first | omega | (unfold maxLen; omega) | (simp [-List.reduceReplicate, sOf_set, ofI_set, allU8_set, h1, h1_, h3, h3_, h5, h5_]; done))
        obtain ⟨v13, v14, h7, hF⟩ := bnd2_elim hF
        refine aCall_l (w_ref25_Next k _ _ _ _ _ h7) (by simp) [] [] [] rfl (.cons (.same (by simp [-List.reduceReplicate, sOf_set, ofI_set, allU8_set, h1, h1_, h3, h3_, h5, h5_])) (.cons (.same (by simp [-List.reduceReplicate, sOf_set, ofI_set, allU8_set, h1, h1_, h3, h3_, h5, h5_])) (.cons (.same (by simp [-List.reduceReplicate, sOf_set, ofI_set, allU8_set, h1, h1_, h3, h3_, h5, h5_])) .nil))) (by simp [-List.reduceReplicate, sOf_set, ofI_set, allU8_set, h1, h1_, h3, h3_, h5, h5_]) (by decide) (by simp) (by simp) (.inl rfl) (by simp) (by simp) ?_
        try simp [-List.reduceReplicate, sOf_set, ofI_set, allU8_set, h1, h1_, h3, h3_, h5, h5_]
        repeat' apply And.intro
        any_goals (first | exact hG2030 _ (by kernel_rfl) | refine hR2030 _ _ _ ?_ | omega | (unfold maxLen; omega) | (simp [-List.reduceReplicate, sOf_set, ofI_set, allU8_set, h1, h1_, h3, h3_, h5, h5_]; done) | (simp [-List.reduceReplicate, sOf_set, ofI_set, allU8_set, h1, h1_, h3, h3_, h5, h5_]; omega))
        refine AW.wk [(0, AV.str v7), (1, AV.str v1), (2, AV.lst false false (List.map (AV.int .i64) v8)), (3, AV.int .i64 v9), (9, AV.int .i64 v10), (10, AV.str v11), (11, AV.int .i64 v12), (12, AV.str v13), (13, AV.int .i64 v14)] [] 0 (by simp [-List.reduceReplicate, sOf_set, ofI_set, allU8_set, h1, h1_, h3, h3_, h5, h5_]) (by simp [-List.reduceReplicate, sOf_set, ofI_set, allU8_set, h1, h1_, h3, h3_, h5, h5_]) (by simp) ?_
        refine AW.seqR mixed [] [none, none, none, none, none, none, none, none, none] (by kernel_rfl) fun G2031 R2031 hG2031 hR2031 => ?_
        try simp [-List.reduceReplicate, sOf_set, ofI_set, allU8_set, h1, h1_, h3, h3_, h5, h5_]
        repeat' apply And.intro
        try any_goals (first | omega | (unfold maxLen; omega) | (simp [-List.reduceReplicate, sOf_set, ofI_set, allU8_set, h1, h1_, h3, h3_, h5, h5_]; done))
        obtain ⟨v15, v16, h8, hF⟩ := bnd2_elim hF
        refine aCall_l (w_beacon_Numbers k _ _ _ _ _ h8) (by simp) [] [] [] rfl (.cons (.same (by simp [-List.reduceReplicate, sOf_set, ofI_set, allU8_set, h1, h1_, h3, h3_, h5, h5_])) (.cons (.same (by simp [-List.reduceReplicate, sOf_set, ofI_set, allU8_set, h1, h1_, h3, h3_, h5, h5_])) (.cons (.same (by simp [-List.reduceReplicate, sOf_set, ofI_set, allU8_set, h1, h1_, h3, h3_, h5, h5_])) .nil))) (by simp [-List.reduceReplicate, sOf_set, ofI_set, allU8_set, h1, h1_, h3, h3_, h5, h5_]) (by decide) (by simp) (by simp) (.inl rfl) (by simp) (by simp) ?_
        try simp [-List.reduceReplicate, sOf_set, ofI_set, allU8_set, h1, h1_, h3, h3_, h5, h5_]
        repeat' apply And.intro
        any_goals (first | exact hG2031 _ (by kernel_rfl) | refine hR2031 _ _ _ ?_ | omega | (unfold maxLen; omega) | (simp [-List.reduceReplicate, sOf_set, ofI_set, allU8_set, h1, h1_, h3, h3_, h5, h5_]; done) | (simp [-List.reduceReplicate, sOf_set, ofI_set, allU8_set, h1, h1_, h3, h3_, h5, h5_]; omega))
        refine AW.wk [(0, AV.str v7), (1, AV.str v1), (2, AV.lst false false (List.map (AV.int .i64) v8)), (3, AV.int .i64 v9), (9, AV.int .i64 v10), (10, AV.str v11), (11, AV.int .i64 v12), (12, AV.str v13), (13, AV.int .i64 v14), (14, AV.slc 0 0 1 v15.length false), (15, AV.int .i64 v16)] [(0, .grow (List.map (AV.int .i64) v15))] 1 (by simp [-List.reduceReplicate, sOf_set, ofI_set, allU8_set, h1, h1_, h3, h3_, h5, h5_]) (by simp [-List.reduceReplicate, sOf_set, ofI_set, allU8_set, h1, h1_, h3, h3_, h5, h5_]) (by simp) ?_
        refine AW.frz 0 (o := .grow (List.map (AV.int .i64) v15)) (by simp [-List.reduceReplicate, sOf_set, ofI_set, allU8_set, h1, h1_, h3, h3_, h5, h5_]) rfl [(14, AV.lst false false (List.map (AV.int .i64) v15))] [] ⟨(.l (by simp) (by simp) (by simp) (by simp)), trivial⟩ trivial ?_
        refine AW.wk [(0, AV.str v7), (1, AV.str v1), (2, AV.lst false false (List.map (AV.int .i64) v8)), (3, AV.int .i64 v9), (9, AV.int .i64 v10), (10, AV.str v11), (11, AV.int .i64 v12), (12, AV.str v13), (13, AV.int .i64 v14), (14, AV.lst false false (List.map (AV.int .i64) v15)), (15, AV.int .i64 v16)] [] 1 (by simp [-List.reduceReplicate, sOf_set, ofI_set, allU8_set, h1, h1_, h3, h3_, h5, h5_]) (by simp [-List.reduceReplicate, sOf_set, ofI_set, allU8_set, h1, h1_, h3, h3_, h5, h5_]) (by simp) ?_
        refine AW.seqR mixed [] [none, none, none, none, none, none, none, none, none] (by kernel_rfl) fun G2032 R2032 hG2032 hR2032 => ?_
        try simp [-List.reduceReplicate, sOf_set, ofI_set, allU8_set, h1, h1_, h3, h3_, h5, h5_]
        repeat' apply And.intro
        try any_goals (first | omega | (unfold maxLen; omega) | (simp [-List.reduceReplicate, sOf_set, ofI_set, allU8_set, h1, h1_, h3, h3_, h5, h5_]; done))
        obtain ⟨v17, v18, h9, hF⟩ := bnd2_elim hF
        refine aCall_l (w_ref25_Numbers k _ _ _ _ _ h9) (by simp) [] [] [] rfl (.cons (.same (by simp [-List.reduceReplicate, sOf_set, ofI_set, allU8_set, h1, h1_, h3, h3_, h5, h5_])) (.cons (.same (by simp [-List.reduceReplicate, sOf_set, ofI_set, allU8_set, h1, h1_, h3, h3_, h5, h5_])) (.cons (.same (by simp [-List.reduceReplicate, sOf_set, ofI_set, allU8_set, h1, h1_, h3, h3_, h5, h5_])) .nil))) (by simp [-List.reduceReplicate, sOf_set, ofI_set, allU8_set, h1, h1_, h3, h3_, h5, h5_]) (by decide) (by simp) (by simp) (.inl rfl) (by simp) (by simp) ?_
        try simp [-List.reduceReplicate, sOf_set, ofI_set, allU8_set, h1, h1_, h3, h3_, h5, h5_]
        repeat' apply And.intro
        any_goals (first | exact hG2032 _ (by kernel_rfl) | refine hR2032 _ _ _ ?_ | omega | (unfold maxLen; omega) | (simp [-List.reduceReplicate, sOf_set, ofI_set, allU8_set, h1, h1_, h3, h3_, h5, h5_]; done) | (simp [-List.reduceReplicate, sOf_set, ofI_set, allU8_set, h1, h1_, h3, h3_, h5, h5_]; omega))
        refine AW.wk [(0, AV.str v7), (1, AV.str v1), (2, AV.lst false false (List.map (AV.int .i64) v8)), (3, AV.int .i64 v9), (9, AV.int .i64 v10), (10, AV.str v11), (11, AV.int .i64 v12), (12, AV.str v13), (13, AV.int .i64 v14), (14, AV.lst false false (List.map (AV.int .i64) v15)), (15, AV.int .i64 v16), (16, AV.slc 1 0 1 v17.length false), (17, AV.int .i64 v18)] [(1, .grow (List.map (AV.int .i64) v17))] 2 (by simp [-List.reduceReplicate, sOf_set, ofI_set, allU8_set, h1, h1_, h3, h3_, h5, h5_]) (by simp [-List.reduceReplicate, sOf_set, ofI_set, allU8_set, h1, h1_, h3, h3_, h5, h5_]) (by simp) ?_
        refine AW.frz 1 (o := .grow (List.map (AV.int .i64) v17)) (by simp [-List.reduceReplicate, sOf_set, ofI_set, allU8_set, h1, h1_, h3, h3_, h5, h5_]) rfl [(16, AV.lst false false (List.map (AV.int .i64) v17))] [] ⟨(.l (by simp) (by simp) (by simp) (by simp)), trivial⟩ trivial ?_
        refine AW.wk [(0, AV.str v7), (1, AV.str v1), (2, AV.lst false false (List.map (AV.int .i64) v8)), (3, AV.int .i64 v9), (9, AV.int .i64 v10), (10, AV.str v11), (11, AV.int .i64 v12), (12, AV.str v13), (13, AV.int .i64 v14), (14, AV.lst false false (List.map (AV.int .i64) v15)), (15, AV.int .i64 v16), (16, AV.lst false false (List.map (AV.int .i64) v17)), (17, AV.int .i64 v18)] [] 2 (by simp [-List.reduceReplicate, sOf_set, ofI_set, allU8_set, h1, h1_, h3, h3_, h5, h5_]) (by simp [-List.reduceReplicate, sOf_set, ofI_set, allU8_set, h1, h1_, h3, h3_, h5, h5_]) (by simp) ?_
        refine AW.seqR mixed [] [none, none, none, none, none, none, none, none] (by kernel_rfl) fun G2033 R2033 hG2033 hR2033 => ?_
        try simp [-List.reduceReplicate, sOf_set, ofI_set, allU8_set, h1, h1_, h3, h3_, h5, h5_]
        repeat' apply And.intro
        try any_goals (first | omega | (unfold maxLen; omega) | (simp [-List.reduceReplicate, sOf_set, ofI_set, allU8_set, h1, h1_, h3, h3_, h5, h5_]; done))
        obtain ⟨v19, v20, h10, hF⟩ := bnd2_elim hF
        refine aCall_l (w_beacon_Mix k _ _ _ _ h10) (by simp) [] [] [] rfl (.cons (.same (by simp [-List.reduceReplicate, sOf_set, ofI_set, allU8_set, h1, h1_, h3, h3_, h5, h5_])) (.cons (.same (by simp [-List.reduceReplicate, sOf_set, ofI_set, allU8_set, h1, h1_, h3, h3_, h5, h5_])) .nil)) (by simp [-List.reduceReplicate, sOf_set, ofI_set, allU8_set, h1, h1_, h3, h3_, h5, h5_]) (by decide) (by simp) (by simp) (.inl rfl) (by simp) (by simp) ?_
        try simp [-List.reduceReplicate, sOf_set, ofI_set, allU8_set, h1, h1_, h3, h3_, h5, h5_]
        repeat' apply And.intro
        any_goals (first | exact hG2033 _ (by kernel_rfl) | refine hR2033 _ _ _ ?_ | omega | (unfold maxLen; omega) | (simp [-List.reduceReplicate, sOf_set, ofI_set, allU8_set, h1, h1_, h3, h3_, h5, h5_]; done) | (simp [-List.reduceReplicate, sOf_set, ofI_set, allU8_set, h1, h1_, h3, h3_, h5, h5_]; omega))
        refine AW.wk [(0, AV.str v7), (1, AV.str v1), (2, AV.lst false false (List.map (AV.int .i64) v8)), (3, AV.int .i64 v9), (9, AV.int .i64 v10), (10, AV.str v11), (11, AV.int .i64 v12), (12, AV.str v13), (13, AV.int .i64 v14), (14, AV.lst false false (List.map (AV.int .i64) v15)), (15, AV.int .i64 v16), (16, AV.lst false false (List.map (AV.int .i64) v17)), (17, AV.int .i64 v18), (18, AV.int .i64 v19), (19, AV.int .i64 v20)] [] 2 (by simp [-List.reduceReplicate, sOf_set, ofI_set, allU8_set, h1, h1_, h3, h3_, h5, h5_]) (by simp [-List.reduceReplicate, sOf_set, ofI_set, allU8_set, h1, h1_, h3, h3_, h5, h5_]) (by simp) ?_
        refine AW.seqR mixed [] [none, none, none, none, none, none, none, none] (by kernel_rfl) fun G2034 R2034 hG2034 hR2034 => ?_
        try simp [-List.reduceReplicate, sOf_set, ofI_set, allU8_set, h1, h1_, h3, h3_, h5, h5_]
        repeat' apply And.intro
        try any_goals (first | omega | (unfold maxLen; omega) | (simp [-List.reduceReplicate, sOf_set, ofI_set, allU8_set, h1, h1_, h3, h3_, h5, h5_]; done))
        obtain ⟨v21, v22, h11, hF⟩ := bnd2_elim hF
        refine aCall_l (w_ref25_Mix k _ _ _ _ h11) (by simp) [] [] [] rfl (.cons (.same (by simp [-List.reduceReplicate, sOf_set, ofI_set, allU8_set, h1, h1_, h3, h3_, h5, h5_])) (.cons (.same (by simp [-List.reduceReplicate, sOf_set, ofI_set, allU8_set, h1, h1_, h3, h3_, h5, h5_])) .nil)) (by simp [-List.reduceReplicate, sOf_set, ofI_set, allU8_set, h1, h1_, h3, h3_, h5, h5_]) (by decide) (by simp) (by simp) (.inl rfl) (by simp) (by simp) ?_
        try simp [-List.reduceReplicate, sOf_set, ofI_set, allU8_set, h1, h1_, h3, h3_, h5, h5_]
        repeat' apply And.intro
        any_goals (first | exact hG2034 _ (by kernel_rfl) | refine hR2034 _ _ _ ?_ | omega | (unfold maxLen; omega) | (simp [-List.reduceReplicate, sOf_set, ofI_set, allU8_set, h1, h1_, h3, h3_, h5, h5_]; done) | (simp [-List.reduceReplicate, sOf_set, ofI_set, allU8_set, h1, h1_, h3, h3_, h5, h5_]; omega))
        refine AW.wk [(0, AV.str v7), (1, AV.str v1), (2, AV.lst false false (List.map (AV.int .i64) v8)), (3, AV.int .i64 v9), (9, AV.int .i64 v10), (10, AV.str v11), (11, AV.int .i64 v12), (12, AV.str v13), (13, AV.int .i64 v14), (14, AV.lst false false (List.map (AV.int .i64) v15)), (15, AV.int .i64 v16), (16, AV.lst false false (List.map (AV.int .i64) v17)), (17, AV.int .i64 v18), (18, AV.int .i64 v19), (19, AV.int .i64 v20), (20, AV.int .i64 v21), (21, AV.int .i64 v22)] [] 2 (by simp [-List.reduceReplicate, sOf_set, ofI_set, allU8_set, h1, h1_, h3, h3_, h5, h5_]) (by simp [-List.reduceReplicate, sOf_set, ofI_set, allU8_set, h1, h1_, h3, h3_, h5, h5_]) (by simp) ?_
        refine AW.seqR mixed [] [none, none, none, none, none, none, none, none] (by kernel_rfl) fun G2035 R2035 hG2035 hR2035 => ?_
        try simp [-List.reduceReplicate, sOf_set, ofI_set, allU8_set, h1, h1_, h3, h3_, h5, h5_]
        repeat' apply And.intro
        try any_goals (first | omega | (unfold maxLen; omega) | (simp [-List.reduceReplicate, sOf_set, ofI_set, allU8_set, h1, h1_, h3, h3_, h5, h5_]; done))
        obtain ⟨v23, v24, h12, hF⟩ := bnd2_elim hF
        refine aCall_l (w_beacon_Commit k _ _ _ _ h12) (by simp) [] [] [] rfl (.cons (.same (by simp [-List.reduceReplicate, sOf_set, ofI_set, allU8_set, h1, h1_, h3, h3_, h5, h5_])) (.cons (.same (by simp [-List.reduceReplicate, sOf_set, ofI_set, allU8_set, h1, h1_, h3, h3_, h5, h5_])) .nil)) (by simp [-List.reduceReplicate, sOf_set, ofI_set, allU8_set, h1, h1_, h3, h3_, h5, h5_]) (by decide) (by simp) (by simp) (.inl rfl) (by simp) (by simp) ?_
        try simp [-List.reduceReplicate, sOf_set, ofI_set, allU8_set, h1, h1_, h3, h3_, h5, h5_]
        repeat' apply And.intro
        any_goals (first | exact hG2035 _ (by kernel_rfl) | refine hR2035 _ _ _ ?_ | omega | (unfold maxLen; omega) | (simp [-List.reduceReplicate, sOf_set, ofI_set, allU8_set, h1, h1_, h3, h3_, h5, h5_]; done) | (simp [-List.reduceReplicate, sOf_set, ofI_set, allU8_set, h1, h1_, h3, h3_, h5, h5_]; omega))
        refine AW.wk [(0, AV.str v7), (1, AV.str v1), (2, AV.lst false false (List.map (AV.int .i64) v8)), (3, AV.int .i64 v9), (9, AV.int .i64 v10), (10, AV.str v11), (11, AV.int .i64 v12), (12, AV.str v13), (13, AV.int .i64 v14), (14, AV.lst false false (List.map (AV.int .i64) v15)), (15, AV.int .i64 v16), (16, AV.lst false false (List.map (AV.int .i64) v17)), (17, AV.int .i64 v18), (18, AV.int .i64 v19), (19, AV.int .i64 v20), (20, AV.int .i64 v21), (21, AV.int .i64 v22), (22, AV.str v23), (23, AV.int .i64 v24)] [] 2 (by simp [-List.reduceReplicate, sOf_set, ofI_set, allU8_set, h1, h1_, h3, h3_, h5, h5_]) (by simp [-List.reduceReplicate, sOf_set, ofI_set, allU8_set, h1, h1_, h3, h3_, h5, h5_]) (by simp) ?_
        refine AW.seqR mixed [] [none, none, none, none, none, none, none, none] (by kernel_rfl) fun G2036 R2036 hG2036 hR2036 => ?_
        try simp [-List.reduceReplicate, sOf_set, ofI_set, allU8_set, h1, h1_, h3, h3_, h5, h5_]
        repeat' apply And.intro
        try any_goals (first | omega | (unfold maxLen; omega) | (simp [-List.reduceReplicate, sOf_set, ofI_set, allU8_set, h1, h1_, h3, h3_, h5, h5_]; done))
        obtain ⟨v25, v26, h13, hF⟩ := bnd2_elim hF
        refine aCall_l (w_ref25_Commit k _ _ _ _ h13) (by simp) [] [] [] rfl (.cons (.same (by simp [-List.reduceReplicate, sOf_set, ofI_set, allU8_set, h1, h1_, h3, h3_, h5, h5_])) (.cons (.same (by simp [-List.reduceReplicate, sOf_set, ofI_set, allU8_set, h1, h1_, h3, h3_, h5, h5_])) .nil)) (by simp [-List.reduceReplicate, sOf_set, ofI_set, allU8_set, h1, h1_, h3, h3_, h5, h5_]) (by decide) (by simp) (by simp) (.inl rfl) (by simp) (by simp) ?_
        try simp [-List.reduceReplicate, sOf_set, ofI_set, allU8_set, h1, h1_, h3, h3_, h5, h5_]
        repeat' apply And.intro
        any_goals (first | exact hG2036 _ (by kernel_rfl) | refine hR2036 _ _ _ ?_ | omega | (unfold maxLen; omega) | (simp [-List.reduceReplicate, sOf_set, ofI_set, allU8_set, h1, h1_, h3, h3_, h5, h5_]; done) | (simp [-List.reduceReplicate, sOf_set, ofI_set, allU8_set, h1, h1_, h3, h3_, h5, h5_]; omega))
        refine AW.wk [(0, AV.str v7), (1, AV.str v1), (2, AV.lst false false (List.map (AV.int .i64) v8)), (3, AV.int .i64 v9), (9, AV.int .i64 v10), (10, AV.str v11), (11, AV.int .i64 v12), (12, AV.str v13), (13, AV.int .i64 v14), (14, AV.lst false false (List.map (AV.int .i64) v15)), (15, AV.int .i64 v16), (16, AV.lst false false (List.map (AV.int .i64) v17)), (17, AV.int .i64 v18), (18, AV.int .i64 v19), (19, AV.int .i64 v20), (20, AV.int .i64 v21), (21, AV.int .i64 v22), (22, AV.str v23), (23, AV.int .i64 v24), (24, AV.str v25), (25, AV.int .i64 v26)] [] 2 (by simp [-List.reduceReplicate, sOf_set, ofI_set, allU8_set, h1, h1_, h3, h3_, h5, h5_]) (by simp [-List.reduceReplicate, sOf_set, ofI_set, allU8_set, h1, h1_, h3, h3_, h5, h5_]) (by simp) ?_
        refine AW.seq fun K2047 hK2047 => ?_
        refine AW.seqR mixed [] [none, none, none, none, some (98, false), some (98, false), some (98, false), none, none, some (103, false), some (103, false), some (103, false), none, none, some (108, false), some (108, false), some (108, false), some (108, false), none, none, some (114, false), some (114, false), some (114, false), none, none, some (119, false), some (119, false), some (119, false), none, none, some (124, false), some (124, false), some (124, false), none, none, some (129, false), some (129, false), some (129, false), none, none, some (134, false), some (134, false), some (134, false), some (134, false), some (134, false), some (134, false), some (134, false), some (134, false), some (134, false), none] (by kernel_rfl) fun G2048 R2048 hG2048 hR2048 => ?_
        by_cases h14 : (!strEq v11 v13) = true
        · replace hF := ite_t h14 hF
          have h14_ := h14
          try simp [-List.reduceReplicate] at h14_
          try simp [-List.reduceReplicate, sOf_set, ofI_set, allU8_set, h1, h1_, h3, h3_, h5, h5_, h14, h14_]
          repeat' apply And.intro
          any_goals (first | exact hG2048 _ (by kernel_rfl) | refine hR2048 _ _ _ ?_ | omega | (unfold maxLen; omega) | (simp [-List.reduceReplicate, sOf_set, ofI_set, allU8_set, h1, h1_, h3, h3_, h5, h5_, h14, h14_]; done) | (simp [-List.reduceReplicate, sOf_set, ofI_set, allU8_set, h1, h1_, h3, h3_, h5, h5_, h14, h14_]; omega))
          refine AW.wk [(0, AV.str v7), (1, AV.str v1), (2, AV.lst false false (List.map (AV.int .i64) v8)), (3, AV.int .i64 v9), (9, AV.int .i64 v10), (144, AV.bool true)] [] 2 (by simp [-List.reduceReplicate, sOf_set, ofI_set, allU8_set, h1, h1_, h3, h3_, h5, h5_, h14, h14_]) (by simp [-List.reduceReplicate, sOf_set, ofI_set, allU8_set, h1, h1_, h3, h3_, h5, h5_, h14, h14_]) (by simp) ?_
          refine AW.condT (by decide) (by simp [-List.reduceReplicate, sOf_set, ofI_set, allU8_set, h1, h1_, h3, h3_, h5, h5_, h14, h14_]) ?_
          refine AW.seqR mixed [] [none] (by kernel_rfl) fun G2049 R2049 hG2049 hR2049 => ?_
          try simp [-List.reduceReplicate, sOf_set, ofI_set, allU8_set, h1, h1_, h3, h3_, h5, h5_, h14, h14_]
          repeat' apply And.intro
          any_goals (first | exact hG2049 _ (by kernel_rfl) | refine hR2049 _ _ _ ?_ | omega | (unfold maxLen; omega) | (simp [-List.reduceReplicate, sOf_set, ofI_set, allU8_set, h1, h1_, h3, h3_, h5, h5_, h14, h14_]; done) | (simp [-List.reduceReplicate, sOf_set, ofI_set, allU8_set, h1, h1_, h3, h3_, h5, h5_, h14, h14_]; omega))
          refine AW.wk [(8, AV.bool false)] [] 2 (by simp [-List.reduceReplicate, sOf_set, ofI_set, allU8_set, h1, h1_, h3, h3_, h5, h5_, h14, h14_]) (by simp [-List.reduceReplicate, sOf_set, ofI_set, allU8_set, h1, h1_, h3, h3_, h5, h5_, h14, h14_]) (by simp) ?_
          simp only [Option.some.injEq] at hF
          subst hF
          refine AW.ret (hQ _ _ _ ?_ (matchO_0 ?_)).1
          · simp [Try.f9, h1, h1_, h3, h3_, h5, h5_, h14, h14_]
          · simp [h1, h1_, h3, h3_, h5, h5_, h14, h14_]
        · replace hF := ite_f h14 hF
          have h14_ := h14
          try simp [-List.reduceReplicate] at h14_
          by_cases h15 : v12 ≠ v14
          · replace hF := ite_t h15 hF
            have h15_ := eqb_f h15
            have h15__ := neb_t h15
            try simp [-List.reduceReplicate, sOf_set, ofI_set, allU8_set, h1, h1_, h3, h3_, h5, h5_, h14, h14_, h15, h15_, h15__]
            repeat' apply And.intro
            any_goals (first | exact hG2048 _ (by kernel_rfl) | refine hR2048 _ _ _ ?_ | omega | (unfold maxLen; omega) | (simp [-List.reduceReplicate, sOf_set, ofI_set, allU8_set, h1, h1_, h3, h3_, h5, h5_, h14, h14_, h15, h15_, h15__]; done) | (simp [-List.reduceReplicate, sOf_set, ofI_set, allU8_set, h1, h1_, h3, h3_, h5, h5_, h14, h14_, h15, h15_, h15__]; omega))
            refine AW.wk [(0, AV.str v7), (1, AV.str v1), (2, AV.lst false false (List.map (AV.int .i64) v8)), (3, AV.int .i64 v9), (9, AV.int .i64 v10), (144, AV.bool true)] [] 2 (by simp [-List.reduceReplicate, sOf_set, ofI_set, allU8_set, h1, h1_, h3, h3_, h5, h5_, h14, h14_, h15, h15_, h15__]) (by simp [-List.reduceReplicate, sOf_set, ofI_set, allU8_set, h1, h1_, h3, h3_, h5, h5_, h14, h14_, h15, h15_, h15__]) (by simp) ?_
            refine AW.condT (by decide) (by simp [-List.reduceReplicate, sOf_set, ofI_set, allU8_set, h1, h1_, h3, h3_, h5, h5_, h14, h14_, h15, h15_, h15__]) ?_
            refine AW.seqR mixed [] [none] (by kernel_rfl) fun G2050 R2050 hG2050 hR2050 => ?_
            try simp [-List.reduceReplicate, sOf_set, ofI_set, allU8_set, h1, h1_, h3, h3_, h5, h5_, h14, h14_, h15, h15_, h15__]
            repeat' apply And.intro
            any_goals (first | exact hG2050 _ (by kernel_rfl) | refine hR2050 _ _ _ ?_ | omega | (unfold maxLen; omega) | (simp [-List.reduceReplicate, sOf_set, ofI_set, allU8_set, h1, h1_, h3, h3_, h5, h5_, h14, h14_, h15, h15_, h15__]; done) | (simp [-List.reduceReplicate, sOf_set, ofI_set, allU8_set, h1, h1_, h3, h3_, h5, h5_, h14, h14_, h15, h15_, h15__]; omega))
            refine AW.wk [(8, AV.bool false)] [] 2 (by simp [-List.reduceReplicate, sOf_set, ofI_set, allU8_set, h1, h1_, h3, h3_, h5, h5_, h14, h14_, h15, h15_, h15__]) (by simp [-List.reduceReplicate, sOf_set, ofI_set, allU8_set, h1, h1_, h3, h3_, h5, h5_, h14, h14_, h15, h15_, h15__]) (by simp) ?_
            simp only [Option.some.injEq] at hF
            subst hF
            refine AW.ret (hQ _ _ _ ?_ (matchO_0 ?_)).1
            · simp [Try.f9, h1, h1_, h3, h3_, h5, h5_, h14, h14_, h15, h15_, h15__]
            · simp [h1, h1_, h3, h3_, h5, h5_, h14, h14_, h15, h15_, h15__]
          · replace hF := ite_f h15 hF
            have h15q : v12 = v14 := Classical.not_not.1 h15
            have h15_ := eqb_t h15q
            have h15__ := neb_f h15q
            by_cases h16 : v16 ≠ v18
            · replace hF := ite_t h16 hF
              have h16_ := eqb_f h16
              have h16__ := neb_t h16
              try simp [-List.reduceReplicate, sOf_set, ofI_set, allU8_set, h1, h1_, h3, h3_, h5, h5_, h14, h14_, h15_, h15__, h16, h16_, h16__]
              repeat' apply And.intro
              any_goals (first | exact hG2048 _ (by kernel_rfl) | refine hR2048 _ _ _ ?_ | omega | (unfold maxLen; omega) | (simp [-List.reduceReplicate, sOf_set, ofI_set, allU8_set, h1, h1_, h3, h3_, h5, h5_, h14, h14_, h15_, h15__, h16, h16_, h16__]; done) | (simp [-List.reduceReplicate, sOf_set, ofI_set, allU8_set, h1, h1_, h3, h3_, h5, h5_, h14, h14_, h15_, h15__, h16, h16_, h16__]; omega))
              refine AW.wk [(0, AV.str v7), (1, AV.str v1), (2, AV.lst false false (List.map (AV.int .i64) v8)), (3, AV.int .i64 v9), (9, AV.int .i64 v10), (144, AV.bool true)] [] 2 (by simp [-List.reduceReplicate, sOf_set, ofI_set, allU8_set, h1, h1_, h3, h3_, h5, h5_, h14, h14_, h15_, h15__, h16, h16_, h16__]) (by simp [-List.reduceReplicate, sOf_set, ofI_set, allU8_set, h1, h1_, h3, h3_, h5, h5_, h14, h14_, h15_, h15__, h16, h16_, h16__]) (by simp) ?_
              refine AW.condT (by decide) (by simp [-List.reduceReplicate, sOf_set, ofI_set, allU8_set, h1, h1_, h3, h3_, h5, h5_, h14, h14_, h15_, h15__, h16, h16_, h16__]) ?_
              refine AW.seqR mixed [] [none] (by kernel_rfl) fun G2051 R2051 hG2051 hR2051 => ?_
              try simp [-List.reduceReplicate, sOf_set, ofI_set, allU8_set, h1, h1_, h3, h3_, h5, h5_, h14, h14_, h15_, h15__, h16, h16_, h16__]
              repeat' apply And.intro
              any_goals (first | exact hG2051 _ (by kernel_rfl) | refine hR2051 _ _ _ ?_ | omega | (unfold maxLen; omega) | (simp [-List.reduceReplicate, sOf_set, ofI_set, allU8_set, h1, h1_, h3, h3_, h5, h5_, h14, h14_, h15_, h15__, h16, h16_, h16__]; done) | (simp [-List.reduceReplicate, sOf_set, ofI_set, allU8_set, h1, h1_, h3, h3_, h5, h5_, h14, h14_, h15_, h15__, h16, h16_, h16__]; omega))
              refine AW.wk [(8, AV.bool false)] [] 2 (by simp [-List.reduceReplicate, sOf_set, ofI_set, allU8_set, h1, h1_, h3, h3_, h5, h5_, h14, h14_, h15_, h15__, h16, h16_, h16__]) (by simp [-List.reduceReplicate, sOf_set, ofI_set, allU8_set, h1, h1_, h3, h3_, h5, h5_, h14, h14_, h15_, h15__, h16, h16_, h16__]) (by simp) ?_
              simp only [Option.some.injEq] at hF
              subst hF
              refine AW.ret (hQ _ _ _ ?_ (matchO_0 ?_)).1
              · simp [Try.f9, h1, h1_, h3, h3_, h5, h5_, h14, h14_, h15_, h15__, h16, h16_, h16__]
              · simp [h1, h1_, h3, h3_, h5, h5_, h14, h14_, h15_, h15__, h16, h16_, h16__]
            · replace hF := ite_f h16 hF
              have h16q : v16 = v18 := Classical.not_not.1 h16
              have h16_ := eqb_t h16q
              have h16__ := neb_f h16q
              try simp [-List.reduceReplicate, sOf_set, ofI_set, allU8_set, h1, h1_, h3, h3_, h5, h5_, h14, h14_, h15_, h15__, h16_, h16__]
              repeat' apply And.intro
              try any_goals (first | omega | (unfold maxLen; omega) | (simp [-List.reduceReplicate, sOf_set, ofI_set, allU8_set, h1, h1_, h3, h3_, h5, h5_, h14, h14_, h15_, h15__, h16_, h16__]; done))
              obtain ⟨v27, h17, hF⟩ := bnd1_elim hF
              refine aCall_l (w_ref23_SameInts k _ _ _ h17) (by simp) [] [] [] rfl (.cons (.same (by simp [-List.reduceReplicate, sOf_set, ofI_set, allU8_set, h1, h1_, h3, h3_, h5, h5_, h14, h14_, h15_, h15__, h16_, h16__])) (.cons (.same (by simp [-List.reduceReplicate, sOf_set, ofI_set, allU8_set, h1, h1_, h3, h3_, h5, h5_, h14, h14_, h15_, h15__, h16_, h16__])) .nil)) (by simp [-List.reduceReplicate, sOf_set, ofI_set, allU8_set, h1, h1_, h3, h3_, h5, h5_, h14, h14_, h15_, h15__, h16_, h16__]) (by decide) (by simp) (by simp) (.inl rfl) (by simp) (by simp) ?_
              by_cases h18 : (!v27) = true
              · replace hF := ite_t h18 hF
                have h18_ := h18
                try simp [-List.reduceReplicate] at h18_
                try simp [-List.reduceReplicate, sOf_set, ofI_set, allU8_set, h1, h1_, h3, h3_, h5, h5_, h14, h14_, h15_, h15__, h16_, h16__, h18, h18_]
                repeat' apply And.intro
                any_goals (first | exact hG2048 _ (by kernel_rfl) | refine hR2048 _ _ _ ?_ | omega | (unfold maxLen; omega) | (simp [-List.reduceReplicate, sOf_set, ofI_set, allU8_set, h1, h1_, h3, h3_, h5, h5_, h14, h14_, h15_, h15__, h16_, h16__, h18, h18_]; done) | (simp [-List.reduceReplicate, sOf_set, ofI_set, allU8_set, h1, h1_, h3, h3_, h5, h5_, h14, h14_, h15_, h15__, h16_, h16__, h18, h18_]; omega))
                refine AW.wk [(0, AV.str v7), (1, AV.str v1), (2, AV.lst false false (List.map (AV.int .i64) v8)), (3, AV.int .i64 v9), (9, AV.int .i64 v10), (144, AV.bool true)] [] 2 (by simp [-List.reduceReplicate, sOf_set, ofI_set, allU8_set, h1, h1_, h3, h3_, h5, h5_, h14, h14_, h15_, h15__, h16_, h16__, h18, h18_]) (by simp [-List.reduceReplicate, sOf_set, ofI_set, allU8_set, h1, h1_, h3, h3_, h5, h5_, h14, h14_, h15_, h15__, h16_, h16__, h18, h18_]) (by simp) ?_
                refine AW.condT (by decide) (by simp [-List.reduceReplicate, sOf_set, ofI_set, allU8_set, h1, h1_, h3, h3_, h5, h5_, h14, h14_, h15_, h15__, h16_, h16__, h18, h18_]) ?_
                refine AW.seqR mixed [] [none] (by kernel_rfl) fun G2052 R2052 hG2052 hR2052 => ?_
                try simp [-List.reduceReplicate, sOf_set, ofI_set, allU8_set, h1, h1_, h3, h3_, h5, h5_, h14, h14_, h15_, h15__, h16_, h16__, h18, h18_]
                repeat' apply And.intro
                any_goals (first | exact hG2052 _ (by kernel_rfl) | refine hR2052 _ _ _ ?_ | omega | (unfold maxLen; omega) | (simp [-List.reduceReplicate, sOf_set, ofI_set, allU8_set, h1, h1_, h3, h3_, h5, h5_, h14, h14_, h15_, h15__, h16_, h16__, h18, h18_]; done) | (simp [-List.reduceReplicate, sOf_set, ofI_set, allU8_set, h1, h1_, h3, h3_, h5, h5_, h14, h14_, h15_, h15__, h16_, h16__, h18, h18_]; omega))
                refine AW.wk [(8, AV.bool false)] [] 2 (by simp [-List.reduceReplicate, sOf_set, ofI_set, allU8_set, h1, h1_, h3, h3_, h5, h5_, h14, h14_, h15_, h15__, h16_, h16__, h18, h18_]) (by simp [-List.reduceReplicate, sOf_set, ofI_set, allU8_set, h1, h1_, h3, h3_, h5, h5_, h14, h14_, h15_, h15__, h16_, h16__, h18, h18_]) (by simp) ?_
                simp only [Option.some.injEq] at hF
                subst hF
                refine AW.ret (hQ _ _ _ ?_ (matchO_0 ?_)).1
                · simp [Try.f9, h1, h1_, h3, h3_, h5, h5_, h14, h14_, h15_, h15__, h16_, h16__, h18, h18_]
                · simp [h1, h1_, h3, h3_, h5, h5_, h14, h14_, h15_, h15__, h16_, h16__, h18, h18_]
              · replace hF := ite_f h18 hF
                have h18_ := h18
                try simp [-List.reduceReplicate] at h18_
                by_cases h19 : v19 ≠ v21
                · replace hF := ite_t h19 hF
                  have h19_ := eqb_f h19
                  have h19__ := neb_t h19
                  try simp [-List.reduceReplicate, sOf_set, ofI_set, allU8_set, h1, h1_, h3, h3_, h5, h5_, h14, h14_, h15_, h15__, h16_, h16__, h18, h18_, h19, h19_, h19__]
                  repeat' apply And.intro
                  any_goals (first | exact hG2048 _ (by kernel_rfl) | refine hR2048 _ _ _ ?_ | omega | (unfold maxLen; omega) | (simp [-List.reduceReplicate, sOf_set, ofI_set, allU8_set, h1, h1_, h3, h3_, h5, h5_, h14, h14_, h15_, h15__, h16_, h16__, h18, h18_, h19, h19_, h19__]; done) | (simp [-List.reduceReplicate, sOf_set, ofI_set, allU8_set, h1, h1_, h3, h3_, h5, h5_, h14, h14_, h15_, h15__, h16_, h16__, h18, h18_, h19, h19_, h19__]; omega))
                  refine AW.wk [(0, AV.str v7), (1, AV.str v1), (2, AV.lst false false (List.map (AV.int .i64) v8)), (3, AV.int .i64 v9), (9, AV.int .i64 v10), (144, AV.bool true)] [] 2 (by simp [-List.reduceReplicate, sOf_set, ofI_set, allU8_set, h1, h1_, h3, h3_, h5, h5_, h14, h14_, h15_, h15__, h16_, h16__, h18, h18_, h19, h19_, h19__]) (by simp [-List.reduceReplicate, sOf_set, ofI_set, allU8_set, h1, h1_, h3, h3_, h5, h5_, h14, h14_, h15_, h15__, h16_, h16__, h18, h18_, h19, h19_, h19__]) (by simp) ?_
                  refine AW.condT (by decide) (by simp [-List.reduceReplicate, sOf_set, ofI_set, allU8_set, h1, h1_, h3, h3_, h5, h5_, h14, h14_, h15_, h15__, h16_, h16__, h18, h18_, h19, h19_, h19__]) ?_
                  refine AW.seqR mixed [] [none] (by kernel_rfl) fun G2053 R2053 hG2053 hR2053 => ?_
                  try simp [-List.reduceReplicate, sOf_set, ofI_set, allU8_set, h1, h1_, h3, h3_, h5, h5_, h14, h14_, h15_, h15__, h16_, h16__, h18, h18_, h19, h19_, h19__]
                  repeat' apply And.intro
                  any_goals (first | exact hG2053 _ (by kernel_rfl) | refine hR2053 _ _ _ ?_ | omega | (unfold maxLen; omega) | (simp [-List.reduceReplicate, sOf_set, ofI_set, allU8_set, h1, h1_, h3, h3_, h5, h5_, h14, h14_, h15_, h15__, h16_, h16__, h18, h18_, h19, h19_, h19__]; done) | (simp [-List.reduceReplicate, sOf_set, ofI_set, allU8_set, h1, h1_, h3, h3_, h5, h5_, h14, h14_, h15_, h15__, h16_, h16__, h18, h18_, h19, h19_, h19__]; omega))
                  refine AW.wk [(8, AV.bool false)] [] 2 (by simp [-List.reduceReplicate, sOf_set, ofI_set, allU8_set, h1, h1_, h3, h3_, h5, h5_, h14, h14_, h15_, h15__, h16_, h16__, h18, h18_, h19, h19_, h19__]) (by simp [-List.reduceReplicate, sOf_set, ofI_set, allU8_set, h1, h1_, h3, h3_, h5, h5_, h14, h14_, h15_, h15__, h16_, h16__, h18, h18_, h19, h19_, h19__]) (by simp) ?_
                  simp only [Option.some.injEq] at hF
                  subst hF
                  refine AW.ret (hQ _ _ _ ?_ (matchO_0 ?_)).1
                  · simp [Try.f9, h1, h1_, h3, h3_, h5, h5_, h14, h14_, h15_, h15__, h16_, h16__, h18, h18_, h19, h19_, h19__]
                  · simp [h1, h1_, h3, h3_, h5, h5_, h14, h14_, h15_, h15__, h16_, h16__, h18, h18_, h19, h19_, h19__]
                · replace hF := ite_f h19 hF
                  have h19q : v19 = v21 := Classical.not_not.1 h19
                  have h19_ := eqb_t h19q
                  have h19__ := neb_f h19q
                  by_cases h20 : v20 ≠ v22
                  · replace hF := ite_t h20 hF
                    have h20_ := eqb_f h20
                    have h20__ := neb_t h20
                    try simp [-List.reduceReplicate, sOf_set, ofI_set, allU8_set, h1, h1_, h3, h3_, h5, h5_, h14, h14_, h15_, h15__, h16_, h16__, h18, h18_, h19_, h19__, h20, h20_, h20__]
                    repeat' apply And.intro
                    any_goals (first | exact hG2048 _ (by kernel_rfl) | refine hR2048 _ _ _ ?_ | omega | (unfold maxLen; omega) | (simp [-List.reduceReplicate, sOf_set, ofI_set, allU8_set, h1, h1_, h3, h3_, h5, h5_, h14, h14_, h15_, h15__, h16_, h16__, h18, h18_, h19_, h19__, h20, h20_, h20__]; done) | (simp [-List.reduceReplicate, sOf_set, ofI_set, allU8_set, h1, h1_, h3, h3_, h5, h5_, h14, h14_, h15_, h15__, h16_, h16__, h18, h18_, h19_, h19__, h20, h20_, h20__]; omega))
                    refine AW.wk [(0, AV.str v7), (1, AV.str v1), (2, AV.lst false false (List.map (AV.int .i64) v8)), (3, AV.int .i64 v9), (9, AV.int .i64 v10), (144, AV.bool true)] [] 2 (by simp [-List.reduceReplicate, sOf_set, ofI_set, allU8_set, h1, h1_, h3, h3_, h5, h5_, h14, h14_, h15_, h15__, h16_, h16__, h18, h18_, h19_, h19__, h20, h20_, h20__]) (by simp [-List.reduceReplicate, sOf_set, ofI_set, allU8_set, h1, h1_, h3, h3_, h5, h5_, h14, h14_, h15_, h15__, h16_, h16__, h18, h18_, h19_, h19__, h20, h20_, h20__]) (by simp) ?_
                    refine AW.condT (by decide) (by simp [-List.reduceReplicate, sOf_set, ofI_set, allU8_set, h1, h1_, h3, h3_, h5, h5_, h14, h14_, h15_, h15__, h16_, h16__, h18, h18_, h19_, h19__, h20, h20_, h20__]) ?_
                    refine AW.seqR mixed [] [none] (by kernel_rfl) fun G2054 R2054 hG2054 hR2054 => ?_
                    try simp [-List.reduceReplicate, sOf_set, ofI_set, allU8_set, h1, h1_, h3, h3_, h5, h5_, h14, h14_, h15_, h15__, h16_, h16__, h18, h18_, h19_, h19__, h20, h20_, h20__]
                    repeat' apply And.intro
                    any_goals (first | exact hG2054 _ (by kernel_rfl) | refine hR2054 _ _ _ ?_ | omega | (unfold maxLen; omega) | (simp [-List.reduceReplicate, sOf_set, ofI_set, allU8_set, h1, h1_, h3, h3_, h5, h5_, h14, h14_, h15_, h15__, h16_, h16__, h18, h18_, h19_, h19__, h20, h20_, h20__]; done) | (simp [-List.reduceReplicate, sOf_set, ofI_set, allU8_set, h1, h1_, h3, h3_, h5, h5_, h14, h14_, h15_, h15__, h16_, h16__, h18, h18_, h19_, h19__, h20, h20_, h20__]; omega))
                    refine AW.wk [(8, AV.bool false)] [] 2 (by simp [-List.reduceReplicate, sOf_set, ofI_set, allU8_set, h1, h1_, h3, h3_, h5, h5_, h14, h14_, h15_, h15__, h16_, h16__, h18, h18_, h19_, h19__, h20, h20_, h20__]) (by simp [-List.reduceReplicate, sOf_set, ofI_set, allU8_set, h1, h1_, h3, h3_, h5, h5_, h14, h14_, h15_, h15__, h16_, h16__, h18, h18_, h19_, h19__, h20, h20_, h20__]) (by simp) ?_
                    simp only [Option.some.injEq] at hF
                    subst hF
                    refine AW.ret (hQ _ _ _ ?_ (matchO_0 ?_)).1
                    · simp [Try.f9, h1, h1_, h3, h3_, h5, h5_, h14, h14_, h15_, h15__, h16_, h16__, h18, h18_, h19_, h19__, h20, h20_, h20__]
                    · simp [h1, h1_, h3, h3_, h5, h5_, h14, h14_, h15_, h15__, h16_, h16__, h18, h18_, h19_, h19__, h20, h20_, h20__]
                  · replace hF := ite_f h20 hF
                    have h20q : v20 = v22 := Classical.not_not.1 h20
                    have h20_ := eqb_t h20q
                    have h20__ := neb_f h20q
                    by_cases h21 : (!strEq v23 v25) = true
                    · replace hF := ite_t h21 hF
                      have h21_ := h21
                      try simp [-List.reduceReplicate] at h21_
                      try simp [-List.reduceReplicate, sOf_set, ofI_set, allU8_set, h1, h1_, h3, h3_, h5, h5_, h14, h14_, h15_, h15__, h16_, h16__, h18, h18_, h19_, h19__, h20_, h20__, h21, h21_]
                      repeat' apply And.intro
                      any_goals (first | exact hG2048 _ (by kernel_rfl) | refine hR2048 _ _ _ ?_ | omega | (unfold maxLen; omega) | (simp [-List.reduceReplicate, sOf_set, ofI_set, allU8_set, h1, h1_, h3, h3_, h5, h5_, h14, h14_, h15_, h15__, h16_, h16__, h18, h18_, h19_, h19__, h20_, h20__, h21, h21_]; done) | (simp [-List.reduceReplicate, sOf_set, ofI_set, allU8_set, h1, h1_, h3, h3_, h5, h5_, h14, h14_, h15_, h15__, h16_, h16__, h18, h18_, h19_, h19__, h20_, h20__, h21, h21_]; omega))
                      refine AW.wk [(0, AV.str v7), (1, AV.str v1), (2, AV.lst false false (List.map (AV.int .i64) v8)), (3, AV.int .i64 v9), (9, AV.int .i64 v10), (144, AV.bool true)] [] 2 (by simp [-List.reduceReplicate, sOf_set, ofI_set, allU8_set, h1, h1_, h3, h3_, h5, h5_, h14, h14_, h15_, h15__, h16_, h16__, h18, h18_, h19_, h19__, h20_, h20__, h21, h21_]) (by simp [-List.reduceReplicate, sOf_set, ofI_set, allU8_set, h1, h1_, h3, h3_, h5, h5_, h14, h14_, h15_, h15__, h16_, h16__, h18, h18_, h19_, h19__, h20_, h20__, h21, h21_]) (by simp) ?_
                      refine AW.condT (by decide) (by simp [-List.reduceReplicate, sOf_set, ofI_set, allU8_set, h1, h1_, h3, h3_, h5, h5_, h14, h14_, h15_, h15__, h16_, h16__, h18, h18_, h19_, h19__, h20_, h20__, h21, h21_]) ?_
                      refine AW.seqR mixed [] [none] (by kernel_rfl) fun G2055 R2055 hG2055 hR2055 => ?_
                      try simp [-List.reduceReplicate, sOf_set, ofI_set, allU8_set, h1, h1_, h3, h3_, h5, h5_, h14, h14_, h15_, h15__, h16_, h16__, h18, h18_, h19_, h19__, h20_, h20__, h21, h21_]
                      repeat' apply And.intro
                      any_goals (first | exact hG2055 _ (by kernel_rfl) | refine hR2055 _ _ _ ?_ | omega | (unfold maxLen; omega) | (simp [-List.reduceReplicate, sOf_set, ofI_set, allU8_set, h1, h1_, h3, h3_, h5, h5_, h14, h14_, h15_, h15__, h16_, h16__, h18, h18_, h19_, h19__, h20_, h20__, h21, h21_]; done) | (simp [-List.reduceReplicate, sOf_set, ofI_set, allU8_set, h1, h1_, h3, h3_, h5, h5_, h14, h14_, h15_, h15__, h16_, h16__, h18, h18_, h19_, h19__, h20_, h20__, h21, h21_]; omega))
                      refine AW.wk [(8, AV.bool false)] [] 2 (by simp [-List.reduceReplicate, sOf_set, ofI_set, allU8_set, h1, h1_, h3, h3_, h5, h5_, h14, h14_, h15_, h15__, h16_, h16__, h18, h18_, h19_, h19__, h20_, h20__, h21, h21_]) (by simp [-List.reduceReplicate, sOf_set, ofI_set, allU8_set, h1, h1_, h3, h3_, h5, h5_, h14, h14_, h15_, h15__, h16_, h16__, h18, h18_, h19_, h19__, h20_, h20__, h21, h21_]) (by simp) ?_
                      simp only [Option.some.injEq] at hF
                      subst hF
                      refine AW.ret (hQ _ _ _ ?_ (matchO_0 ?_)).1
                      · simp [Try.f9, h1, h1_, h3, h3_, h5, h5_, h14, h14_, h15_, h15__, h16_, h16__, h18, h18_, h19_, h19__, h20_, h20__, h21, h21_]
                      · simp [h1, h1_, h3, h3_, h5, h5_, h14, h14_, h15_, h15__, h16_, h16__, h18, h18_, h19_, h19__, h20_, h20__, h21, h21_]
                    · replace hF := ite_f h21 hF
                      have h21_ := h21
                      try simp [-List.reduceReplicate] at h21_
                      by_cases h22 : v24 ≠ v26
                      · replace hF := ite_t h22 hF
                        have h22_ := eqb_f h22
                        have h22__ := neb_t h22
                        try simp [-List.reduceReplicate, sOf_set, ofI_set, allU8_set, h1, h1_, h3, h3_, h5, h5_, h14, h14_, h15_, h15__, h16_, h16__, h18, h18_, h19_, h19__, h20_, h20__, h21, h21_, h22, h22_, h22__]
                        repeat' apply And.intro
                        any_goals (first | exact hG2048 _ (by kernel_rfl) | refine hR2048 _ _ _ ?_ | omega | (unfold maxLen; omega) | (simp [-List.reduceReplicate, sOf_set, ofI_set, allU8_set, h1, h1_, h3, h3_, h5, h5_, h14, h14_, h15_, h15__, h16_, h16__, h18, h18_, h19_, h19__, h20_, h20__, h21, h21_, h22, h22_, h22__]; done) | (simp [-List.reduceReplicate, sOf_set, ofI_set, allU8_set, h1, h1_, h3, h3_, h5, h5_, h14, h14_, h15_, h15__, h16_, h16__, h18, h18_, h19_, h19__, h20_, h20__, h21, h21_, h22, h22_, h22__]; omega))
                        refine AW.wk [(0, AV.str v7), (1, AV.str v1), (2, AV.lst false false (List.map (AV.int .i64) v8)), (3, AV.int .i64 v9), (9, AV.int .i64 v10), (144, AV.bool true)] [] 2 (by simp [-List.reduceReplicate, sOf_set, ofI_set, allU8_set, h1, h1_, h3, h3_, h5, h5_, h14, h14_, h15_, h15__, h16_, h16__, h18, h18_, h19_, h19__, h20_, h20__, h21, h21_, h22, h22_, h22__]) (by simp [-List.reduceReplicate, sOf_set, ofI_set, allU8_set, h1, h1_, h3, h3_, h5, h5_, h14, h14_, h15_, h15__, h16_, h16__, h18, h18_, h19_, h19__, h20_, h20__, h21, h21_, h22, h22_, h22__]) (by simp) ?_
                        refine AW.condT (by decide) (by simp [-List.reduceReplicate, sOf_set, ofI_set, allU8_set, h1, h1_, h3, h3_, h5, h5_, h14, h14_, h15_, h15__, h16_, h16__, h18, h18_, h19_, h19__, h20_, h20__, h21, h21_, h22, h22_, h22__]) ?_
                        refine AW.seqR mixed [] [none] (by kernel_rfl) fun G2056 R2056 hG2056 hR2056 => ?_
                        try simp [-List.reduceReplicate, sOf_set, ofI_set, allU8_set, h1, h1_, h3, h3_, h5, h5_, h14, h14_, h15_, h15__, h16_, h16__, h18, h18_, h19_, h19__, h20_, h20__, h21, h21_, h22, h22_, h22__]
                        repeat' apply And.intro
                        any_goals (first | exact hG2056 _ (by kernel_rfl) | refine hR2056 _ _ _ ?_ | omega | (unfold maxLen; omega) | (simp [-List.reduceReplicate, sOf_set, ofI_set, allU8_set, h1, h1_, h3, h3_, h5, h5_, h14, h14_, h15_, h15__, h16_, h16__, h18, h18_, h19_, h19__, h20_, h20__, h21, h21_, h22, h22_, h22__]; done) | (simp [-List.reduceReplicate, sOf_set, ofI_set, allU8_set, h1, h1_, h3, h3_, h5, h5_, h14, h14_, h15_, h15__, h16_, h16__, h18, h18_, h19_, h19__, h20_, h20__, h21, h21_, h22, h22_, h22__]; omega))
                        refine AW.wk [(8, AV.bool false)] [] 2 (by simp [-List.reduceReplicate, sOf_set, ofI_set, allU8_set, h1, h1_, h3, h3_, h5, h5_, h14, h14_, h15_, h15__, h16_, h16__, h18, h18_, h19_, h19__, h20_, h20__, h21, h21_, h22, h22_, h22__]) (by simp [-List.reduceReplicate, sOf_set, ofI_set, allU8_set, h1, h1_, h3, h3_, h5, h5_, h14, h14_, h15_, h15__, h16_, h16__, h18, h18_, h19_, h19__, h20_, h20__, h21, h21_, h22, h22_, h22__]) (by simp) ?_
                        simp only [Option.some.injEq] at hF
                        subst hF
                        refine AW.ret (hQ _ _ _ ?_ (matchO_0 ?_)).1
                        · simp [Try.f9, h1, h1_, h3, h3_, h5, h5_, h14, h14_, h15_, h15__, h16_, h16__, h18, h18_, h19_, h19__, h20_, h20__, h21, h21_, h22, h22_, h22__]
                        · simp [h1, h1_, h3, h3_, h5, h5_, h14, h14_, h15_, h15__, h16_, h16__, h18, h18_, h19_, h19__, h20_, h20__, h21, h21_, h22, h22_, h22__]
                      · replace hF := ite_f h22 hF
                        have h22q : v24 = v26 := Classical.not_not.1 h22
                        have h22_ := eqb_t h22q
                        have h22__ := neb_f h22q
                        try simp [-List.reduceReplicate, sOf_set, ofI_set, allU8_set, h1, h1_, h3, h3_, h5, h5_, h14, h14_, h15_, h15__, h16_, h16__, h18, h18_, h19_, h19__, h20_, h20__, h21, h21_, h22_, h22__]
                        repeat' apply And.intro
                        try any_goals (first | omega | (unfold maxLen; omega) | (simp [-List.reduceReplicate, sOf_set, ofI_set, allU8_set, h1, h1_, h3, h3_, h5, h5_, h14, h14_, h15_, h15__, h16_, h16__, h18, h18_, h19_, h19__, h20_, h20__, h21, h21_, h22_, h22__]; done))
                        obtain ⟨v28, h23, hF⟩ := bnd1_elim hF
                        refine aCall_l (w_beacon_Opens k _ _ _ _ h23) (by simp) [] [] [] rfl (.cons (.same (by simp [-List.reduceReplicate, sOf_set, ofI_set, allU8_set, h1, h1_, h3, h3_, h5, h5_, h14, h14_, h15_, h15__, h16_, h16__, h18, h18_, h19_, h19__, h20_, h20__, h21, h21_, h22_, h22__])) (.cons (.same (by simp [-List.reduceReplicate, sOf_set, ofI_set, allU8_set, h1, h1_, h3, h3_, h5, h5_, h14, h14_, h15_, h15__, h16_, h16__, h18, h18_, h19_, h19__, h20_, h20__, h21, h21_, h22_, h22__])) (.cons (.same (by simp [-List.reduceReplicate, sOf_set, ofI_set, allU8_set, h1, h1_, h3, h3_, h5, h5_, h14, h14_, h15_, h15__, h16_, h16__, h18, h18_, h19_, h19__, h20_, h20__, h21, h21_, h22_, h22__])) .nil))) (by simp [-List.reduceReplicate, sOf_set, ofI_set, allU8_set, h1, h1_, h3, h3_, h5, h5_, h14, h14_, h15_, h15__, h16_, h16__, h18, h18_, h19_, h19__, h20_, h20__, h21, h21_, h22_, h22__]) (by decide) (by simp) (by simp) (.inl rfl) (by simp) (by simp) ?_
                        try simp [-List.reduceReplicate, sOf_set, ofI_set, allU8_set, h1, h1_, h3, h3_, h5, h5_, h14, h14_, h15_, h15__, h16_, h16__, h18, h18_, h19_, h19__, h20_, h20__, h21, h21_, h22_, h22__]
                        repeat' apply And.intro
                        try any_goals (first | omega | (unfold maxLen; omega) | (simp [-List.reduceReplicate, sOf_set, ofI_set, allU8_set, h1, h1_, h3, h3_, h5, h5_, h14, h14_, h15_, h15__, h16_, h16__, h18, h18_, h19_, h19__, h20_, h20__, h21, h21_, h22_, h22__]; done))
                        obtain ⟨v29, h24, hF⟩ := bnd1_elim hF
                        refine aCall_l (w_ref25_Opens k _ _ _ _ h24) (by simp) [] [] [] rfl (.cons (.same (by simp [-List.reduceReplicate, sOf_set, ofI_set, allU8_set, h1, h1_, h3, h3_, h5, h5_, h14, h14_, h15_, h15__, h16_, h16__, h18, h18_, h19_, h19__, h20_, h20__, h21, h21_, h22_, h22__])) (.cons (.same (by simp [-List.reduceReplicate, sOf_set, ofI_set, allU8_set, h1, h1_, h3, h3_, h5, h5_, h14, h14_, h15_, h15__, h16_, h16__, h18, h18_, h19_, h19__, h20_, h20__, h21, h21_, h22_, h22__])) (.cons (.same (by simp [-List.reduceReplicate, sOf_set, ofI_set, allU8_set, h1, h1_, h3, h3_, h5, h5_, h14, h14_, h15_, h15__, h16_, h16__, h18, h18_, h19_, h19__, h20_, h20__, h21, h21_, h22_, h22__])) .nil))) (by simp [-List.reduceReplicate, sOf_set, ofI_set, allU8_set, h1, h1_, h3, h3_, h5, h5_, h14, h14_, h15_, h15__, h16_, h16__, h18, h18_, h19_, h19__, h20_, h20__, h21, h21_, h22_, h22__]) (by decide) (by simp) (by simp) (.inl rfl) (by simp) (by simp) ?_
                        try simp [-List.reduceReplicate, sOf_set, ofI_set, allU8_set, h1, h1_, h3, h3_, h5, h5_, h14, h14_, h15_, h15__, h16_, h16__, h18, h18_, h19_, h19__, h20_, h20__, h21, h21_, h22_, h22__]
                        repeat' apply And.intro
                        any_goals (first | exact hG2048 _ (by kernel_rfl) | refine hR2048 _ _ _ ?_ | omega | (unfold maxLen; omega) | (simp [-List.reduceReplicate, sOf_set, ofI_set, allU8_set, h1, h1_, h3, h3_, h5, h5_, h14, h14_, h15_, h15__, h16_, h16__, h18, h18_, h19_, h19__, h20_, h20__, h21, h21_, h22_, h22__]; done) | (simp [-List.reduceReplicate, sOf_set, ofI_set, allU8_set, h1, h1_, h3, h3_, h5, h5_, h14, h14_, h15_, h15__, h16_, h16__, h18, h18_, h19_, h19__, h20_, h20__, h21, h21_, h22_, h22__]; omega))
                        refine AW.wk [(0, AV.str v7), (1, AV.str v1), (2, AV.lst false false (List.map (AV.int .i64) v8)), (3, AV.int .i64 v9), (9, AV.int .i64 v10), (144, AV.bool (v28 != v29))] [] 2 (by simp [-List.reduceReplicate, sOf_set, ofI_set, allU8_set, h1, h1_, h3, h3_, h5, h5_, h14, h14_, h15_, h15__, h16_, h16__, h18, h18_, h19_, h19__, h20_, h20__, h21, h21_, h22_, h22__]) (by simp [-List.reduceReplicate, sOf_set, ofI_set, allU8_set, h1, h1_, h3, h3_, h5, h5_, h14, h14_, h15_, h15__, h16_, h16__, h18, h18_, h19_, h19__, h20_, h20__, h21, h21_, h22_, h22__]) (by simp) ?_
                        by_cases h25 : (v28 != v29) = true
                        · replace hF := ite_t h25 hF
                          have h25_ := h25
                          try simp [-List.reduceReplicate] at h25_
                          refine AW.condT (by decide) (by first | (simp [-List.reduceReplicate, sOf_set, ofI_set, allU8_set, h1, h1_, h3, h3_, h5, h5_, h14, h14_, h15_, h15__, h16_, h16__, h18, h18_, h19_, h19__, h20_, h20__, h21, h21_, h22_, h22__, h25, h25_]; done) | (simp [-List.reduceReplicate, sOf_set, ofI_set, allU8_set, h1, h1_, h3, h3_, h5, h5_, h14, h14_, h15_, h15__, h16_, h16__, h18, h18_, h19_, h19__, h20_, h20__, h21, h21_, h22_, h22__, h25, h25_]; omega)) ?_
                          refine AW.seqR mixed [] [none] (by kernel_rfl) fun G2057 R2057 hG2057 hR2057 => ?_
                          try simp [-List.reduceReplicate, sOf_set, ofI_set, allU8_set, h1, h1_, h3, h3_, h5, h5_, h14, h14_, h15_, h15__, h16_, h16__, h18, h18_, h19_, h19__, h20_, h20__, h21, h21_, h22_, h22__, h25, h25_]
                          repeat' apply And.intro
                          any_goals (first | exact hG2057 _ (by kernel_rfl) | refine hR2057 _ _ _ ?_ | omega | (unfold maxLen; omega) | (simp [-List.reduceReplicate, sOf_set, ofI_set, allU8_set, h1, h1_, h3, h3_, h5, h5_, h14, h14_, h15_, h15__, h16_, h16__, h18, h18_, h19_, h19__, h20_, h20__, h21, h21_, h22_, h22__, h25, h25_]; done) | (simp [-List.reduceReplicate, sOf_set, ofI_set, allU8_set, h1, h1_, h3, h3_, h5, h5_, h14, h14_, h15_, h15__, h16_, h16__, h18, h18_, h19_, h19__, h20_, h20__, h21, h21_, h22_, h22__, h25, h25_]; omega))
                          refine AW.wk [(8, AV.bool false)] [] 2 (by simp [-List.reduceReplicate, sOf_set, ofI_set, allU8_set, h1, h1_, h3, h3_, h5, h5_, h14, h14_, h15_, h15__, h16_, h16__, h18, h18_, h19_, h19__, h20_, h20__, h21, h21_, h22_, h22__, h25, h25_]) (by simp [-List.reduceReplicate, sOf_set, ofI_set, allU8_set, h1, h1_, h3, h3_, h5, h5_, h14, h14_, h15_, h15__, h16_, h16__, h18, h18_, h19_, h19__, h20_, h20__, h21, h21_, h22_, h22__, h25, h25_]) (by simp) ?_
                          simp only [Option.some.injEq] at hF
                          subst hF
                          refine AW.ret (hQ _ _ _ ?_ (matchO_0 ?_)).1
                          · simp [Try.f9, h1, h1_, h3, h3_, h5, h5_, h14, h14_, h15_, h15__, h16_, h16__, h18, h18_, h19_, h19__, h20_, h20__, h21, h21_, h22_, h22__, h25, h25_]
                          · simp [h1, h1_, h3, h3_, h5, h5_, h14, h14_, h15_, h15__, h16_, h16__, h18, h18_, h19_, h19__, h20_, h20__, h21, h21_, h22_, h22__, h25, h25_]
                        · replace hF := ite_f h25 hF
                          have h25_ := h25
                          try simp [-List.reduceReplicate] at h25_
                          refine AW.condF (by decide) (by first | (simp [-List.reduceReplicate, sOf_set, ofI_set, allU8_set, h1, h1_, h3, h3_, h5, h5_, h14, h14_, h15_, h15__, h16_, h16__, h18, h18_, h19_, h19__, h20_, h20__, h21, h21_, h22_, h22__, h25, h25_]; done) | (simp [-List.reduceReplicate, sOf_set, ofI_set, allU8_set, h1, h1_, h3, h3_, h5, h5_, h14, h14_, h15_, h15__, h16_, h16__, h18, h18_, h19_, h19__, h20_, h20__, h21, h21_, h22_, h22__, h25, h25_]; omega)) ?_
                          refine AW.skip ?_
                          refine hK2047 _ _ _ ?_
                          refine AW.seqR mixed [] [none, none, none, none, none, none] (by kernel_rfl) fun G2058 R2058 hG2058 hR2058 => ?_
                          obtain ⟨h26, hF⟩ := chk_elim hF
                          obtain ⟨h27, hF⟩ := chk_elim hF
                          have h27_ := h27
                          try simp [-List.reduceReplicate] at h27_
                          obtain ⟨h28, hF⟩ := chk_elim hF
                          have h28_ := h28
                          try simp [-List.reduceReplicate] at h28_
                          try simp [-List.reduceReplicate, sOf_set, ofI_set, allU8_set, h1, h1_, h3, h3_, h5, h5_, h14, h14_, h15_, h15__, h16_, h16__, h18, h18_, h19_, h19__, h20_, h20__, h21, h21_, h22_, h22__, h25, h25_, h26, h27, h27_, h28, h28_]
                          repeat' apply And.intro
                          any_goals (first | exact hG2058 _ (by kernel_rfl) | refine hR2058 _ _ _ ?_ | omega | (unfold maxLen; omega) | (simp [-List.reduceReplicate, sOf_set, ofI_set, allU8_set, h1, h1_, h3, h3_, h5, h5_, h14, h14_, h15_, h15__, h16_, h16__, h18, h18_, h19_, h19__, h20_, h20__, h21, h21_, h22_, h22__, h25, h25_, h26, h27, h27_, h28, h28_]; done) | (simp [-List.reduceReplicate, sOf_set, ofI_set, allU8_set, h1, h1_, h3, h3_, h5, h5_, h14, h14_, h15_, h15__, h16_, h16__, h18, h18_, h19_, h19__, h20_, h20__, h21, h21_, h22_, h22__, h25, h25_, h26, h27, h27_, h28, h28_]; omega))
                          refine AW.wk [(0, AV.str ((v7 ++ (ofI (List.replicate (32 : Int).toNat 0))).extract 0 (32 : Int).toNat)), (1, AV.str v1), (2, AV.lst false false (List.map (AV.int .i64) v8)), (3, AV.int .i64 v9), (9, AV.int .i64 v10)] [] 2 (by simp [-List.reduceReplicate, sOf_set, ofI_set, allU8_set, h1, h1_, h3, h3_, h5, h5_, h14, h14_, h15_, h15__, h16_, h16__, h18, h18_, h19_, h19__, h20_, h20__, h21, h21_, h22_, h22__, h25, h25_, h26, h27, h27_, h28, h28_]) (by simp [-List.reduceReplicate, sOf_set, ofI_set, allU8_set, h1, h1_, h3, h3_, h5, h5_, h14, h14_, h15_, h15__, h16_, h16__, h18, h18_, h19_, h19__, h20_, h20__, h21, h21_, h22_, h22__, h25, h25_, h26, h27, h27_, h28, h28_]) (by simp) ?_
                          refine AW.seqR mixed [] [none, none, none] (by kernel_rfl) fun G2059 R2059 hG2059 hR2059 => ?_
                          try simp [-List.reduceReplicate, sOf_set, ofI_set, allU8_set, h1, h1_, h3, h3_, h5, h5_, h14, h14_, h15_, h15__, h16_, h16__, h18, h18_, h19_, h19__, h20_, h20__, h21, h21_, h22_, h22__, h25, h25_, h26, h27, h27_, h28, h28_]
                          repeat' apply And.intro
                          try any_goals (first | omega | (unfold maxLen; omega) | (simp [-List.reduceReplicate, sOf_set, ofI_set, allU8_set, h1, h1_, h3, h3_, h5, h5_, h14, h14_, h15_, h15__, h16_, h16__, h18, h18_, h19_, h19__, h20_, h20__, h21, h21_, h22_, h22__, h25, h25_, h26, h27, h27_, h28, h28_]; done))
                          obtain ⟨v30, h29, hF⟩ := bnd1_elim hF
                          refine aCall_l (w_mill_Mod k _ _ _ h29) (by simp) [] [] [] rfl (.cons (.same (by simp [-List.reduceReplicate, sOf_set, ofI_set, allU8_set, h1, h1_, h3, h3_, h5, h5_, h14, h14_, h15_, h15__, h16_, h16__, h18, h18_, h19_, h19__, h20_, h20__, h21, h21_, h22_, h22__, h25, h25_, h26, h27, h27_, h28, h28_])) (.cons (.same (by simp [-List.reduceReplicate, sOf_set, ofI_set, allU8_set, h1, h1_, h3, h3_, h5, h5_, h14, h14_, h15_, h15__, h16_, h16__, h18, h18_, h19_, h19__, h20_, h20__, h21, h21_, h22_, h22__, h25, h25_, h26, h27, h27_, h28, h28_])) .nil)) (by simp [-List.reduceReplicate, sOf_set, ofI_set, allU8_set, h1, h1_, h3, h3_, h5, h5_, h14, h14_, h15_, h15__, h16_, h16__, h18, h18_, h19_, h19__, h20_, h20__, h21, h21_, h22_, h22__, h25, h25_, h26, h27, h27_, h28, h28_]) (by decide) (by simp) (by simp) (.inl rfl) (by simp) (by simp) ?_
                          try simp [-List.reduceReplicate, sOf_set, ofI_set, allU8_set, h1, h1_, h3, h3_, h5, h5_, h14, h14_, h15_, h15__, h16_, h16__, h18, h18_, h19_, h19__, h20_, h20__, h21, h21_, h22_, h22__, h25, h25_, h26, h27, h27_, h28, h28_]
                          repeat' apply And.intro
                          any_goals (first | exact hG2059 _ (by kernel_rfl) | refine hR2059 _ _ _ ?_ | omega | (unfold maxLen; omega) | (simp [-List.reduceReplicate, sOf_set, ofI_set, allU8_set, h1, h1_, h3, h3_, h5, h5_, h14, h14_, h15_, h15__, h16_, h16__, h18, h18_, h19_, h19__, h20_, h20__, h21, h21_, h22_, h22__, h25, h25_, h26, h27, h27_, h28, h28_]; done) | (simp [-List.reduceReplicate, sOf_set, ofI_set, allU8_set, h1, h1_, h3, h3_, h5, h5_, h14, h14_, h15_, h15__, h16_, h16__, h18, h18_, h19_, h19__, h20_, h20__, h21, h21_, h22_, h22__, h25, h25_, h26, h27, h27_, h28, h28_]; omega))
                          refine AW.wk [(0, AV.str ((v7 ++ (ofI (List.replicate (32 : Int).toNat 0))).extract 0 (32 : Int).toNat)), (1, AV.str v1), (2, AV.lst false false (List.map (AV.int .i64) v8)), (3, AV.int .i64 v30), (9, AV.int .i64 v10)] [] 2 (by simp [-List.reduceReplicate, sOf_set, ofI_set, allU8_set, h1, h1_, h3, h3_, h5, h5_, h14, h14_, h15_, h15__, h16_, h16__, h18, h18_, h19_, h19__, h20_, h20__, h21, h21_, h22_, h22__, h25, h25_, h26, h27, h27_, h28, h28_]) (by simp [-List.reduceReplicate, sOf_set, ofI_set, allU8_set, h1, h1_, h3, h3_, h5, h5_, h14, h14_, h15_, h15__, h16_, h16__, h18, h18_, h19_, h19__, h20_, h20__, h21, h21_, h22_, h22__, h25, h25_, h26, h27, h27_, h28, h28_]) (by simp) ?_
                          refine AW.seqR mixed [158] [none, none, none, none, none, none, none, none] (by kernel_rfl) fun G2060 R2060 hG2060 hR2060 => ?_
                          obtain ⟨v31, h30, hF⟩ := let1_elim hF
                          have h30_ := h30
                          try simp [-List.reduceReplicate] at h30_
                          obtain ⟨⟨h31, h32⟩, hF⟩ := chk_elim hF
                          have h31_ := h31
                          try simp [-List.reduceReplicate] at h31_
                          have h32_ := h32
                          try simp [-List.reduceReplicate] at h32_
                          obtain ⟨h33, hF⟩ := chk_elim hF
                          have h33_ := h33
                          try simp [-List.reduceReplicate] at h33_
                          try simp [-List.reduceReplicate, sOf_set, ofI_set, allU8_set, h1, h1_, h3, h3_, h5, h5_, h14, h14_, h15_, h15__, h16_, h16__, h18, h18_, h19_, h19__, h20_, h20__, h21, h21_, h22_, h22__, h25, h25_, h26, h27, h27_, h28, h28_, h30, h30_, h31, h32, h31_, h32_, h33]
                          repeat' apply And.intro
                          any_goals (first | exact hG2060 _ (by kernel_rfl) | refine hR2060 _ _ _ ?_ | omega | (unfold maxLen; omega) | (simp [-List.reduceReplicate, sOf_set, ofI_set, allU8_set, h1, h1_, h3, h3_, h5, h5_, h14, h14_, h15_, h15__, h16_, h16__, h18, h18_, h19_, h19__, h20_, h20__, h21, h21_, h22_, h22__, h25, h25_, h26, h27, h27_, h28, h28_, h30, h30_, h31, h32, h31_, h32_, h33]; done) | (simp [-List.reduceReplicate, sOf_set, ofI_set, allU8_set, h1, h1_, h3, h3_, h5, h5_, h14, h14_, h15_, h15__, h16_, h16__, h18, h18_, h19_, h19__, h20_, h20__, h21, h21_, h22_, h22__, h25, h25_, h26, h27, h27_, h28, h28_, h30, h30_, h31, h32, h31_, h32_, h33]; omega))
                          refine AW.wk [(0, AV.str ((v7 ++ (ofI (List.replicate (32 : Int).toNat 0))).extract 0 (32 : Int).toNat)), (1, AV.str v1), (2, AV.slc 2 0 1 ((v8.take (v31).toNat).length) false), (3, AV.int .i64 v30), (9, AV.int .i64 v10)] [(2, .grow (List.map (AV.int .i64) (v8.take (v31).toNat)))] 3 (by simp [-List.reduceReplicate, sOf_set, ofI_set, allU8_set, h1, h1_, h3, h3_, h5, h5_, h14, h14_, h15_, h15__, h16_, h16__, h18, h18_, h19_, h19__, h20_, h20__, h21, h21_, h22_, h22__, h25, h25_, h26, h27, h27_, h28, h28_, h30, h30_, h31, h32, h31_, h32_, h33]) (by simp [-List.reduceReplicate, sOf_set, ofI_set, allU8_set, h1, h1_, h3, h3_, h5, h5_, h14, h14_, h15_, h15__, h16_, h16__, h18, h18_, h19_, h19__, h20_, h20__, h21, h21_, h22_, h22__, h25, h25_, h26, h27, h27_, h28, h28_, h30, h30_, h31, h32, h31_, h32_, h33]) (by simp) ?_
                          refine AW.seqR mixed [] [none] (by kernel_rfl) fun G2061 R2061 hG2061 hR2061 => ?_
                          try simp [-List.reduceReplicate, sOf_set, ofI_set, allU8_set, h1, h1_, h3, h3_, h5, h5_, h14, h14_, h15_, h15__, h16_, h16__, h18, h18_, h19_, h19__, h20_, h20__, h21, h21_, h22_, h22__, h25, h25_, h26, h27, h27_, h28, h28_, h30, h30_, h31, h32, h31_, h32_, h33]
                          repeat' apply And.intro
                          any_goals (first | exact hG2061 _ (by kernel_rfl) | refine hR2061 _ _ _ ?_ | omega | (unfold maxLen; omega) | (simp [-List.reduceReplicate, sOf_set, ofI_set, allU8_set, h1, h1_, h3, h3_, h5, h5_, h14, h14_, h15_, h15__, h16_, h16__, h18, h18_, h19_, h19__, h20_, h20__, h21, h21_, h22_, h22__, h25, h25_, h26, h27, h27_, h28, h28_, h30, h30_, h31, h32, h31_, h32_, h33]; done) | (simp [-List.reduceReplicate, sOf_set, ofI_set, allU8_set, h1, h1_, h3, h3_, h5, h5_, h14, h14_, h15_, h15__, h16_, h16__, h18, h18_, h19_, h19__, h20_, h20__, h21, h21_, h22_, h22__, h25, h25_, h26, h27, h27_, h28, h28_, h30, h30_, h31, h32, h31_, h32_, h33]; omega))
                          refine AW.wk [(0, AV.str ((v7 ++ (ofI (List.replicate (32 : Int).toNat 0))).extract 0 (32 : Int).toNat)), (1, AV.str v1), (2, AV.slc 2 0 1 ((v8.take (v31).toNat).length) false), (3, AV.int .i64 v30), (9, AV.int .i64 v10), (26, AV.int .i64 0)] [(2, .grow (List.map (AV.int .i64) (v8.take (v31).toNat)))] 3 (by simp [-List.reduceReplicate, sOf_set, ofI_set, allU8_set, h1, h1_, h3, h3_, h5, h5_, h14, h14_, h15_, h15__, h16_, h16__, h18, h18_, h19_, h19__, h20_, h20__, h21, h21_, h22_, h22__, h25, h25_, h26, h27, h27_, h28, h28_, h30, h30_, h31, h32, h31_, h32_, h33]) (by simp [-List.reduceReplicate, sOf_set, ofI_set, allU8_set, h1, h1_, h3, h3_, h5, h5_, h14, h14_, h15_, h15__, h16_, h16__, h18, h18_, h19_, h19__, h20_, h20__, h21, h21_, h22_, h22__, h25, h25_, h26, h27, h27_, h28, h28_, h30, h30_, h31, h32, h31_, h32_, h33]) (by simp) ?_
                          refine AW.block ?_
                          refine AW.rnm (m := 0) h0 [(0, 2)] [(0, AV.str ((v7 ++ (ofI (List.replicate (32 : Int).toNat 0))).extract 0 (32 : Int).toNat)), (1, AV.str v1), (2, AV.slc 0 0 1 ((v8.take (v31).toNat).length) false), (3, AV.int .i64 v30), (9, AV.int .i64 v10), (26, AV.int .i64 0)] [(0, .grow (List.map (AV.int .i64) (v8.take (v31).toNat)))] 1 (by decide) (by decide) (by decide) rfl (by simp [-List.reduceReplicate, sOf_set, ofI_set, allU8_set, h1, h1_, h3, h3_, h5, h5_, h14, h14_, h15_, h15__, h16_, h16__, h18, h18_, h19_, h19__, h20_, h20__, h21, h21_, h22_, h22__, h25, h25_, h26, h27, h27_, h28, h28_, h30, h30_, h31, h32, h31_, h32_, h33]) (by simp [-List.reduceReplicate, sOf_set, ofI_set, allU8_set, h1, h1_, h3, h3_, h5, h5_, h14, h14_, h15_, h15__, h16_, h16__, h18, h18_, h19_, h19__, h20_, h20__, h21, h21_, h22_, h22__, h25, h25_, h26, h27, h27_, h28, h28_, h30, h30_, h31, h32, h31_, h32_, h33]) ?_
                          refine AW.loopF (α := (Int × (List Int))) (fun n (v32, v33) => law25_BeaconRaw.L2 k v7 v10 v30 (fun v7_ v8_ v9_ v10_ => law25_BeaconRaw.L1 k v1 n1 v7_ v8_ v9_ v10_) n v32 v33 = some v4) (fun (v32, v33) => [(0, AV.str ((v7 ++ (ofI (List.replicate (32 : Int).toNat 0))).extract 0 (32 : Int).toNat)), (1, AV.str v1), (2, AV.slc 0 0 1 v33.length false), (3, AV.int .i64 v30), (9, AV.int .i64 v10), (26, AV.int .i64 v32)]) (fun (v32, v33) => [(0, .grow (List.map (AV.int .i64) v33))]) 1 k ((0, v8.take (v31).toNat)) hF (by simp [-List.reduceReplicate, sOf_set, ofI_set, allU8_set, h1, h1_, h3, h3_, h5, h5_, h14, h14_, h15_, h15__, h16_, h16__, h18, h18_, h19_, h19__, h20_, h20__, h21, h21_, h22_, h22__, h25, h25_, h26, h27, h27_, h28, h28_, h30, h30_, h31, h32, h31_, h32_, h33]) (by simp [-List.reduceReplicate, sOf_set, ofI_set, allU8_set, h1, h1_, h3, h3_, h5, h5_, h14, h14_, h15_, h15__, h16_, h16__, h18, h18_, h19_, h19__, h20_, h20__, h21, h21_, h22_, h22__, h25, h25_, h26, h27, h27_, h28, h28_, h30, h30_, h31, h32, h31_, h32_, h33]) (by simp) ?_
                          rintro (_|n2) ⟨v32, v33⟩ hF K2083 hK2083
                          · try dsimp only at hF
                            rw [law25_BeaconRaw.L2] at hF; cases hF
                          try dsimp only at hF
                          rw [law25_BeaconRaw.L2] at hF
                          refine AW.seq fun K2085 hK2085 => ?_
                          refine AW.seqR mixed [] [none, none, none, none] (by kernel_rfl) fun G2086 R2086 hG2086 hR2086 => ?_
                          try simp [-List.reduceReplicate, sOf_set, ofI_set, allU8_set, h1, h1_, h3, h3_, h5, h5_, h14, h14_, h15_, h15__, h16_, h16__, h18, h18_, h19_, h19__, h20_, h20__, h21, h21_, h22_, h22__, h25, h25_, h26, h27, h27_, h28, h28_, h30, h30_, h31, h32, h31_, h32_, h33]
                          repeat' apply And.intro
                          any_goals (first | exact hG2086 _ (by kernel_rfl) | refine hR2086 _ _ _ ?_ | omega | (unfold maxLen; omega) | (simp [-List.reduceReplicate, sOf_set, ofI_set, allU8_set, h1, h1_, h3, h3_, h5, h5_, h14, h14_, h15_, h15__, h16_, h16__, h18, h18_, h19_, h19__, h20_, h20__, h21, h21_, h22_, h22__, h25, h25_, h26, h27, h27_, h28, h28_, h30, h30_, h31, h32, h31_, h32_, h33]; done) | (simp [-List.reduceReplicate, sOf_set, ofI_set, allU8_set, h1, h1_, h3, h3_, h5, h5_, h14, h14_, h15_, h15__, h16_, h16__, h18, h18_, h19_, h19__, h20_, h20__, h21, h21_, h22_, h22__, h25, h25_, h26, h27, h27_, h28, h28_, h30, h30_, h31, h32, h31_, h32_, h33]; omega))
                          refine AW.wk [(0, AV.str ((v7 ++ (ofI (List.replicate (32 : Int).toNat 0))).extract 0 (32 : Int).toNat)), (1, AV.str v1), (2, AV.slc 0 0 1 v33.length false), (3, AV.int .i64 v30), (9, AV.int .i64 v10), (26, AV.int .i64 v32), (162, AV.bool (decide (v32 < (v33.length : Int))))] [(0, .grow (List.map (AV.int .i64) v33))] 1 (by simp [-List.reduceReplicate, sOf_set, ofI_set, allU8_set, h1, h1_, h3, h3_, h5, h5_, h14, h14_, h15_, h15__, h16_, h16__, h18, h18_, h19_, h19__, h20_, h20__, h21, h21_, h22_, h22__, h25, h25_, h26, h27, h27_, h28, h28_, h30, h30_, h31, h32, h31_, h32_, h33]) (by simp [-List.reduceReplicate, sOf_set, ofI_set, allU8_set, h1, h1_, h3, h3_, h5, h5_, h14, h14_, h15_, h15__, h16_, h16__, h18, h18_, h19_, h19__, h20_, h20__, h21, h21_, h22_, h22__, h25, h25_, h26, h27, h27_, h28, h28_, h30, h30_, h31, h32, h31_, h32_, h33]) (by simp) ?_
                          by_cases h34 : v32 < (v33.length : Int)
                          · replace hF := ite_t h34 hF
                            have h34_ := h34
                            try simp [-List.reduceReplicate] at h34_
                            refine AW.condT (by decide) (by first | (simp [-List.reduceReplicate, sOf_set, ofI_set, allU8_set, h1, h1_, h3, h3_, h5, h5_, h14, h14_, h15_, h15__, h16_, h16__, h18, h18_, h19_, h19__, h20_, h20__, h21, h21_, h22_, h22__, h25, h25_, h26, h27, h27_, h28, h28_, h30, h30_, h31, h32, h31_, h32_, h33, h34, h34_]; done) | (simp [-List.reduceReplicate, sOf_set, ofI_set, allU8_set, h1, h1_, h3, h3_, h5, h5_, h14, h14_, h15_, h15__, h16_, h16__, h18, h18_, h19_, h19__, h20_, h20__, h21, h21_, h22_, h22__, h25, h25_, h26, h27, h27_, h28, h28_, h30, h30_, h31, h32, h31_, h32_, h33, h34, h34_]; omega)) ?_
                            refine AW.skip ?_
                            refine hK2085 _ _ _ ?_
                            refine AW.seq fun K2088 hK2088 => ?_
                            refine AW.block ?_
                            refine AW.region mixed [] [none, none, none, none, none, none, none, none, none] (by kernel_rfl) fun G2089 R2089 hG2089 hR2089 => ?_
                            obtain ⟨⟨h35, h36⟩, hF⟩ := chk_elim hF
                            have h36_ := ne_of_lt h36
                            obtain ⟨v34, h37, h38, h39, hF⟩ := idx_elim hF
                            have h39_ := get_of h39
                            try simp [-List.reduceReplicate] at h39_
                            have h38_ := h38
                            try simp [-List.reduceReplicate] at h38_
                            try simp [-List.reduceReplicate, sOf_set, ofI_set, allU8_set, h1, h1_, h3, h3_, h5, h5_, h14, h14_, h15_, h15__, h16_, h16__, h18, h18_, h19_, h19__, h20_, h20__, h21, h21_, h22_, h22__, h25, h25_, h26, h27, h27_, h28, h28_, h30, h30_, h31, h32, h31_, h32_, h33, h34, h34_, h35, h36, h36_, h37, h38, h39, h39_, h38_]
                            repeat' apply And.intro
                            try any_goals (first | omega | (unfold maxLen; omega) | (simp [-List.reduceReplicate, sOf_set, ofI_set, allU8_set, h1, h1_, h3, h3_, h5, h5_, h14, h14_, h15_, h15__, h16_, h16__, h18, h18_, h19_, h19__, h20_, h20__, h21, h21_, h22_, h22__, h25, h25_, h26, h27, h27_, h28, h28_, h30, h30_, h31, h32, h31_, h32_, h33, h34, h34_, h35, h36, h36_, h37, h38, h39, h39_, h38_]; done))
                            obtain ⟨v35, h40, hF⟩ := bnd1_elim hF
                            refine aCall_l (w_mill_Mod k _ _ _ h40) (by simp) [] [] [] rfl (.cons (.same (by simp [-List.reduceReplicate, sOf_set, ofI_set, allU8_set, h1, h1_, h3, h3_, h5, h5_, h14, h14_, h15_, h15__, h16_, h16__, h18, h18_, h19_, h19__, h20_, h20__, h21, h21_, h22_, h22__, h25, h25_, h26, h27, h27_, h28, h28_, h30, h30_, h31, h32, h31_, h32_, h33, h34, h34_, h35, h36, h36_, h37, h38, h39, h39_, h38_])) (.cons (.same (by simp [-List.reduceReplicate, sOf_set, ofI_set, allU8_set, h1, h1_, h3, h3_, h5, h5_, h14, h14_, h15_, h15__, h16_, h16__, h18, h18_, h19_, h19__, h20_, h20__, h21, h21_, h22_, h22__, h25, h25_, h26, h27, h27_, h28, h28_, h30, h30_, h31, h32, h31_, h32_, h33, h34, h34_, h35, h36, h36_, h37, h38, h39, h39_, h38_])) .nil)) (by simp [-List.reduceReplicate, sOf_set, ofI_set, allU8_set, h1, h1_, h3, h3_, h5, h5_, h14, h14_, h15_, h15__, h16_, h16__, h18, h18_, h19_, h19__, h20_, h20__, h21, h21_, h22_, h22__, h25, h25_, h26, h27, h27_, h28, h28_, h30, h30_, h31, h32, h31_, h32_, h33, h34, h34_, h35, h36, h36_, h37, h38, h39, h39_, h38_]) (by decide) (by simp) (by simp) (.inl rfl) (by simp) (by simp) ?_
                            obtain ⟨⟨h41, h42⟩, hF⟩ := chk_elim hF
                            have h42_ := ne_of_lt h42
                            try simp [-List.reduceReplicate, sOf_set, ofI_set, allU8_set, h1, h1_, h3, h3_, h5, h5_, h14, h14_, h15_, h15__, h16_, h16__, h18, h18_, h19_, h19__, h20_, h20__, h21, h21_, h22_, h22__, h25, h25_, h26, h27, h27_, h28, h28_, h30, h30_, h31, h32, h31_, h32_, h33, h34, h34_, h35, h36, h36_, h37, h38, h39, h39_, h38_, h41, h42, h42_]
                            repeat' apply And.intro
                            any_goals (first | exact hG2089 _ (by kernel_rfl) | refine hR2089 _ _ _ ?_ | omega | (unfold maxLen; omega) | (simp [-List.reduceReplicate, sOf_set, ofI_set, allU8_set, h1, h1_, h3, h3_, h5, h5_, h14, h14_, h15_, h15__, h16_, h16__, h18, h18_, h19_, h19__, h20_, h20__, h21, h21_, h22_, h22__, h25, h25_, h26, h27, h27_, h28, h28_, h30, h30_, h31, h32, h31_, h32_, h33, h34, h34_, h35, h36, h36_, h37, h38, h39, h39_, h38_, h41, h42, h42_]; done) | (simp [-List.reduceReplicate, sOf_set, ofI_set, allU8_set, h1, h1_, h3, h3_, h5, h5_, h14, h14_, h15_, h15__, h16_, h16__, h18, h18_, h19_, h19__, h20_, h20__, h21, h21_, h22_, h22__, h25, h25_, h26, h27, h27_, h28, h28_, h30, h30_, h31, h32, h31_, h32_, h33, h34, h34_, h35, h36, h36_, h37, h38, h39, h39_, h38_, h41, h42, h42_]; omega))
                            refine hK2088 _ _ _ ?_
                            refine AW.wk [(0, AV.str ((v7 ++ (ofI (List.replicate (32 : Int).toNat 0))).extract 0 (32 : Int).toNat)), (1, AV.str v1), (2, AV.slc 0 0 1 ((v33.set (v32).toNat v35).length) false), (3, AV.int .i64 v30), (9, AV.int .i64 v10), (26, AV.int .i64 v32)] [(0, .grow (List.map (AV.int .i64) (v33.set (v32).toNat v35)))] 1 (by simp [-List.reduceReplicate, sOf_set, ofI_set, allU8_set, h1, h1_, h3, h3_, h5, h5_, h14, h14_, h15_, h15__, h16_, h16__, h18, h18_, h19_, h19__, h20_, h20__, h21, h21_, h22_, h22__, h25, h25_, h26, h27, h27_, h28, h28_, h30, h30_, h31, h32, h31_, h32_, h33, h34, h34_, h35, h36, h36_, h37, h38, h39, h39_, h38_, h41, h42, h42_]) (by simp [-List.reduceReplicate, sOf_set, ofI_set, allU8_set, h1, h1_, h3, h3_, h5, h5_, h14, h14_, h15_, h15__, h16_, h16__, h18, h18_, h19_, h19__, h20_, h20__, h21, h21_, h22_, h22__, h25, h25_, h26, h27, h27_, h28, h28_, h30, h30_, h31, h32, h31_, h32_, h33, h34, h34_, h35, h36, h36_, h37, h38, h39, h39_, h38_, h41, h42, h42_]) (by simp) ?_
                            refine AW.region mixed [] [none, none, none] (by kernel_rfl) fun G2090 R2090 hG2090 hR2090 => ?_
                            try simp [-List.reduceReplicate, sOf_set, ofI_set, allU8_set, h1, h1_, h3, h3_, h5, h5_, h14, h14_, h15_, h15__, h16_, h16__, h18, h18_, h19_, h19__, h20_, h20__, h21, h21_, h22_, h22__, h25, h25_, h26, h27, h27_, h28, h28_, h30, h30_, h31, h32, h31_, h32_, h33, h34, h34_, h35, h36, h36_, h37, h38, h39, h39_, h38_, h41, h42, h42_]
                            repeat' apply And.intro
                            any_goals (first | exact hG2090 _ (by kernel_rfl) | refine hR2090 _ _ _ ?_ | omega | (unfold maxLen; omega) | (simp [-List.reduceReplicate, sOf_set, ofI_set, allU8_set, h1, h1_, h3, h3_, h5, h5_, h14, h14_, h15_, h15__, h16_, h16__, h18, h18_, h19_, h19__, h20_, h20__, h21, h21_, h22_, h22__, h25, h25_, h26, h27, h27_, h28, h28_, h30, h30_, h31, h32, h31_, h32_, h33, h34, h34_, h35, h36, h36_, h37, h38, h39, h39_, h38_, h41, h42, h42_]; done) | (simp [-List.reduceReplicate, sOf_set, ofI_set, allU8_set, h1, h1_, h3, h3_, h5, h5_, h14, h14_, h15_, h15__, h16_, h16__, h18, h18_, h19_, h19__, h20_, h20__, h21, h21_, h22_, h22__, h25, h25_, h26, h27, h27_, h28, h28_, h30, h30_, h31, h32, h31_, h32_, h33, h34, h34_, h35, h36, h36_, h37, h38, h39, h39_, h38_, h41, h42, h42_]; omega))
                            refine hK2083 _ _ _ ?_
                            refine Can.weak [(0, AV.str ((v7 ++ (ofI (List.replicate (32 : Int).toNat 0))).extract 0 (32 : Int).toNat)), (1, AV.str v1), (2, AV.slc 0 0 1 ((v33.set (v32).toNat v35).length) false), (3, AV.int .i64 v30), (9, AV.int .i64 v10), (26, AV.int .i64 (IntKind.wrap .i64 (v32 + 1)))] [(0, .grow (List.map (AV.int .i64) (v33.set (v32).toNat v35)))] 1 (by simp [-List.reduceReplicate, sOf_set, ofI_set, allU8_set, h1, h1_, h3, h3_, h5, h5_, h14, h14_, h15_, h15__, h16_, h16__, h18, h18_, h19_, h19__, h20_, h20__, h21, h21_, h22_, h22__, h25, h25_, h26, h27, h27_, h28, h28_, h30, h30_, h31, h32, h31_, h32_, h33, h34, h34_, h35, h36, h36_, h37, h38, h39, h39_, h38_, h41, h42, h42_]) (by simp [-List.reduceReplicate, sOf_set, ofI_set, allU8_set, h1, h1_, h3, h3_, h5, h5_, h14, h14_, h15_, h15__, h16_, h16__, h18, h18_, h19_, h19__, h20_, h20__, h21, h21_, h22_, h22__, h25, h25_, h26, h27, h27_, h28, h28_, h30, h30_, h31, h32, h31_, h32_, h33, h34, h34_, h35, h36, h36_, h37, h38, h39, h39_, h38_, h41, h42, h42_]) (by simp) ?_
                            exact Can.next (k' := n2) ((IntKind.wrap .i64 (v32 + 1), v33.set (v32).toNat v35)) (by omega) hF (by simp [-List.reduceReplicate, sOf_set, ofI_set, allU8_set, h1, h1_, h3, h3_, h5, h5_, h14, h14_, h15_, h15__, h16_, h16__, h18, h18_, h19_, h19__, h20_, h20__, h21, h21_, h22_, h22__, h25, h25_, h26, h27, h27_, h28, h28_, h30, h30_, h31, h32, h31_, h32_, h33, h34, h34_, h35, h36, h36_, h37, h38, h39, h39_, h38_, h41, h42, h42_]) (by simp [-List.reduceReplicate, sOf_set, ofI_set, allU8_set, h1, h1_, h3, h3_, h5, h5_, h14, h14_, h15_, h15__, h16_, h16__, h18, h18_, h19_, h19__, h20_, h20__, h21, h21_, h22_, h22__, h25, h25_, h26, h27, h27_, h28, h28_, h30, h30_, h31, h32, h31_, h32_, h33, h34, h34_, h35, h36, h36_, h37, h38, h39, h39_, h38_, h41, h42, h42_]) (by simp)
                          · replace hF := ite_f h34 hF
                            have h34_ := h34
                            try simp [-List.reduceReplicate] at h34_
                            refine AW.condF (by decide) (by first | (simp [-List.reduceReplicate, sOf_set, ofI_set, allU8_set, h1, h1_, h3, h3_, h5, h5_, h14, h14_, h15_, h15__, h16_, h16__, h18, h18_, h19_, h19__, h20_, h20__, h21, h21_, h22_, h22__, h25, h25_, h26, h27, h27_, h28, h28_, h30, h30_, h31, h32, h31_, h32_, h33, h34, h34_]; done) | (simp [-List.reduceReplicate, sOf_set, ofI_set, allU8_set, h1, h1_, h3, h3_, h5, h5_, h14, h14_, h15_, h15__, h16_, h16__, h18, h18_, h19_, h19__, h20_, h20__, h21, h21_, h22_, h22__, h25, h25_, h26, h27, h27_, h28, h28_, h30, h30_, h31, h32, h31_, h32_, h33, h34, h34_]; omega)) ?_
                            refine AW.exit ?_
                            try simp [-List.reduceReplicate]
                            refine hK2028 _ _ _ ?_
                            refine AW.wk [(0, AV.str ((v7 ++ (ofI (List.replicate (32 : Int).toNat 0))).extract 0 (32 : Int).toNat)), (1, AV.str v1), (2, AV.slc 0 0 1 v33.length false), (3, AV.int .i64 v30), (9, AV.int .i64 v10)] [(0, .grow (List.map (AV.int .i64) v33))] 1 (by simp [-List.reduceReplicate, sOf_set, ofI_set, allU8_set, h1, h1_, h3, h3_, h5, h5_, h14, h14_, h15_, h15__, h16_, h16__, h18, h18_, h19_, h19__, h20_, h20__, h21, h21_, h22_, h22__, h25, h25_, h26, h27, h27_, h28, h28_, h30, h30_, h31, h32, h31_, h32_, h33, h34, h34_]) (by simp [-List.reduceReplicate, sOf_set, ofI_set, allU8_set, h1, h1_, h3, h3_, h5, h5_, h14, h14_, h15_, h15__, h16_, h16__, h18, h18_, h19_, h19__, h20_, h20__, h21, h21_, h22_, h22__, h25, h25_, h26, h27, h27_, h28, h28_, h30, h30_, h31, h32, h31_, h32_, h33, h34, h34_]) (by simp) ?_
                            refine AW.frz 0 (o := .grow (List.map (AV.int .i64) v33)) (by simp [-List.reduceReplicate, sOf_set, ofI_set, allU8_set, h1, h1_, h3, h3_, h5, h5_, h14, h14_, h15_, h15__, h16_, h16__, h18, h18_, h19_, h19__, h20_, h20__, h21, h21_, h22_, h22__, h25, h25_, h26, h27, h27_, h28, h28_, h30, h30_, h31, h32, h31_, h32_, h33, h34, h34_]) rfl [(2, AV.lst false false (List.map (AV.int .i64) v33))] [] ⟨(.l (by simp) (by simp) (by simp) (by simp)), trivial⟩ trivial ?_
                            refine AW.wk [(0, AV.str ((v7 ++ (ofI (List.replicate (32 : Int).toNat 0))).extract 0 (32 : Int).toNat)), (1, AV.str v1), (2, AV.lst false false (List.map (AV.int .i64) v33)), (3, AV.int .i64 v30), (9, AV.int .i64 v10)] [] 1 (by simp [-List.reduceReplicate, sOf_set, ofI_set, allU8_set, h1, h1_, h3, h3_, h5, h5_, h14, h14_, h15_, h15__, h16_, h16__, h18, h18_, h19_, h19__, h20_, h20__, h21, h21_, h22_, h22__, h25, h25_, h26, h27, h27_, h28, h28_, h30, h30_, h31, h32, h31_, h32_, h33, h34, h34_]) (by simp [-List.reduceReplicate, sOf_set, ofI_set, allU8_set, h1, h1_, h3, h3_, h5, h5_, h14, h14_, h15_, h15__, h16_, h16__, h18, h18_, h19_, h19__, h20_, h20__, h21, h21_, h22_, h22__, h25, h25_, h26, h27, h27_, h28, h28_, h30, h30_, h31, h32, h31_, h32_, h33, h34, h34_]) (by simp) ?_
                            refine AW.region mixed [] [none, none, none] (by kernel_rfl) fun G2091 R2091 hG2091 hR2091 => ?_
                            try simp [-List.reduceReplicate, sOf_set, ofI_set, allU8_set, h1, h1_, h3, h3_, h5, h5_, h14, h14_, h15_, h15__, h16_, h16__, h18, h18_, h19_, h19__, h20_, h20__, h21, h21_, h22_, h22__, h25, h25_, h26, h27, h27_, h28, h28_, h30, h30_, h31, h32, h31_, h32_, h33, h34, h34_]
                            repeat' apply And.intro
                            any_goals (first | exact hG2091 _ (by kernel_rfl) | refine hR2091 _ _ _ ?_ | omega | (unfold maxLen; omega) | (simp [-List.reduceReplicate, sOf_set, ofI_set, allU8_set, h1, h1_, h3, h3_, h5, h5_, h14, h14_, h15_, h15__, h16_, h16__, h18, h18_, h19_, h19__, h20_, h20__, h21, h21_, h22_, h22__, h25, h25_, h26, h27, h27_, h28, h28_, h30, h30_, h31, h32, h31_, h32_, h33, h34, h34_]; done) | (simp [-List.reduceReplicate, sOf_set, ofI_set, allU8_set, h1, h1_, h3, h3_, h5, h5_, h14, h14_, h15_, h15__, h16_, h16__, h18, h18_, h19_, h19__, h20_, h20__, h21, h21_, h22_, h22__, h25, h25_, h26, h27, h27_, h28, h28_, h30, h30_, h31, h32, h31_, h32_, h33, h34, h34_]; omega))
                            refine hK1962 _ _ _ ?_
                            refine Can.weak [(0, AV.str ((v7 ++ (ofI (List.replicate (32 : Int).toNat 0))).extract 0 (32 : Int).toNat)), (1, AV.str v1), (2, AV.lst false false (List.map (AV.int .i64) v33)), (3, AV.int .i64 v30), (9, AV.int .i64 (IntKind.wrap .i64 (v10 + 1)))] [] 1 (by simp [-List.reduceReplicate, sOf_set, ofI_set, allU8_set, h1, h1_, h3, h3_, h5, h5_, h14, h14_, h15_, h15__, h16_, h16__, h18, h18_, h19_, h19__, h20_, h20__, h21, h21_, h22_, h22__, h25, h25_, h26, h27, h27_, h28, h28_, h30, h30_, h31, h32, h31_, h32_, h33, h34, h34_]) (by simp [-List.reduceReplicate, sOf_set, ofI_set, allU8_set, h1, h1_, h3, h3_, h5, h5_, h14, h14_, h15_, h15__, h16_, h16__, h18, h18_, h19_, h19__, h20_, h20__, h21, h21_, h22_, h22__, h25, h25_, h26, h27, h27_, h28, h28_, h30, h30_, h31, h32, h31_, h32_, h33, h34, h34_]) (by simp) ?_
                            refine Can.ren (m := 0) h0 [] [(0, AV.str ((v7 ++ (ofI (List.replicate (32 : Int).toNat 0))).extract 0 (32 : Int).toNat)), (1, AV.str v1), (2, AV.lst false false (List.map (AV.int .i64) v33)), (3, AV.int .i64 v30), (9, AV.int .i64 (IntKind.wrap .i64 (v10 + 1)))] [] 0 (by decide) (by decide) (by decide) rfl (by simp [-List.reduceReplicate, sOf_set, ofI_set, allU8_set, h1, h1_, h3, h3_, h5, h5_, h14, h14_, h15_, h15__, h16_, h16__, h18, h18_, h19_, h19__, h20_, h20__, h21, h21_, h22_, h22__, h25, h25_, h26, h27, h27_, h28, h28_, h30, h30_, h31, h32, h31_, h32_, h33, h34, h34_]) (by simp [-List.reduceReplicate, sOf_set, ofI_set, allU8_set, h1, h1_, h3, h3_, h5, h5_, h14, h14_, h15_, h15__, h16_, h16__, h18, h18_, h19_, h19__, h20_, h20__, h21, h21_, h22_, h22__, h25, h25_, h26, h27, h27_, h28, h28_, h30, h30_, h31, h32, h31_, h32_, h33, h34, h34_]) ?_
                            exact Can.next (k' := n1) (((v7 ++ (ofI (List.replicate (32 : Int).toNat 0))).extract 0 (32 : Int).toNat, v33, v30, IntKind.wrap .i64 (v10 + 1))) (by omega) hF (by simp [-List.reduceReplicate, sOf_set, ofI_set, allU8_set, h1, h1_, h3, h3_, h5, h5_, h14, h14_, h15_, h15__, h16_, h16__, h18, h18_, h19_, h19__, h20_, h20__, h21, h21_, h22_, h22__, h25, h25_, h26, h27, h27_, h28, h28_, h30, h30_, h31, h32, h31_, h32_, h33, h34, h34_]) (by simp [-List.reduceReplicate, sOf_set, ofI_set, allU8_set, h1, h1_, h3, h3_, h5, h5_, h14, h14_, h15_, h15__, h16_, h16__, h18, h18_, h19_, h19__, h20_, h20__, h21, h21_, h22_, h22__, h25, h25_, h26, h27, h27_, h28, h28_, h30, h30_, h31, h32, h31_, h32_, h33, h34, h34_]) (by simp)
      · replace hF := ite_f h5 hF
        have h5_ := h5
        try simp [-List.reduceReplicate] at h5_
        refine AW.condF (by decide) (by first | (simp [-List.reduceReplicate, sOf_set, ofI_set, allU8_set, h1, h1_, h3, h3_, h5, h5_]; done) | (simp [-List.reduceReplicate, sOf_set, ofI_set, allU8_set, h1, h1_, h3, h3_, h5, h5_]; omega)) ?_
        refine AW.exit ?_
        try simp [-List.reduceReplicate]
        refine hK1573 _ _ _ ?_
        refine AW.seqR mixed [] [none, none] (by kernel_rfl) fun G2092 R2092 hG2092 hR2092 => ?_
        try simp [-List.reduceReplicate, sOf_set, ofI_set, allU8_set, h1, h1_, h3, h3_, h5, h5_]
        repeat' apply And.intro
        try any_goals (first | omega | (unfold maxLen; omega) | (simp [-List.reduceReplicate, sOf_set, ofI_set, allU8_set, h1, h1_, h3, h3_, h5, h5_]; done))
        obtain ⟨v36, h43, hF⟩ := bnd1_elim hF
        refine aCall_l (w_law25_awake k _ h43) (by simp) [] [] [] rfl .nil (by simp [-List.reduceReplicate, sOf_set, ofI_set, allU8_set, h1, h1_, h3, h3_, h5, h5_]) (by decide) (by simp) (by simp) (.inl rfl) (by simp) (by simp) ?_
        try simp [-List.reduceReplicate, sOf_set, ofI_set, allU8_set, h1, h1_, h3, h3_, h5, h5_]
        repeat' apply And.intro
        any_goals (first | exact hG2092 _ (by kernel_rfl) | refine hR2092 _ _ _ ?_ | omega | (unfold maxLen; omega) | (simp [-List.reduceReplicate, sOf_set, ofI_set, allU8_set, h1, h1_, h3, h3_, h5, h5_]; done) | (simp [-List.reduceReplicate, sOf_set, ofI_set, allU8_set, h1, h1_, h3, h3_, h5, h5_]; omega))
        refine AW.wk [(8, AV.bool v36)] [] 0 (by simp [-List.reduceReplicate, sOf_set, ofI_set, allU8_set, h1, h1_, h3, h3_, h5, h5_]) (by simp [-List.reduceReplicate, sOf_set, ofI_set, allU8_set, h1, h1_, h3, h3_, h5, h5_]) (by simp) ?_
        simp only [Option.some.injEq] at hF
        subst hF
        refine AW.ret (hQ _ _ _ ?_ (matchO_0 ?_)).1
        · simp [Try.f9, h1, h1_, h3, h3_, h5, h5_]
        · simp [h1, h1_, h3, h3_, h5, h5_]
end Go.TF
