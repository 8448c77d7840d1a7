/- Walks: the Go text computes the Lean functions (printed by a program of our own). -/
import Derived.Test.YtocmgnljgemjkaaPu
import Derived.Test.YtocmgnljgemjkaaAbsT
import Derived.Test.YtocmgnljgemjkaaWa0
set_option linter.unusedVariables false
set_option linter.unusedSimpArgs false
set_option maxRecDepth 100000
namespace Go.TF
open Go Go.Abs Go.Proofs Go.Proofs.YtocmgnljgemjkaaT
set_option maxHeartbeats 4000000 in
theorem w_mill_Light (k : Nat) (v0 : (List Int)) (v1 : Bool) (hF : mill_Light k v0 = some v1) :
    FCall Try.prog 18 [AV.lst false false (List.map (AV.int .i64) v0)] [] (AV.bool v1) [] := by
  unfold mill_Light at hF
  refine FCall.enter Try.func18 rfl (by simp) (by decide) (by simp) (by simp) (by simp) (by simp) (by simp) ?_
  intro c0 w0 Q h0 hQ
  refine AW.wk [(0, AV.lst false false (List.map (AV.int .i64) v0))] [] 0 (by simp) (by simp) (by simp) ?_
  refine AW.seqR mixed [] [none] (by kernel_rfl) fun G3 R3 hG3 hR3 => ?_
  try simp
  repeat' apply And.intro
  any_goals (first | exact hG3 _ (by kernel_rfl) | refine hR3 _ _ _ ?_ | omega | (unfold maxLen; omega) | (simp; done) | (simp; omega))
  refine AW.wk [(0, AV.lst false false (List.map (AV.int .i64) v0))] [] 0 (by simp) (by simp) (by simp) ?_
  refine AW.seqR mixed [] [none, none, none, none] (by kernel_rfl) fun G4 R4 hG4 hR4 => ?_
  try simp
  repeat' apply And.intro
  any_goals (first | exact hG4 _ (by kernel_rfl) | refine hR4 _ _ _ ?_ | omega | (unfold maxLen; omega) | (simp; done) | (simp; omega))
  refine AW.wk [(2, AV.bool (decide ((v0.length : Int) ≤ 400)))] [] 0 (by simp) (by simp) (by simp) ?_
  simp only [Option.some.injEq] at hF
  subst hF
  refine AW.ret (hQ _ _ _ ?_ (matchO_0 ?_)).1
  · simp [Try.f18]
  · simp
set_option maxHeartbeats 4000000 in
theorem w_guardian_key (k : Nat) (v0 : Int) (v1 : Bool) (hF : guardian_key k v0 = some v1) :
    FCall Try.prog 73 [AV.int .i64 v0] [] (AV.bool v1) [] := by
  unfold guardian_key at hF
  refine FCall.enter Try.func73 rfl (by simp) (by decide) (by simp) (by simp) (by simp) (by simp) (by simp) ?_
  intro c0 w0 Q h0 hQ
  refine AW.wk [(0, AV.int .i64 v0)] [] 0 (by simp) (by simp) (by simp) ?_
  refine AW.seqR mixed [] [none] (by kernel_rfl) fun G3 R3 hG3 hR3 => ?_
  try simp
  repeat' apply And.intro
  any_goals (first | exact hG3 _ (by kernel_rfl) | refine hR3 _ _ _ ?_ | omega | (unfold maxLen; omega) | (simp; done) | (simp; omega))
  refine AW.wk [(0, AV.int .i64 v0)] [] 0 (by simp) (by simp) (by simp) ?_
  refine AW.seqR mixed [] [none, none, none, some (5, true), some (5, true), none, none] (by kernel_rfl) fun G4 R4 hG4 hR4 => ?_
  by_cases h1 : 0 ≤ v0
  · replace hF := ite_t h1 hF
    have h1_ := h1
    try simp at h1_
    try simp [h1, h1_]
    repeat' apply And.intro
    any_goals (first | exact hG4 _ (by kernel_rfl) | refine hR4 _ _ _ ?_ | omega | (unfold maxLen; omega) | (simp [h1, h1_]; done) | (simp [h1, h1_]; omega))
    refine AW.wk [(2, AV.bool (decide (v0 < 64)))] [] 0 (by simp [h1, h1_]) (by simp [h1, h1_]) (by simp) ?_
    simp only [Option.some.injEq] at hF
    subst hF
    refine AW.ret (hQ _ _ _ ?_ (matchO_0 ?_)).1
    · simp [Try.f73, h1, h1_]
    · simp [h1, h1_]
  · replace hF := ite_f h1 hF
    have h1_ := h1
    try simp at h1_
    try simp [h1, h1_]
    repeat' apply And.intro
    any_goals (first | exact hG4 _ (by kernel_rfl) | refine hR4 _ _ _ ?_ | omega | (unfold maxLen; omega) | (simp [h1, h1_]; done) | (simp [h1, h1_]; omega))
    refine AW.wk [(2, AV.bool false)] [] 0 (by simp [h1, h1_]) (by simp [h1, h1_]) (by simp) ?_
    simp only [Option.some.injEq] at hF
    subst hF
    refine AW.ret (hQ _ _ _ ?_ (matchO_0 ?_)).1
    · simp [Try.f73, h1, h1_]
    · simp [h1, h1_]
set_option maxHeartbeats 4000000 in
theorem w_guardian_Valid (k : Nat) (v0 : Int) (v1 : Int) (v2 : (List Int)) (v3 : Bool) (hF : guardian_Valid k v0 v1 v2 = some v3) :
    FCall Try.prog 24 [AV.agg [AV.int .i64 v0, AV.int .i64 v1, AV.lst false false (List.map (AV.int .i64) v2)]] [] (AV.bool v3) [] := by
  unfold guardian_Valid at hF
  refine FCall.enter Try.func24 rfl (by simp) (by decide) (by simp) (by simp) (by simp) (by simp) (by simp) ?_
  intro c0 w0 Q h0 hQ
  refine AW.wk [(0, AV.agg [AV.int .i64 v0, AV.int .i64 v1, AV.lst false false (List.map (AV.int .i64) v2)])] [] 0 (by simp) (by simp) (by simp) ?_
  refine AW.seqR mixed [] [none, none] (by kernel_rfl) fun G89 R89 hG89 hR89 => ?_
  try simp
  repeat' apply And.intro
  any_goals (first | exact hG89 _ (by kernel_rfl) | refine hR89 _ _ _ ?_ | omega | (unfold maxLen; omega) | (simp; done) | (simp; omega))
  refine AW.wk [(1, AV.ptr 0 0)] [(0, .cells [AV.int .i64 v0, AV.int .i64 v1, AV.lst false false (List.map (AV.int .i64) v2)])] 1 (by simp) (by simp) (by simp) ?_
  refine AW.seq fun K132 hK132 => ?_
  refine AW.seqR mixed [] [none, none, none, none] (by kernel_rfl) fun G133 R133 hG133 hR133 => ?_
  try simp
  repeat' apply And.intro
  any_goals (first | exact hG133 _ (by kernel_rfl) | refine hR133 _ _ _ ?_ | omega | (unfold maxLen; omega) | (simp; done) | (simp; omega))
  refine AW.wk [(1, AV.ptr 0 0), (7, AV.lst false false (List.map (AV.int .i64) v2)), (8, AV.int .i64 (v2.length : Int)), (9, AV.int .i64 0)] [(0, .cells [AV.int .i64 v0, AV.int .i64 v1, AV.lst false false (List.map (AV.int .i64) v2)])] 1 (by simp) (by simp) (by simp) ?_
  refine AW.block ?_
  refine AW.loopF (α := Int) (fun n v4 => guardian_Valid.L1 k v0 v1 v2 n v4 = some v3) (fun v4 => [(1, AV.ptr 0 0), (7, AV.lst false false (List.map (AV.int .i64) v2)), (8, AV.int .i64 (v2.length : Int)), (9, AV.int .i64 v4)]) (fun v4 => [(0, .cells [AV.int .i64 v0, AV.int .i64 v1, AV.lst false false (List.map (AV.int .i64) v2)])]) 1 k (0) hF (by simp) (by simp) (by simp) ?_
  rintro (_|n1) v4 hF K160 hK160
  · try dsimp only at hF
    rw [guardian_Valid.L1] at hF; cases hF
  try dsimp only at hF
  rw [guardian_Valid.L1] at hF
  refine AW.seqR mixed [] [none] (by kernel_rfl) fun G161 R161 hG161 hR161 => ?_
  try simp
  repeat' apply And.intro
  any_goals (first | exact hG161 _ (by kernel_rfl) | refine hR161 _ _ _ ?_ | omega | (unfold maxLen; omega) | (simp; done) | (simp; omega))
  refine AW.wk [(1, AV.ptr 0 0), (7, AV.lst false false (List.map (AV.int .i64) v2)), (8, AV.int .i64 (v2.length : Int)), (9, AV.int .i64 v4), (10, AV.bool (decide (v4 < (v2.length : Int))))] [(0, .cells [AV.int .i64 v0, AV.int .i64 v1, AV.lst false false (List.map (AV.int .i64) v2)])] 1 (by simp) (by simp) (by simp) ?_
  refine AW.seq fun K162 hK162 => ?_
  by_cases h1 : v4 < (v2.length : Int)
  · replace hF := ite_t h1 hF
    have h1_ := h1
    try simp at h1_
    refine AW.condT (by decide) (by first | (simp [h1, h1_]; done) | (simp [h1, h1_]; omega)) ?_
    refine AW.skip ?_
    refine hK162 _ _ _ ?_
    refine AW.midF (α := Unit) (fun _ => guardian_Valid.J2 k v4 (fun v4_ => guardian_Valid.L1 k v0 v1 v2 n1 v4_) = some v3) (fun _ => [(1, AV.ptr 0 0), (7, AV.lst false false (List.map (AV.int .i64) v2)), (8, AV.int .i64 (v2.length : Int)), (9, AV.int .i64 v4)]) (fun _ => [(0, .cells [AV.int .i64 v0, AV.int .i64 v1, AV.lst false false (List.map (AV.int .i64) v2)])]) 1 (fun K169 hK169 => ?_) ?_
    · refine AW.block ?_
      refine AW.seqR mixed [] [none, none, none, none, none] (by kernel_rfl) fun G170 R170 hG170 hR170 => ?_
      obtain ⟨v5, h2, h3, h4, hF⟩ := idx_elim hF
      have h4_ := get_of h4
      try simp at h4_
      have h3_ := h3
      try simp at h3_
      try simp [h1, h1_, h2, h3, h4, h4_, h3_]
      repeat' apply And.intro
      any_goals (first | exact hG170 _ (by kernel_rfl) | refine hR170 _ _ _ ?_ | omega | (unfold maxLen; omega) | (simp [h1, h1_, h2, h3, h4, h4_, h3_]; done) | (simp [h1, h1_, h2, h3, h4, h4_, h3_]; omega))
      refine AW.wk [(1, AV.ptr 0 0), (3, AV.int .i64 v4), (4, AV.int .i64 v5), (7, AV.lst false false (List.map (AV.int .i64) v2)), (8, AV.int .i64 (v2.length : Int)), (9, AV.int .i64 v4)] [(0, .cells [AV.int .i64 v0, AV.int .i64 v1, AV.lst false false (List.map (AV.int .i64) v2)])] 1 (by simp [h1, h1_, h2, h3, h4, h4_, h3_]) (by simp [h1, h1_, h2, h3, h4, h4_, h3_]) (by simp) ?_
      refine AW.seqR mixed [] [none, none, none, none, some (17, false), some (17, false), some (17, false), some (17, false), none, none, some (23, false), some (23, false), some (23, false), some (26, true), some (26, true), some (26, true), some (26, true), some (26, true), some (26, true), some (26, true), some (26, true), some (23, false), none] (by kernel_rfl) fun G171 R171 hG171 hR171 => ?_
      try simp [h1, h1_, h2, h3, h4, h4_, h3_]
      repeat' apply And.intro
      try any_goals (first | omega | (unfold maxLen; omega) | (simp [h1, h1_, h2, h3, h4, h4_, h3_]; done))
      obtain ⟨v6, h5, hF⟩ := bnd1_elim hF
      refine aCall_l (w_guardian_key k _ _ h5) (by simp) [] [] [] rfl (.cons (.same (by simp [h1, h1_, h2, h3, h4, h4_, h3_])) .nil) (by simp [h1, h1_, h2, h3, h4, h4_, h3_]) (by decide) (by simp) (by simp) (.inl rfl) (by simp) (by simp) ?_
      by_cases h6 : (!v6) = true
      · replace hF := ite_t h6 hF
        have h6_ := h6
        try simp at h6_
        try simp [h1, h1_, h2, h3, h4, h4_, h3_, h6, h6_]
        repeat' apply And.intro
        any_goals (first | exact hG171 _ (by kernel_rfl) | refine hR171 _ _ _ ?_ | omega | (unfold maxLen; omega) | (simp [h1, h1_, h2, h3, h4, h4_, h3_, h6, h6_]; done) | (simp [h1, h1_, h2, h3, h4, h4_, h3_, h6, h6_]; omega))
        refine AW.wk [(1, AV.ptr 0 0), (7, AV.lst false false (List.map (AV.int .i64) v2)), (8, AV.int .i64 (v2.length : Int)), (9, AV.int .i64 v4), (36, AV.bool true)] [(0, .cells [AV.int .i64 v0, AV.int .i64 v1, AV.lst false false (List.map (AV.int .i64) v2)])] 1 (by simp [h1, h1_, h2, h3, h4, h4_, h3_, h6, h6_]) (by simp [h1, h1_, h2, h3, h4, h4_, h3_, h6, h6_]) (by simp) ?_
        refine AW.condT (by decide) (by simp [h1, h1_, h2, h3, h4, h4_, h3_, h6, h6_]) ?_
        refine AW.seqR mixed [] [none] (by kernel_rfl) fun G172 R172 hG172 hR172 => ?_
        try simp [h1, h1_, h2, h3, h4, h4_, h3_, h6, h6_]
        repeat' apply And.intro
        any_goals (first | exact hG172 _ (by kernel_rfl) | refine hR172 _ _ _ ?_ | omega | (unfold maxLen; omega) | (simp [h1, h1_, h2, h3, h4, h4_, h3_, h6, h6_]; done) | (simp [h1, h1_, h2, h3, h4, h4_, h3_, h6, h6_]; omega))
        refine AW.wk [(2, AV.bool false)] [] 1 (by simp [h1, h1_, h2, h3, h4, h4_, h3_, h6, h6_]) (by simp [h1, h1_, h2, h3, h4, h4_, h3_, h6, h6_]) (by simp) ?_
        simp only [Option.some.injEq] at hF
        subst hF
        refine AW.ret (hQ _ _ _ ?_ (matchO_0 ?_)).1
        · simp [Try.f24, h1, h1_, h2, h3, h4, h4_, h3_, h6, h6_]
        · simp [h1, h1_, h2, h3, h4, h4_, h3_, h6, h6_]
      · replace hF := ite_f h6 hF
        have h6_ := h6
        try simp at h6_
        by_cases h7 : v5 = v0
        · replace hF := ite_t h7 hF
          have h7q : v5 = v0 := h7
          have h7_ := eqb_t h7q
          have h7__ := neb_f h7q
          try simp [h1, h1_, h2, h3, h4, h4_, h3_, h6, h6_, h7_, h7__]
          repeat' apply And.intro
          any_goals (first | exact hG171 _ (by kernel_rfl) | refine hR171 _ _ _ ?_ | omega | (unfold maxLen; omega) | (simp [h1, h1_, h2, h3, h4, h4_, h3_, h6, h6_, h7_, h7__]; done) | (simp [h1, h1_, h2, h3, h4, h4_, h3_, h6, h6_, h7_, h7__]; omega))
          refine AW.wk [(1, AV.ptr 0 0), (7, AV.lst false false (List.map (AV.int .i64) v2)), (8, AV.int .i64 (v2.length : Int)), (9, AV.int .i64 v4), (36, AV.bool true)] [(0, .cells [AV.int .i64 v0, AV.int .i64 v1, AV.lst false false (List.map (AV.int .i64) v2)])] 1 (by simp [h1, h1_, h2, h3, h4, h4_, h3_, h6, h6_, h7_, h7__]) (by simp [h1, h1_, h2, h3, h4, h4_, h3_, h6, h6_, h7_, h7__]) (by simp) ?_
          refine AW.condT (by decide) (by simp [h1, h1_, h2, h3, h4, h4_, h3_, h6, h6_, h7_, h7__]) ?_
          refine AW.seqR mixed [] [none] (by kernel_rfl) fun G173 R173 hG173 hR173 => ?_
          try simp [h1, h1_, h2, h3, h4, h4_, h3_, h6, h6_, h7_, h7__]
          repeat' apply And.intro
          any_goals (first | exact hG173 _ (by kernel_rfl) | refine hR173 _ _ _ ?_ | omega | (unfold maxLen; omega) | (simp [h1, h1_, h2, h3, h4, h4_, h3_, h6, h6_, h7_, h7__]; done) | (simp [h1, h1_, h2, h3, h4, h4_, h3_, h6, h6_, h7_, h7__]; omega))
          refine AW.wk [(2, AV.bool false)] [] 1 (by simp [h1, h1_, h2, h3, h4, h4_, h3_, h6, h6_, h7_, h7__]) (by simp [h1, h1_, h2, h3, h4, h4_, h3_, h6, h6_, h7_, h7__]) (by simp) ?_
          simp only [Option.some.injEq] at hF
          subst hF
          refine AW.ret (hQ _ _ _ ?_ (matchO_0 ?_)).1
          · simp [Try.f24, h1, h1_, h2, h3, h4, h4_, h3_, h6, h6_, h7_, h7__]
          · simp [h1, h1_, h2, h3, h4, h4_, h3_, h6, h6_, h7_, h7__]
        · replace hF := ite_f h7 hF
          have h7_ := eqb_f h7
          have h7__ := neb_t h7
          by_cases h8 : 0 < v4
          · replace hF := ite_t h8 hF
            have h8_ := h8
            try simp at h8_
            obtain ⟨v7, h9, h10, h11, hF⟩ := idx_elim hF
            have h11_ := get_of h11
            try simp at h11_
            have h10_ := h10
            try simp at h10_
            try simp [h1, h1_, h2, h3, h4, h4_, h3_, h6, h6_, h7, h7_, h7__, h8, h8_, h9, h10, h11, h11_, h10_]
            repeat' apply And.intro
            any_goals (first | exact hG171 _ (by kernel_rfl) | refine hR171 _ _ _ ?_ | omega | (unfold maxLen; omega) | (simp [h1, h1_, h2, h3, h4, h4_, h3_, h6, h6_, h7, h7_, h7__, h8, h8_, h9, h10, h11, h11_, h10_]; done) | (simp [h1, h1_, h2, h3, h4, h4_, h3_, h6, h6_, h7, h7_, h7__, h8, h8_, h9, h10, h11, h11_, h10_]; omega))
            refine AW.wk [(1, AV.ptr 0 0), (7, AV.lst false false (List.map (AV.int .i64) v2)), (8, AV.int .i64 (v2.length : Int)), (9, AV.int .i64 v4), (36, AV.bool (decide (v5 ≤ v7)))] [(0, .cells [AV.int .i64 v0, AV.int .i64 v1, AV.lst false false (List.map (AV.int .i64) v2)])] 1 (by simp [h1, h1_, h2, h3, h4, h4_, h3_, h6, h6_, h7, h7_, h7__, h8, h8_, h9, h10, h11, h11_, h10_]) (by simp [h1, h1_, h2, h3, h4, h4_, h3_, h6, h6_, h7, h7_, h7__, h8, h8_, h9, h10, h11, h11_, h10_]) (by simp) ?_
            by_cases h12 : v5 ≤ v7
            · replace hF := ite_t h12 hF
              have h12_ := h12
              try simp at h12_
              refine AW.condT (by decide) (by first | (simp [h1, h1_, h2, h3, h4, h4_, h3_, h6, h6_, h7, h7_, h7__, h8, h8_, h9, h10, h11, h11_, h10_, h12, h12_]; done) | (simp [h1, h1_, h2, h3, h4, h4_, h3_, h6, h6_, h7, h7_, h7__, h8, h8_, h9, h10, h11, h11_, h10_, h12, h12_]; omega)) ?_
              refine AW.seqR mixed [] [none] (by kernel_rfl) fun G174 R174 hG174 hR174 => ?_
              try simp [h1, h1_, h2, h3, h4, h4_, h3_, h6, h6_, h7, h7_, h7__, h8, h8_, h9, h10, h11, h11_, h10_, h12, h12_]
              repeat' apply And.intro
              any_goals (first | exact hG174 _ (by kernel_rfl) | refine hR174 _ _ _ ?_ | omega | (unfold maxLen; omega) | (simp [h1, h1_, h2, h3, h4, h4_, h3_, h6, h6_, h7, h7_, h7__, h8, h8_, h9, h10, h11, h11_, h10_, h12, h12_]; done) | (simp [h1, h1_, h2, h3, h4, h4_, h3_, h6, h6_, h7, h7_, h7__, h8, h8_, h9, h10, h11, h11_, h10_, h12, h12_]; omega))
              refine AW.wk [(2, AV.bool false)] [] 1 (by simp [h1, h1_, h2, h3, h4, h4_, h3_, h6, h6_, h7, h7_, h7__, h8, h8_, h9, h10, h11, h11_, h10_, h12, h12_]) (by simp [h1, h1_, h2, h3, h4, h4_, h3_, h6, h6_, h7, h7_, h7__, h8, h8_, h9, h10, h11, h11_, h10_, h12, h12_]) (by simp) ?_
              simp only [Option.some.injEq] at hF
              subst hF
              refine AW.ret (hQ _ _ _ ?_ (matchO_0 ?_)).1
              · simp [Try.f24, h1, h1_, h2, h3, h4, h4_, h3_, h6, h6_, h7, h7_, h7__, h8, h8_, h9, h10, h11, h11_, h10_, h12, h12_]
              · simp [h1, h1_, h2, h3, h4, h4_, h3_, h6, h6_, h7, h7_, h7__, h8, h8_, h9, h10, h11, h11_, h10_, h12, h12_]
            · replace hF := ite_f h12 hF
              have h12_ := h12
              try simp at h12_
              refine AW.condF (by decide) (by first | (simp [h1, h1_, h2, h3, h4, h4_, h3_, h6, h6_, h7, h7_, h7__, h8, h8_, h9, h10, h11, h11_, h10_, h12, h12_]; done) | (simp [h1, h1_, h2, h3, h4, h4_, h3_, h6, h6_, h7, h7_, h7__, h8, h8_, h9, h10, h11, h11_, h10_, h12, h12_]; omega)) ?_
              refine AW.skip ?_
              refine hK169 _ _ _ ?_
              exact Can.join (()) hF (by simp [h1, h1_, h2, h3, h4, h4_, h3_, h6, h6_, h7, h7_, h7__, h8, h8_, h9, h10, h11, h11_, h10_, h12, h12_]) (by simp [h1, h1_, h2, h3, h4, h4_, h3_, h6, h6_, h7, h7_, h7__, h8, h8_, h9, h10, h11, h11_, h10_, h12, h12_]) (by simp)
          · replace hF := ite_f h8 hF
            have h8_ := h8
            try simp at h8_
            try simp [h1, h1_, h2, h3, h4, h4_, h3_, h6, h6_, h7, h7_, h7__, h8, h8_]
            repeat' apply And.intro
            any_goals (first | exact hG171 _ (by kernel_rfl) | refine hR171 _ _ _ ?_ | omega | (unfold maxLen; omega) | (simp [h1, h1_, h2, h3, h4, h4_, h3_, h6, h6_, h7, h7_, h7__, h8, h8_]; done) | (simp [h1, h1_, h2, h3, h4, h4_, h3_, h6, h6_, h7, h7_, h7__, h8, h8_]; omega))
            refine AW.wk [(1, AV.ptr 0 0), (7, AV.lst false false (List.map (AV.int .i64) v2)), (8, AV.int .i64 (v2.length : Int)), (9, AV.int .i64 v4), (36, AV.bool false)] [(0, .cells [AV.int .i64 v0, AV.int .i64 v1, AV.lst false false (List.map (AV.int .i64) v2)])] 1 (by simp [h1, h1_, h2, h3, h4, h4_, h3_, h6, h6_, h7, h7_, h7__, h8, h8_]) (by simp [h1, h1_, h2, h3, h4, h4_, h3_, h6, h6_, h7, h7_, h7__, h8, h8_]) (by simp) ?_
            refine AW.condF (by decide) (by simp [h1, h1_, h2, h3, h4, h4_, h3_, h6, h6_, h7, h7_, h7__, h8, h8_]) ?_
            refine AW.skip ?_
            refine hK169 _ _ _ ?_
            exact Can.join (()) hF (by simp [h1, h1_, h2, h3, h4, h4_, h3_, h6, h6_, h7, h7_, h7__, h8, h8_]) (by simp [h1, h1_, h2, h3, h4, h4_, h3_, h6, h6_, h7, h7_, h7__, h8, h8_]) (by simp)
    · rintro ⟨⟩ hF
      try dsimp only at hF
      unfold guardian_Valid.J2 at hF
      refine AW.region mixed [] [none, none] (by kernel_rfl) fun G168 R168 hG168 hR168 => ?_
      try simp [h1, h1_]
      repeat' apply And.intro
      any_goals (first | exact hG168 _ (by kernel_rfl) | refine hR168 _ _ _ ?_ | omega | (unfold maxLen; omega) | (simp [h1, h1_]; done) | (simp [h1, h1_]; omega))
      refine hK160 _ _ _ ?_
      refine Can.weak [(1, AV.ptr 0 0), (7, AV.lst false false (List.map (AV.int .i64) v2)), (8, AV.int .i64 (v2.length : Int)), (9, AV.int .i64 (IntKind.wrap .i64 (v4 + 1)))] [(0, .cells [AV.int .i64 v0, AV.int .i64 v1, AV.lst false false (List.map (AV.int .i64) v2)])] 1 (by simp [h1, h1_]) (by simp [h1, h1_]) (by simp) ?_
      exact Can.next (k' := n1) (IntKind.wrap .i64 (v4 + 1)) (by omega) hF (by simp [h1, h1_]) (by simp [h1, h1_]) (by simp)
  · replace hF := ite_f h1 hF
    have h1_ := h1
    try simp at h1_
    refine AW.condF (by decide) (by first | (simp [h1, h1_]; done) | (simp [h1, h1_]; omega)) ?_
    refine AW.exit ?_
    try simp
    refine hK132 _ _ _ ?_
    refine AW.seqR mixed [] [none, none, none, none] (by kernel_rfl) fun G175 R175 hG175 hR175 => ?_
    try simp [h1, h1_]
    repeat' apply And.intro
    any_goals (first | exact hG175 _ (by kernel_rfl) | refine hR175 _ _ _ ?_ | omega | (unfold maxLen; omega) | (simp [h1, h1_]; done) | (simp [h1, h1_]; omega))
    refine AW.wk [(1, AV.ptr 0 0), (5, AV.int .i64 (v2.length : Int))] [(0, .cells [AV.int .i64 v0, AV.int .i64 v1, AV.lst false false (List.map (AV.int .i64) v2)])] 1 (by simp [h1, h1_]) (by simp [h1, h1_]) (by simp) ?_
    refine AW.seqR mixed [] [none, none, none, none, some (44, true), some (44, true), none, none, some (48, true), some (48, true), none, none, some (52, true), some (52, true), some (52, true), none, none, some (57, true), some (57, true), some (57, true), some (57, true), none, none] (by kernel_rfl) fun G176 R176 hG176 hR176 => ?_
    try simp [h1, h1_]
    repeat' apply And.intro
    try any_goals (first | omega | (unfold maxLen; omega) | (simp [h1, h1_]; done))
    obtain ⟨v8, h13, hF⟩ := bnd1_elim hF
    refine aCall_l (w_guardian_key k _ _ h13) (by simp) [] [] [] rfl (.cons (.same (by simp [h1, h1_])) .nil) (by simp [h1, h1_]) (by decide) (by simp) (by simp) (.inl rfl) (by simp) (by simp) ?_
    by_cases h14 : v8 = true
    · replace hF := ite_t h14 hF
      have h14_ := h14
      try simp at h14_
      by_cases h15 : 1 ≤ (v2.length : Int)
      · replace hF := ite_t h15 hF
        have h15_ := h15
        try simp at h15_
        by_cases h16 : (v2.length : Int) ≤ 12
        · replace hF := ite_t h16 hF
          have h16_ := h16
          try simp at h16_
          by_cases h17 : 1 ≤ v1
          · replace hF := ite_t h17 hF
            have h17_ := h17
            try simp at h17_
            try simp [h1, h1_, h14, h14_, h15, h15_, h16, h16_, h17, h17_]
            repeat' apply And.intro
            any_goals (first | exact hG176 _ (by kernel_rfl) | refine hR176 _ _ _ ?_ | omega | (unfold maxLen; omega) | (simp [h1, h1_, h14, h14_, h15, h15_, h16, h16_, h17, h17_]; done) | (simp [h1, h1_, h14, h14_, h15, h15_, h16, h16_, h17, h17_]; omega))
            refine AW.wk [(2, AV.bool (decide (v1 ≤ (v2.length : Int))))] [] 1 (by simp [h1, h1_, h14, h14_, h15, h15_, h16, h16_, h17, h17_]) (by simp [h1, h1_, h14, h14_, h15, h15_, h16, h16_, h17, h17_]) (by simp) ?_
            simp only [Option.some.injEq] at hF
            subst hF
            refine AW.ret (hQ _ _ _ ?_ (matchO_0 ?_)).1
            · simp [Try.f24, h1, h1_, h14, h14_, h15, h15_, h16, h16_, h17, h17_]
            · simp [h1, h1_, h14, h14_, h15, h15_, h16, h16_, h17, h17_]
          · replace hF := ite_f h17 hF
            have h17_ := h17
            try simp at h17_
            try simp [h1, h1_, h14, h14_, h15, h15_, h16, h16_, h17, h17_]
            repeat' apply And.intro
            any_goals (first | exact hG176 _ (by kernel_rfl) | refine hR176 _ _ _ ?_ | omega | (unfold maxLen; omega) | (simp [h1, h1_, h14, h14_, h15, h15_, h16, h16_, h17, h17_]; done) | (simp [h1, h1_, h14, h14_, h15, h15_, h16, h16_, h17, h17_]; omega))
            refine AW.wk [(2, AV.bool false)] [] 1 (by simp [h1, h1_, h14, h14_, h15, h15_, h16, h16_, h17, h17_]) (by simp [h1, h1_, h14, h14_, h15, h15_, h16, h16_, h17, h17_]) (by simp) ?_
            simp only [Option.some.injEq] at hF
            subst hF
            refine AW.ret (hQ _ _ _ ?_ (matchO_0 ?_)).1
            · simp [Try.f24, h1, h1_, h14, h14_, h15, h15_, h16, h16_, h17, h17_]
            · simp [h1, h1_, h14, h14_, h15, h15_, h16, h16_, h17, h17_]
        · replace hF := ite_f h16 hF
          have h16_ := h16
          try simp at h16_
          try simp [h1, h1_, h14, h14_, h15, h15_, h16, h16_]
          repeat' apply And.intro
          any_goals (first | exact hG176 _ (by kernel_rfl) | refine hR176 _ _ _ ?_ | omega | (unfold maxLen; omega) | (simp [h1, h1_, h14, h14_, h15, h15_, h16, h16_]; done) | (simp [h1, h1_, h14, h14_, h15, h15_, h16, h16_]; omega))
          refine AW.wk [(2, AV.bool false)] [] 1 (by simp [h1, h1_, h14, h14_, h15, h15_, h16, h16_]) (by simp [h1, h1_, h14, h14_, h15, h15_, h16, h16_]) (by simp) ?_
          simp only [Option.some.injEq] at hF
          subst hF
          refine AW.ret (hQ _ _ _ ?_ (matchO_0 ?_)).1
          · simp [Try.f24, h1, h1_, h14, h14_, h15, h15_, h16, h16_]
          · simp [h1, h1_, h14, h14_, h15, h15_, h16, h16_]
      · replace hF := ite_f h15 hF
        have h15_ := h15
        try simp at h15_
        try simp [h1, h1_, h14, h14_, h15, h15_]
        repeat' apply And.intro
        any_goals (first | exact hG176 _ (by kernel_rfl) | refine hR176 _ _ _ ?_ | omega | (unfold maxLen; omega) | (simp [h1, h1_, h14, h14_, h15, h15_]; done) | (simp [h1, h1_, h14, h14_, h15, h15_]; omega))
        refine AW.wk [(2, AV.bool false)] [] 1 (by simp [h1, h1_, h14, h14_, h15, h15_]) (by simp [h1, h1_, h14, h14_, h15, h15_]) (by simp) ?_
        simp only [Option.some.injEq] at hF
        subst hF
        refine AW.ret (hQ _ _ _ ?_ (matchO_0 ?_)).1
        · simp [Try.f24, h1, h1_, h14, h14_, h15, h15_]
        · simp [h1, h1_, h14, h14_, h15, h15_]
    · replace hF := ite_f h14 hF
      have h14_ := h14
      try simp at h14_
      try simp [h1, h1_, h14, h14_]
      repeat' apply And.intro
      any_goals (first | exact hG176 _ (by kernel_rfl) | refine hR176 _ _ _ ?_ | omega | (unfold maxLen; omega) | (simp [h1, h1_, h14, h14_]; done) | (simp [h1, h1_, h14, h14_]; omega))
      refine AW.wk [(2, AV.bool false)] [] 1 (by simp [h1, h1_, h14, h14_]) (by simp [h1, h1_, h14, h14_]) (by simp) ?_
      simp only [Option.some.injEq] at hF
      subst hF
      refine AW.ret (hQ _ _ _ ?_ (matchO_0 ?_)).1
      · simp [Try.f24, h1, h1_, h14, h14_]
      · simp [h1, h1_, h14, h14_]
set_option maxHeartbeats 4000000 in
theorem w_guardian_Enough (k : Nat) (v0 : Int) (v1 : Int) (v2 : (List Int)) (v3 : (List Int)) (v4 : Bool) (hF : guardian_Enough k v0 v1 v2 v3 = some v4) :
    FCall Try.prog 25 [AV.agg [AV.int .i64 v0, AV.int .i64 v1, AV.lst false false (List.map (AV.int .i64) v2)], AV.lst false false (List.map (AV.int .i64) v3)] [] (AV.bool v4) [] := by
  unfold guardian_Enough at hF
  refine FCall.enter Try.func25 rfl (by simp) (by decide) (by simp) (by simp) (by simp) (by simp) (by simp) ?_
  intro c0 w0 Q h0 hQ
  refine AW.wk [(0, AV.agg [AV.int .i64 v0, AV.int .i64 v1, AV.lst false false (List.map (AV.int .i64) v2)]), (1, AV.lst false false (List.map (AV.int .i64) v3))] [] 0 (by simp) (by simp) (by simp) ?_
  refine AW.seqR mixed [] [none, none] (by kernel_rfl) fun G435 R435 hG435 hR435 => ?_
  try simp
  repeat' apply And.intro
  any_goals (first | exact hG435 _ (by kernel_rfl) | refine hR435 _ _ _ ?_ | omega | (unfold maxLen; omega) | (simp; done) | (simp; omega))
  refine AW.wk [(1, AV.lst false false (List.map (AV.int .i64) v3)), (2, AV.ptr 0 0)] [(0, .cells [AV.int .i64 v0, AV.int .i64 v1, AV.lst false false (List.map (AV.int .i64) v2)])] 1 (by simp) (by simp) (by simp) ?_
  refine AW.scope ?_
  refine AW.seq fun K438 hK438 => ?_
  refine AW.seqR mixed [] [none, none, none] (by kernel_rfl) fun G439 R439 hG439 hR439 => ?_
  try simp
  repeat' apply And.intro
  try any_goals (first | omega | (unfold maxLen; omega) | (simp; done))
  obtain ⟨v5, h1, hF⟩ := bnd1_elim hF
  refine aCall_l (w_guardian_Valid k _ _ _ _ h1) (by simp) [] [] [] rfl (.cons (.same (by simp)) .nil) (by simp) (by decide) (by simp) (by simp) (.inl rfl) (by simp) (by simp) ?_
  try simp
  repeat' apply And.intro
  any_goals (first | exact hG439 _ (by kernel_rfl) | refine hR439 _ _ _ ?_ | omega | (unfold maxLen; omega) | (simp; done) | (simp; omega))
  refine AW.wk [(1, AV.lst false false (List.map (AV.int .i64) v3)), (2, AV.ptr 0 0), (12, AV.bool (!v5))] [(0, .cells [AV.int .i64 v0, AV.int .i64 v1, AV.lst false false (List.map (AV.int .i64) v2)])] 1 (by simp) (by simp) (by simp) ?_
  by_cases h2 : (!v5) = true
  · replace hF := ite_t h2 hF
    have h2_ := h2
    try simp at h2_
    refine AW.condT (by decide) (by first | (simp [h2, h2_]; done) | (simp [h2, h2_]; omega)) ?_
    refine AW.seqR mixed [] [none] (by kernel_rfl) fun G440 R440 hG440 hR440 => ?_
    try simp [h2, h2_]
    repeat' apply And.intro
    any_goals (first | exact hG440 _ (by kernel_rfl) | refine hR440 _ _ _ ?_ | omega | (unfold maxLen; omega) | (simp [h2, h2_]; done) | (simp [h2, h2_]; omega))
    refine AW.wk [(4, AV.bool false)] [] 1 (by simp [h2, h2_]) (by simp [h2, h2_]) (by simp) ?_
    simp only [Option.some.injEq] at hF
    subst hF
    refine AW.ret (hQ _ _ _ ?_ (matchO_0 ?_)).1
    · simp [Try.f25, h2, h2_]
    · simp [h2, h2_]
  · replace hF := ite_f h2 hF
    have h2_ := h2
    try simp at h2_
    refine AW.condF (by decide) (by first | (simp [h2, h2_]; done) | (simp [h2, h2_]; omega)) ?_
    refine AW.skip ?_
    refine hK438 _ _ _ ?_
    refine AW.seqR mixed [] [none] (by kernel_rfl) fun G441 R441 hG441 hR441 => ?_
    try simp [h2, h2_]
    repeat' apply And.intro
    any_goals (first | exact hG441 _ (by kernel_rfl) | refine hR441 _ _ _ ?_ | omega | (unfold maxLen; omega) | (simp [h2, h2_]; done) | (simp [h2, h2_]; omega))
    refine AW.wk [(1, AV.lst false false (List.map (AV.int .i64) v3)), (2, AV.ptr 0 0), (5, AV.int .i64 0)] [(0, .cells [AV.int .i64 v0, AV.int .i64 v1, AV.lst false false (List.map (AV.int .i64) v2)])] 1 (by simp [h2, h2_]) (by simp [h2, h2_]) (by simp) ?_
    refine AW.seq fun K442 hK442 => ?_
    refine AW.label ?_
    refine hK442 _ _ _ ?_
    refine AW.seq fun K655 hK655 => ?_
    refine AW.seqR mixed [] [none, none, none, none] (by kernel_rfl) fun G656 R656 hG656 hR656 => ?_
    try simp [h2, h2_]
    repeat' apply And.intro
    any_goals (first | exact hG656 _ (by kernel_rfl) | refine hR656 _ _ _ ?_ | omega | (unfold maxLen; omega) | (simp [h2, h2_]; done) | (simp [h2, h2_]; omega))
    refine AW.wk [(1, AV.lst false false (List.map (AV.int .i64) v3)), (2, AV.ptr 0 0), (5, AV.int .i64 0), (14, AV.lst false false (List.map (AV.int .i64) v2)), (15, AV.int .i64 (v2.length : Int)), (16, AV.int .i64 0)] [(0, .cells [AV.int .i64 v0, AV.int .i64 v1, AV.lst false false (List.map (AV.int .i64) v2)])] 1 (by simp [h2, h2_]) (by simp [h2, h2_]) (by simp) ?_
    refine AW.block ?_
    refine AW.loopF (α := (Int × Int)) (fun n (v6, v7) => guardian_Enough.L1 k v1 v2 v3 n v6 v7 = some v4) (fun (v6, v7) => [(1, AV.lst false false (List.map (AV.int .i64) v3)), (2, AV.ptr 0 0), (5, AV.int .i64 v6), (14, AV.lst false false (List.map (AV.int .i64) v2)), (15, AV.int .i64 (v2.length : Int)), (16, AV.int .i64 v7)]) (fun (v6, v7) => [(0, .cells [AV.int .i64 v0, AV.int .i64 v1, AV.lst false false (List.map (AV.int .i64) v2)])]) 1 k ((0, 0)) hF (by simp [h2, h2_]) (by simp [h2, h2_]) (by simp) ?_
    rintro (_|n1) ⟨v6, v7⟩ hF K797 hK797
    · try dsimp only at hF
      rw [guardian_Enough.L1] at hF; cases hF
    try dsimp only at hF
    rw [guardian_Enough.L1] at hF
    refine AW.seqR mixed [] [none] (by kernel_rfl) fun G798 R798 hG798 hR798 => ?_
    try simp [h2, h2_]
    repeat' apply And.intro
    any_goals (first | exact hG798 _ (by kernel_rfl) | refine hR798 _ _ _ ?_ | omega | (unfold maxLen; omega) | (simp [h2, h2_]; done) | (simp [h2, h2_]; omega))
    refine AW.wk [(1, AV.lst false false (List.map (AV.int .i64) v3)), (2, AV.ptr 0 0), (5, AV.int .i64 v6), (14, AV.lst false false (List.map (AV.int .i64) v2)), (15, AV.int .i64 (v2.length : Int)), (16, AV.int .i64 v7), (17, AV.bool (decide (v7 < (v2.length : Int))))] [(0, .cells [AV.int .i64 v0, AV.int .i64 v1, AV.lst false false (List.map (AV.int .i64) v2)])] 1 (by simp [h2, h2_]) (by simp [h2, h2_]) (by simp) ?_
    refine AW.seq fun K799 hK799 => ?_
    by_cases h3 : v7 < (v2.length : Int)
    · replace hF := ite_t h3 hF
      have h3_ := h3
      try simp at h3_
      refine AW.condT (by decide) (by first | (simp [h2, h2_, h3, h3_]; done) | (simp [h2, h2_, h3, h3_]; omega)) ?_
      refine AW.skip ?_
      refine hK799 _ _ _ ?_
      refine AW.midF (α := Int) (fun v8 => guardian_Enough.J2 k v7 (fun v6_ v7_ => guardian_Enough.L1 k v1 v2 v3 n1 v6_ v7_) v8 = some v4) (fun v8 => [(1, AV.lst false false (List.map (AV.int .i64) v3)), (2, AV.ptr 0 0), (5, AV.int .i64 v8), (14, AV.lst false false (List.map (AV.int .i64) v2)), (15, AV.int .i64 (v2.length : Int)), (16, AV.int .i64 v7)]) (fun v8 => [(0, .cells [AV.int .i64 v0, AV.int .i64 v1, AV.lst false false (List.map (AV.int .i64) v2)])]) 1 (fun K834 hK834 => ?_) ?_
      · refine AW.block ?_
        refine AW.seqR mixed [] [none, none, none] (by kernel_rfl) fun G835 R835 hG835 hR835 => ?_
        obtain ⟨v9, h4, h5, h6, hF⟩ := idx_elim hF
        have h6_ := get_of h6
        try simp at h6_
        have h5_ := h5
        try simp at h5_
        try simp [h2, h2_, h3, h3_, h4, h5, h6, h6_, h5_]
        repeat' apply And.intro
        any_goals (first | exact hG835 _ (by kernel_rfl) | refine hR835 _ _ _ ?_ | omega | (unfold maxLen; omega) | (simp [h2, h2_, h3, h3_, h4, h5, h6, h6_, h5_]; done) | (simp [h2, h2_, h3, h3_, h4, h5, h6, h6_, h5_]; omega))
        refine AW.wk [(1, AV.lst false false (List.map (AV.int .i64) v3)), (2, AV.ptr 0 0), (5, AV.int .i64 v6), (7, AV.int .i64 v9), (14, AV.lst false false (List.map (AV.int .i64) v2)), (15, AV.int .i64 (v2.length : Int)), (16, AV.int .i64 v7)] [(0, .cells [AV.int .i64 v0, AV.int .i64 v1, AV.lst false false (List.map (AV.int .i64) v2)])] 1 (by simp [h2, h2_, h3, h3_, h4, h5, h6, h6_, h5_]) (by simp [h2, h2_, h3, h3_, h4, h5, h6, h6_, h5_]) (by simp) ?_
        refine AW.seqR mixed [] [none, none, none] (by kernel_rfl) fun G836 R836 hG836 hR836 => ?_
        try simp [h2, h2_, h3, h3_, h4, h5, h6, h6_, h5_]
        repeat' apply And.intro
        any_goals (first | exact hG836 _ (by kernel_rfl) | refine hR836 _ _ _ ?_ | omega | (unfold maxLen; omega) | (simp [h2, h2_, h3, h3_, h4, h5, h6, h6_, h5_]; done) | (simp [h2, h2_, h3, h3_, h4, h5, h6, h6_, h5_]; omega))
        refine AW.wk [(1, AV.lst false false (List.map (AV.int .i64) v3)), (2, AV.ptr 0 0), (5, AV.int .i64 v6), (7, AV.int .i64 v9), (14, AV.lst false false (List.map (AV.int .i64) v2)), (15, AV.int .i64 (v2.length : Int)), (16, AV.int .i64 v7), (20, AV.lst false false (List.map (AV.int .i64) v3)), (21, AV.int .i64 (v3.length : Int)), (22, AV.int .i64 0)] [(0, .cells [AV.int .i64 v0, AV.int .i64 v1, AV.lst false false (List.map (AV.int .i64) v2)])] 1 (by simp [h2, h2_, h3, h3_, h4, h5, h6, h6_, h5_]) (by simp [h2, h2_, h3, h3_, h4, h5, h6, h6_, h5_]) (by simp) ?_
        refine AW.block ?_
        refine AW.loopF (α := Int) (fun n v10 => guardian_Enough.L3 k v3 v6 v7 v9 (fun v6_ v7_ => guardian_Enough.L1 k v1 v2 v3 n1 v6_ v7_) n v10 = some v4) (fun v10 => [(1, AV.lst false false (List.map (AV.int .i64) v3)), (2, AV.ptr 0 0), (5, AV.int .i64 v6), (7, AV.int .i64 v9), (14, AV.lst false false (List.map (AV.int .i64) v2)), (15, AV.int .i64 (v2.length : Int)), (16, AV.int .i64 v7), (20, AV.lst false false (List.map (AV.int .i64) v3)), (21, AV.int .i64 (v3.length : Int)), (22, AV.int .i64 v10)]) (fun v10 => [(0, .cells [AV.int .i64 v0, AV.int .i64 v1, AV.lst false false (List.map (AV.int .i64) v2)])]) 1 k (0) hF (by simp [h2, h2_, h3, h3_, h4, h5, h6, h6_, h5_]) (by simp [h2, h2_, h3, h3_, h4, h5, h6, h6_, h5_]) (by simp) ?_
        rintro (_|n3) v10 hF K857 hK857
        · try dsimp only at hF
          rw [guardian_Enough.L3] at hF; cases hF
        try dsimp only at hF
        rw [guardian_Enough.L3] at hF
        refine AW.seqR mixed [] [none] (by kernel_rfl) fun G858 R858 hG858 hR858 => ?_
        try simp [h2, h2_, h3, h3_, h4, h5, h6, h6_, h5_]
        repeat' apply And.intro
        any_goals (first | exact hG858 _ (by kernel_rfl) | refine hR858 _ _ _ ?_ | omega | (unfold maxLen; omega) | (simp [h2, h2_, h3, h3_, h4, h5, h6, h6_, h5_]; done) | (simp [h2, h2_, h3, h3_, h4, h5, h6, h6_, h5_]; omega))
        refine AW.wk [(1, AV.lst false false (List.map (AV.int .i64) v3)), (2, AV.ptr 0 0), (5, AV.int .i64 v6), (7, AV.int .i64 v9), (14, AV.lst false false (List.map (AV.int .i64) v2)), (15, AV.int .i64 (v2.length : Int)), (16, AV.int .i64 v7), (20, AV.lst false false (List.map (AV.int .i64) v3)), (21, AV.int .i64 (v3.length : Int)), (22, AV.int .i64 v10), (23, AV.bool (decide (v10 < (v3.length : Int))))] [(0, .cells [AV.int .i64 v0, AV.int .i64 v1, AV.lst false false (List.map (AV.int .i64) v2)])] 1 (by simp [h2, h2_, h3, h3_, h4, h5, h6, h6_, h5_]) (by simp [h2, h2_, h3, h3_, h4, h5, h6, h6_, h5_]) (by simp) ?_
        refine AW.seq fun K859 hK859 => ?_
        by_cases h7 : v10 < (v3.length : Int)
        · replace hF := ite_t h7 hF
          have h7_ := h7
          try simp at h7_
          refine AW.condT (by decide) (by first | (simp [h2, h2_, h3, h3_, h4, h5, h6, h6_, h5_, h7, h7_]; done) | (simp [h2, h2_, h3, h3_, h4, h5, h6, h6_, h5_, h7, h7_]; omega)) ?_
          refine AW.skip ?_
          refine hK859 _ _ _ ?_
          refine AW.seq fun K863 hK863 => ?_
          refine AW.block ?_
          refine AW.seqR mixed [] [none, none, none] (by kernel_rfl) fun G864 R864 hG864 hR864 => ?_
          obtain ⟨v11, h8, h9, h10, hF⟩ := idx_elim hF
          have h10_ := get_of h10
          try simp at h10_
          have h9_ := h9
          try simp at h9_
          try simp [h2, h2_, h3, h3_, h4, h5, h6, h6_, h5_, h7, h7_, h8, h9, h10, h10_, h9_]
          repeat' apply And.intro
          any_goals (first | exact hG864 _ (by kernel_rfl) | refine hR864 _ _ _ ?_ | omega | (unfold maxLen; omega) | (simp [h2, h2_, h3, h3_, h4, h5, h6, h6_, h5_, h7, h7_, h8, h9, h10, h10_, h9_]; done) | (simp [h2, h2_, h3, h3_, h4, h5, h6, h6_, h5_, h7, h7_, h8, h9, h10, h10_, h9_]; omega))
          refine AW.wk [(1, AV.lst false false (List.map (AV.int .i64) v3)), (2, AV.ptr 0 0), (5, AV.int .i64 v6), (7, AV.int .i64 v9), (9, AV.int .i64 v11), (14, AV.lst false false (List.map (AV.int .i64) v2)), (15, AV.int .i64 (v2.length : Int)), (16, AV.int .i64 v7), (20, AV.lst false false (List.map (AV.int .i64) v3)), (21, AV.int .i64 (v3.length : Int)), (22, AV.int .i64 v10)] [(0, .cells [AV.int .i64 v0, AV.int .i64 v1, AV.lst false false (List.map (AV.int .i64) v2)])] 1 (by simp [h2, h2_, h3, h3_, h4, h5, h6, h6_, h5_, h7, h7_, h8, h9, h10, h10_, h9_]) (by simp [h2, h2_, h3, h3_, h4, h5, h6, h6_, h5_, h7, h7_, h8, h9, h10, h10_, h9_]) (by simp) ?_
          refine AW.seqR mixed [] [none, none, none] (by kernel_rfl) fun G865 R865 hG865 hR865 => ?_
          try simp [h2, h2_, h3, h3_, h4, h5, h6, h6_, h5_, h7, h7_, h8, h9, h10, h10_, h9_]
          repeat' apply And.intro
          any_goals (first | exact hG865 _ (by kernel_rfl) | refine hR865 _ _ _ ?_ | omega | (unfold maxLen; omega) | (simp [h2, h2_, h3, h3_, h4, h5, h6, h6_, h5_, h7, h7_, h8, h9, h10, h10_, h9_]; done) | (simp [h2, h2_, h3, h3_, h4, h5, h6, h6_, h5_, h7, h7_, h8, h9, h10, h10_, h9_]; omega))
          refine AW.wk [(1, AV.lst false false (List.map (AV.int .i64) v3)), (2, AV.ptr 0 0), (5, AV.int .i64 v6), (7, AV.int .i64 v9), (14, AV.lst false false (List.map (AV.int .i64) v2)), (15, AV.int .i64 (v2.length : Int)), (16, AV.int .i64 v7), (20, AV.lst false false (List.map (AV.int .i64) v3)), (21, AV.int .i64 (v3.length : Int)), (22, AV.int .i64 v10), (28, AV.bool (v11 == v9))] [(0, .cells [AV.int .i64 v0, AV.int .i64 v1, AV.lst false false (List.map (AV.int .i64) v2)])] 1 (by simp [h2, h2_, h3, h3_, h4, h5, h6, h6_, h5_, h7, h7_, h8, h9, h10, h10_, h9_]) (by simp [h2, h2_, h3, h3_, h4, h5, h6, h6_, h5_, h7, h7_, h8, h9, h10, h10_, h9_]) (by simp) ?_
          by_cases h11 : v11 = v9
          · replace hF := ite_t h11 hF
            have h11q : v11 = v9 := h11
            have h11_ := eqb_t h11q
            have h11__ := neb_f h11q
            refine AW.condT (by decide) (by first | (simp [h2, h2_, h3, h3_, h4, h5, h6, h6_, h5_, h7, h7_, h8, h9, h10, h10_, h9_, h11_, h11__]; done) | (simp [h2, h2_, h3, h3_, h4, h5, h6, h6_, h5_, h7, h7_, h8, h9, h10, h10_, h9_, h11_, h11__]; omega)) ?_
            refine AW.seqR mixed [] [none, none, none] (by kernel_rfl) fun G866 R866 hG866 hR866 => ?_
            try simp [h2, h2_, h3, h3_, h4, h5, h6, h6_, h5_, h7, h7_, h8, h9, h10, h10_, h9_, h11_, h11__]
            repeat' apply And.intro
            any_goals (first | exact hG866 _ (by kernel_rfl) | refine hR866 _ _ _ ?_ | omega | (unfold maxLen; omega) | (simp [h2, h2_, h3, h3_, h4, h5, h6, h6_, h5_, h7, h7_, h8, h9, h10, h10_, h9_, h11_, h11__]; done) | (simp [h2, h2_, h3, h3_, h4, h5, h6, h6_, h5_, h7, h7_, h8, h9, h10, h10_, h9_, h11_, h11__]; omega))
            refine AW.wk [(1, AV.lst false false (List.map (AV.int .i64) v3)), (2, AV.ptr 0 0), (5, AV.int .i64 (IntKind.wrap .i64 (v6 + 1))), (14, AV.lst false false (List.map (AV.int .i64) v2)), (15, AV.int .i64 (v2.length : Int)), (16, AV.int .i64 v7)] [(0, .cells [AV.int .i64 v0, AV.int .i64 v1, AV.lst false false (List.map (AV.int .i64) v2)])] 1 (by simp [h2, h2_, h3, h3_, h4, h5, h6, h6_, h5_, h7, h7_, h8, h9, h10, h10_, h9_, h11_, h11__]) (by simp [h2, h2_, h3, h3_, h4, h5, h6, h6_, h5_, h7, h7_, h8, h9, h10, h10_, h9_, h11_, h11__]) (by simp) ?_
            refine AW.exit ?_
            try simp
            refine hK834 _ _ _ ?_
            exact Can.join (IntKind.wrap .i64 (v6 + 1)) hF (by simp [h2, h2_, h3, h3_, h4, h5, h6, h6_, h5_, h7, h7_, h8, h9, h10, h10_, h9_, h11_, h11__]) (by simp [h2, h2_, h3, h3_, h4, h5, h6, h6_, h5_, h7, h7_, h8, h9, h10, h10_, h9_, h11_, h11__]) (by simp)
          · replace hF := ite_f h11 hF
            have h11_ := eqb_f h11
            have h11__ := neb_t h11
            refine AW.condF (by decide) (by first | (simp [h2, h2_, h3, h3_, h4, h5, h6, h6_, h5_, h7, h7_, h8, h9, h10, h10_, h9_, h11, h11_, h11__]; done) | (simp [h2, h2_, h3, h3_, h4, h5, h6, h6_, h5_, h7, h7_, h8, h9, h10, h10_, h9_, h11, h11_, h11__]; omega)) ?_
            refine AW.skip ?_
            refine hK863 _ _ _ ?_
            refine AW.region mixed [] [none, none] (by kernel_rfl) fun G867 R867 hG867 hR867 => ?_
            try simp [h2, h2_, h3, h3_, h4, h5, h6, h6_, h5_, h7, h7_, h8, h9, h10, h10_, h9_, h11, h11_, h11__]
            repeat' apply And.intro
            any_goals (first | exact hG867 _ (by kernel_rfl) | refine hR867 _ _ _ ?_ | omega | (unfold maxLen; omega) | (simp [h2, h2_, h3, h3_, h4, h5, h6, h6_, h5_, h7, h7_, h8, h9, h10, h10_, h9_, h11, h11_, h11__]; done) | (simp [h2, h2_, h3, h3_, h4, h5, h6, h6_, h5_, h7, h7_, h8, h9, h10, h10_, h9_, h11, h11_, h11__]; omega))
            refine hK857 _ _ _ ?_
            refine Can.weak [(1, AV.lst false false (List.map (AV.int .i64) v3)), (2, AV.ptr 0 0), (5, AV.int .i64 v6), (7, AV.int .i64 v9), (14, AV.lst false false (List.map (AV.int .i64) v2)), (15, AV.int .i64 (v2.length : Int)), (16, AV.int .i64 v7), (20, AV.lst false false (List.map (AV.int .i64) v3)), (21, AV.int .i64 (v3.length : Int)), (22, AV.int .i64 (IntKind.wrap .i64 (v10 + 1)))] [(0, .cells [AV.int .i64 v0, AV.int .i64 v1, AV.lst false false (List.map (AV.int .i64) v2)])] 1 (by simp [h2, h2_, h3, h3_, h4, h5, h6, h6_, h5_, h7, h7_, h8, h9, h10, h10_, h9_, h11, h11_, h11__]) (by simp [h2, h2_, h3, h3_, h4, h5, h6, h6_, h5_, h7, h7_, h8, h9, h10, h10_, h9_, h11, h11_, h11__]) (by simp) ?_
            exact Can.next (k' := n3) (IntKind.wrap .i64 (v10 + 1)) (by omega) hF (by simp [h2, h2_, h3, h3_, h4, h5, h6, h6_, h5_, h7, h7_, h8, h9, h10, h10_, h9_, h11, h11_, h11__]) (by simp [h2, h2_, h3, h3_, h4, h5, h6, h6_, h5_, h7, h7_, h8, h9, h10, h10_, h9_, h11, h11_, h11__]) (by simp)
        · replace hF := ite_f h7 hF
          have h7_ := h7
          try simp at h7_
          refine AW.condF (by decide) (by first | (simp [h2, h2_, h3, h3_, h4, h5, h6, h6_, h5_, h7, h7_]; done) | (simp [h2, h2_, h3, h3_, h4, h5, h6, h6_, h5_, h7, h7_]; omega)) ?_
          refine AW.exit ?_
          try simp
          refine hK834 _ _ _ ?_
          exact Can.join (v6) hF (by simp [h2, h2_, h3, h3_, h4, h5, h6, h6_, h5_, h7, h7_]) (by simp [h2, h2_, h3, h3_, h4, h5, h6, h6_, h5_, h7, h7_]) (by simp)
      · rintro v8 hF
        try dsimp only at hF
        unfold guardian_Enough.J2 at hF
        refine AW.region mixed [] [none, none] (by kernel_rfl) fun G833 R833 hG833 hR833 => ?_
        try simp [h2, h2_, h3, h3_]
        repeat' apply And.intro
        any_goals (first | exact hG833 _ (by kernel_rfl) | refine hR833 _ _ _ ?_ | omega | (unfold maxLen; omega) | (simp [h2, h2_, h3, h3_]; done) | (simp [h2, h2_, h3, h3_]; omega))
        refine hK797 _ _ _ ?_
        refine Can.weak [(1, AV.lst false false (List.map (AV.int .i64) v3)), (2, AV.ptr 0 0), (5, AV.int .i64 v8), (14, AV.lst false false (List.map (AV.int .i64) v2)), (15, AV.int .i64 (v2.length : Int)), (16, AV.int .i64 (IntKind.wrap .i64 (v7 + 1)))] [(0, .cells [AV.int .i64 v0, AV.int .i64 v1, AV.lst false false (List.map (AV.int .i64) v2)])] 1 (by simp [h2, h2_, h3, h3_]) (by simp [h2, h2_, h3, h3_]) (by simp) ?_
        exact Can.next (k' := n1) ((v8, IntKind.wrap .i64 (v7 + 1))) (by omega) hF (by simp [h2, h2_, h3, h3_]) (by simp [h2, h2_, h3, h3_]) (by simp)
    · replace hF := ite_f h3 hF
      have h3_ := h3
      try simp at h3_
      refine AW.condF (by decide) (by first | (simp [h2, h2_, h3, h3_]; done) | (simp [h2, h2_, h3, h3_]; omega)) ?_
      refine AW.exit ?_
      try simp
      refine hK655 _ _ _ ?_
      refine AW.seqR mixed [] [none, none, none, none, none] (by kernel_rfl) fun G868 R868 hG868 hR868 => ?_
      try simp [h2, h2_, h3, h3_]
      repeat' apply And.intro
      any_goals (first | exact hG868 _ (by kernel_rfl) | refine hR868 _ _ _ ?_ | omega | (unfold maxLen; omega) | (simp [h2, h2_, h3, h3_]; done) | (simp [h2, h2_, h3, h3_]; omega))
      refine AW.wk [(4, AV.bool (decide (v1 ≤ v6)))] [] 1 (by simp [h2, h2_, h3, h3_]) (by simp [h2, h2_, h3, h3_]) (by simp) ?_
      simp only [Option.some.injEq] at hF
      subst hF
      refine AW.ret (hQ _ _ _ ?_ (matchO_0 ?_)).1
      · simp [Try.f25, h2, h2_, h3, h3_]
      · simp [h2, h2_, h3, h3_]
end Go.TF
