/- Walks: the Go text computes the Lean functions (printed by a program of our own). -/
import Derived.Test.YteclncnknklkfaaGaPu
import Derived.Test.YteclncnknklkfaaGaAbsT
import Derived.Test.YteclncnknklkfaaGaWa0
import Derived.Test.YteclncnknklkfaaGaWa3
set_option linter.unusedVariables false
set_option linter.unusedSimpArgs false
set_option maxRecDepth 100000
set_option maxHeartbeats 4000000
namespace Go.TF
open Go Go.Abs Go.Proofs Go.Proofs.YteclncnknklkfaaGaT
theorem w_ref03_key (k : Nat) (v0 : Int) (v1 : Bool) (hF : ref03_key k v0 = some v1) :
  FCall Try.prog 57 [AV.int .i64 v0] [] (AV.bool v1) [] := by
 unfold ref03_key at hF
 refine EN Try.func57 ?_
 intro c0 w0 Q h0 hQ
 refine WK [(0, Iz v0)] [] 0 (by simp) (by simp) ?_
 refine SQ [] [none] fun _ _ g r => ?_
 try simp
 and_intros <;> first | exact g _ (by kernel_rfl) | refine r _ _ _ ?_ | omega | (simp [maxLen] <;> omega)
 refine WK [(0, Iz v0)] [] 0 (by simp) (by simp) ?_
 refine SQ [] [none, none, none, some (5, true), some (5, true), none, none] fun _ _ g r => ?_
 by_cases h1 : 0 ≤ v0
 ·replace hF := ite_t h1 hF
  have h1_ := h1
  try simp at h1_
  try simp [h1, h1_]
  and_intros <;> first | exact g _ (by kernel_rfl) | refine r _ _ _ ?_ | omega | (simp [h1, h1_, maxLen] <;> omega)
  refine WK [(2, AV.bool (decide (v0 < 64)))] [] 0 (by simp [h1, h1_]) (by simp [h1, h1_]) ?_
  simp only [Option.some.injEq] at hF
  subst hF
  refine AW.ret (hQ _ _ _ ?_ (matchO_0 ?_)).1
  ·simp [Try.f57, h1, h1_]
  ·simp [h1, h1_]
 ·replace hF := ite_f h1 hF
  have h1_ := h1
  try simp at h1_
  try simp [h1, h1_]
  and_intros <;> first | exact g _ (by kernel_rfl) | refine r _ _ _ ?_ | omega | (simp [h1, h1_, maxLen] <;> omega)
  refine WK [(2, AV.bool false)] [] 0 (by simp [h1, h1_]) (by simp [h1, h1_]) ?_
  simp only [Option.some.injEq] at hF
  subst hF
  refine AW.ret (hQ _ _ _ ?_ (matchO_0 ?_)).1
  ·simp [Try.f57, h1, h1_]
  ·simp [h1, h1_]
theorem w_ref03_in (k : Nat) (v0 : Int) (v1 : Int) (v2 : Bool) (hF : ref03_in k v0 v1 = some v2) :
  FCall Try.prog 58 [AV.int .i64 v0, AV.int .i64 v1] [] (AV.bool v2) [] := by
 unfold ref03_in at hF
 refine EN Try.func58 ?_
 intro c0 w0 Q h0 hQ
 refine WK [(0, Iz v0), (1, Iz v1)] [] 0 (by simp) (by simp) ?_
 refine SQ [] [none] fun _ _ g r => ?_
 try simp
 and_intros <;> first | exact g _ (by kernel_rfl) | refine r _ _ _ ?_ | omega | (simp [maxLen] <;> omega)
 refine WK [(0, Iz v0), (1, Iz v1)] [] 0 (by simp) (by simp) ?_
 refine SQ [] [none, none, none, some (7, true), some (7, true), some (7, true), none, none] fun _ _ g r => ?_
 by_cases h1 : 0 ≤ v0
 ·replace hF := ite_t h1 hF
  have h1_ := h1
  try simp at h1_
  try simp [h1, h1_]
  and_intros <;> first | exact g _ (by kernel_rfl) | refine r _ _ _ ?_ | omega | (simp [h1, h1_, maxLen] <;> omega)
  refine WK [(4, AV.bool (decide (v0 ≤ v1)))] [] 0 (by simp [h1, h1_]) (by simp [h1, h1_]) ?_
  simp only [Option.some.injEq] at hF
  subst hF
  refine AW.ret (hQ _ _ _ ?_ (matchO_0 ?_)).1
  ·simp [Try.f58, h1, h1_]
  ·simp [h1, h1_]
 ·replace hF := ite_f h1 hF
  have h1_ := h1
  try simp at h1_
  try simp [h1, h1_]
  and_intros <;> first | exact g _ (by kernel_rfl) | refine r _ _ _ ?_ | omega | (simp [h1, h1_, maxLen] <;> omega)
  refine WK [(4, AV.bool false)] [] 0 (by simp [h1, h1_]) (by simp [h1, h1_]) ?_
  simp only [Option.some.injEq] at hF
  subst hF
  refine AW.ret (hQ _ _ _ ?_ (matchO_0 ?_)).1
  ·simp [Try.f58, h1, h1_]
  ·simp [h1, h1_]
abbrev c_ref03_numbers (v0 : Int) (v1 : Int) (v2 : ByteArray) (v3 : Int) (v4 : Int) (v5 : Int) (v6 : Int) (v7 : Int) (v8 : (List Int)) (v9 : (List api_Pin)) (v10 : ByteArray) (v11 : Int) (v12 : ByteArray) : AObj := .cells [Iz v0, Iz v1, AV.str v2, Iz v3, Iz v4, Iz v5, Iz v6, Iz v7, Lz v8, AV.lst false false (List.map api_Pin.av v9), AV.str v10, Iz v11, AV.str v12]
theorem w_ref03_numbers (k : Nat) (v0 : Int) (v1 : Int) (v2 : ByteArray) (v3 : Int) (v4 : Int) (v5 : Int) (v6 : Int) (v7 : Int) (v8 : (List Int)) (v9 : (List api_Pin)) (v10 : ByteArray) (v11 : Int) (v12 : ByteArray) (v13 : Bool) (hF : ref03_numbers k v0 v1 v2 v3 v4 v5 v6 v7 v8 v9 v10 v11 v12 = some v13) :
  FCall Try.prog 59 [AV.agg [AV.int .i64 v0, AV.int .i64 v1, AV.str v2, AV.int .i64 v3, AV.int .i64 v4, AV.int .i64 v5, AV.int .i64 v6, AV.int .i64 v7, AV.lst false false (List.map (AV.int .i64) v8), AV.lst false false (List.map api_Pin.av v9), AV.str v10, AV.int .i64 v11, AV.str v12]] [] (AV.bool v13) [] := by
 unfold ref03_numbers at hF
 refine EN Try.func59 ?_
 intro c0 w0 Q h0 hQ
 refine WK [(0, AV.agg [Iz v0, Iz v1, AV.str v2, Iz v3, Iz v4, Iz v5, Iz v6, Iz v7, Lz v8, AV.lst false false (List.map api_Pin.av v9), AV.str v10, Iz v11, AV.str v12])] [] 0 (by simp) (by simp) ?_
 refine SQ [] [none, none] fun _ _ g r => ?_
 try simp
 and_intros <;> first | exact g _ (by kernel_rfl) | refine r _ _ _ ?_ | omega | (simp [maxLen] <;> omega)
 refine WK [(1, AV.ptr 0 0)] [(0, c_ref03_numbers v0 v1 v2 v3 v4 v5 v6 v7 v8 v9 v10 v11 v12)] 1 (by simp) (by simp) ?_
 refine AW.seq fun K112 hK112 => ?_
 refine SQ [] [none, none, none, none, none, some (8, false), some (8, false), some (8, false), some (8, false), none, none, some (14, false), some (14, false), some (14, false), some (14, false), none, none, some (20, false), some (20, false), some (20, false), some (20, false), none] fun _ _ g r => ?_
 try simp
 and_intros
 try any_goals first | omega | (simp [maxLen] <;> omega)
 obtain ⟨v14, h1, hF⟩ := bnd1_elim hF
 refine AC (w_ref03_in k _ _ _ h1) (.cons (.same (by simp)) (.cons (.same (by simp)) .nil)) ?_
 by_cases h2 : (!v14) = true
 ·replace hF := ite_t h2 hF
  have h2_ := h2
  try simp at h2_
  try simp [h2, h2_]
  and_intros <;> first | exact g _ (by kernel_rfl) | refine r _ _ _ ?_ | omega | (simp [h2, h2_, maxLen] <;> omega)
  refine WK [(1, AV.ptr 0 0), (25, AV.bool true)] [(0, c_ref03_numbers v0 v1 v2 v3 v4 v5 v6 v7 v8 v9 v10 v11 v12)] 1 (by simp [h2, h2_]) (by simp [h2, h2_]) ?_
  refine CT (by simp [h2, h2_]) ?_
  refine SQ [] [none] fun _ _ g r => ?_
  try simp [h2, h2_]
  and_intros <;> first | exact g _ (by kernel_rfl) | refine r _ _ _ ?_ | omega | (simp [h2, h2_, maxLen] <;> omega)
  refine WK [(2, AV.bool false)] [] 1 (by simp [h2, h2_]) (by simp [h2, h2_]) ?_
  simp only [Option.some.injEq] at hF
  subst hF
  refine AW.ret (hQ _ _ _ ?_ (matchO_0 ?_)).1
  ·simp [Try.f59, h2, h2_]
  ·simp [h2, h2_]
 ·replace hF := ite_f h2 hF
  have h2_ := h2
  try simp at h2_
  try simp [h2, h2_]
  and_intros
  try any_goals first | omega | (simp [h2, h2_, maxLen] <;> omega)
  obtain ⟨v15, h3, hF⟩ := bnd1_elim hF
  refine AC (w_ref03_in k _ _ _ h3) (.cons (.same (by simp [h2, h2_])) (.cons (.same (by simp [h2, h2_])) .nil)) ?_
  by_cases h4 : (!v15) = true
  ·replace hF := ite_t h4 hF
   have h4_ := h4
   try simp at h4_
   have F1 := And.intro h2 (And.intro h2_ (And.intro h4 h4_))
   try simp [F1]
   and_intros <;> first | exact g _ (by kernel_rfl) | refine r _ _ _ ?_ | omega | (simp [maxLen, F1] <;> omega)
   refine WK [(1, AV.ptr 0 0), (25, AV.bool true)] [(0, c_ref03_numbers v0 v1 v2 v3 v4 v5 v6 v7 v8 v9 v10 v11 v12)] 1 (by simp [F1]) (by simp [F1]) ?_
   refine CT (by simp [F1]) ?_
   refine SQ [] [none] fun _ _ g r => ?_
   try simp [F1]
   and_intros <;> first | exact g _ (by kernel_rfl) | refine r _ _ _ ?_ | omega | (simp [maxLen, F1] <;> omega)
   refine WK [(2, AV.bool false)] [] 1 (by simp [F1]) (by simp [F1]) ?_
   simp only [Option.some.injEq] at hF
   subst hF
   refine AW.ret (hQ _ _ _ ?_ (matchO_0 ?_)).1
   ·simp [Try.f59, F1]
   ·simp [F1]
  ·replace hF := ite_f h4 hF
   have h4_ := h4
   try simp at h4_
   have F2 := And.intro h2 (And.intro h2_ (And.intro h4 h4_))
   try simp [F2]
   and_intros
   try any_goals first | omega | (simp [maxLen, F2] <;> omega)
   obtain ⟨v16, h5, hF⟩ := bnd1_elim hF
   refine AC (w_ref03_in k _ _ _ h5) (.cons (.same (by simp [F2])) (.cons (.same (by simp [F2])) .nil)) ?_
   by_cases h6 : (!v16) = true
   ·replace hF := ite_t h6 hF
    have h6_ := h6
    try simp at h6_
    have F3 := And.intro F2 (And.intro h6 h6_)
    try simp [F3]
    and_intros <;> first | exact g _ (by kernel_rfl) | refine r _ _ _ ?_ | omega | (simp [maxLen, F3] <;> omega)
    refine WK [(1, AV.ptr 0 0), (25, AV.bool true)] [(0, c_ref03_numbers v0 v1 v2 v3 v4 v5 v6 v7 v8 v9 v10 v11 v12)] 1 (by simp [F3]) (by simp [F3]) ?_
    refine CT (by simp [F3]) ?_
    refine SQ [] [none] fun _ _ g r => ?_
    try simp [F3]
    and_intros <;> first | exact g _ (by kernel_rfl) | refine r _ _ _ ?_ | omega | (simp [maxLen, F3] <;> omega)
    refine WK [(2, AV.bool false)] [] 1 (by simp [F3]) (by simp [F3]) ?_
    simp only [Option.some.injEq] at hF
    subst hF
    refine AW.ret (hQ _ _ _ ?_ (matchO_0 ?_)).1
    ·simp [Try.f59, F3]
    ·simp [F3]
   ·replace hF := ite_f h6 hF
    have h6_ := h6
    try simp at h6_
    have F4 := And.intro F2 (And.intro h6 h6_)
    try simp [F4]
    and_intros
    try any_goals first | omega | (simp [maxLen, F4] <;> omega)
    obtain ⟨v17, h7, hF⟩ := bnd1_elim hF
    refine AC (w_ref03_in k _ _ _ h7) (.cons (.same (by simp [F4])) (.cons (.same (by simp [F4])) .nil)) ?_
    try simp [F4]
    and_intros <;> first | exact g _ (by kernel_rfl) | refine r _ _ _ ?_ | omega | (simp [maxLen, F4] <;> omega)
    refine WK [(1, AV.ptr 0 0), (25, AV.bool (!v17))] [(0, c_ref03_numbers v0 v1 v2 v3 v4 v5 v6 v7 v8 v9 v10 v11 v12)] 1 (by simp [F4]) (by simp [F4]) ?_
    by_cases h8 : (!v17) = true
    ·replace hF := ite_t h8 hF
     have h8_ := h8
     try simp at h8_
     have F5 := And.intro F4 (And.intro h8 h8_)
     refine CT (by simp [F5] <;> omega) ?_
     refine SQ [] [none] fun _ _ g r => ?_
     try simp [F5]
     and_intros <;> first | exact g _ (by kernel_rfl) | refine r _ _ _ ?_ | omega | (simp [maxLen, F5] <;> omega)
     refine WK [(2, AV.bool false)] [] 1 (by simp [F5]) (by simp [F5]) ?_
     simp only [Option.some.injEq] at hF
     subst hF
     refine AW.ret (hQ _ _ _ ?_ (matchO_0 ?_)).1
     ·simp [Try.f59, F5]
     ·simp [F5]
    ·replace hF := ite_f h8 hF
     have h8_ := h8
     try simp at h8_
     have F6 := And.intro F4 (And.intro h8 h8_)
     refine CF (by simp [F6] <;> omega) ?_
     refine AW.skip ?_
     refine hK112 _ _ _ ?_
     refine AW.seq fun K156 hK156 => ?_
     refine SQ [] [none] fun _ _ g r => ?_
     try simp [F6]
     and_intros <;> first | exact g _ (by kernel_rfl) | refine r _ _ _ ?_ | omega | (simp [maxLen, F6] <;> omega)
     refine WK [(1, AV.ptr 0 0), (3, Iz 0)] [(0, c_ref03_numbers v0 v1 v2 v3 v4 v5 v6 v7 v8 v9 v10 v11 v12)] 1 (by simp [F6]) (by simp [F6]) ?_
     refine AW.block ?_
     refine AW.loopF (α := Int) (fun n v18 => ref03_numbers.L1 k v0 v3 v4 v5 v6 v7 v8 n v18 = some v13) (fun v18 => [(1, AV.ptr 0 0), (3, Iz v18)]) (fun v18 => [(0, c_ref03_numbers v0 v1 v2 v3 v4 v5 v6 v7 v8 v9 v10 v11 v12)]) 1 k (0) hF (by simp [F6]) (by simp [F6]) (by simp) ?_
     rintro (_|n1) v18 hF K185 hK185
     ·try dsimp only at hF
      rw [ref03_numbers.L1] at hF; cases hF
     try dsimp only at hF
     rw [ref03_numbers.L1] at hF
     refine AW.seq fun K187 hK187 => ?_
     refine SQ [] [none, none, none, none, none] fun _ _ g r => ?_
     try simp [F6]
     and_intros <;> first | exact g _ (by kernel_rfl) | refine r _ _ _ ?_ | omega | (simp [maxLen, F6] <;> omega)
     refine WK [(1, AV.ptr 0 0), (3, Iz v18), (30, AV.bool (decide (v18 < (v8.length : Int))))] [(0, c_ref03_numbers v0 v1 v2 v3 v4 v5 v6 v7 v8 v9 v10 v11 v12)] 1 (by simp [F6]) (by simp [F6]) ?_
     by_cases h9 : v18 < (v8.length : Int)
     ·replace hF := ite_t h9 hF
      have h9_ := h9
      try simp at h9_
      have F7 := And.intro F6 (And.intro h9 h9_)
      refine CT (by simp [F7] <;> omega) ?_
      refine AW.skip ?_
      refine hK187 _ _ _ ?_
      refine AW.seq fun K191 hK191 => ?_
      refine AW.block ?_
      refine SQ [] [none, none, none, none, none, none, none] fun _ _ g r => ?_
      obtain ⟨v19, h10, h11, h12, hF⟩ := idx_elim hF
      have h12_ := get_of h12
      try simp at h12_
      have h11_ := h11
      try simp at h11_
      have F8 := And.intro F7 (And.intro h10 (And.intro h11 (And.intro h12 (And.intro h12_ h11_))))
      try simp [F8]
      and_intros
      try any_goals first | omega | (simp [maxLen, F8] <;> omega)
      obtain ⟨v20, h13, hF⟩ := bnd1_elim hF
      refine AC (w_ref03_in k _ _ _ h13) (.cons (.same (by simp [F8])) (.cons (.same (by simp [F8])) .nil)) ?_
      try simp [F8]
      and_intros <;> first | exact g _ (by kernel_rfl) | refine r _ _ _ ?_ | omega | (simp [maxLen, F8] <;> omega)
      refine WK [(1, AV.ptr 0 0), (3, Iz v18), (39, AV.bool (!v20))] [(0, c_ref03_numbers v0 v1 v2 v3 v4 v5 v6 v7 v8 v9 v10 v11 v12)] 1 (by simp [F8]) (by simp [F8]) ?_
      by_cases h14 : (!v20) = true
      ·replace hF := ite_t h14 hF
       have h14_ := h14
       try simp at h14_
       have F9 := And.intro F8 (And.intro h14 h14_)
       refine CT (by simp [F9] <;> omega) ?_
       refine SQ [] [none] fun _ _ g r => ?_
       try simp [F9]
       and_intros <;> first | exact g _ (by kernel_rfl) | refine r _ _ _ ?_ | omega | (simp [maxLen, F9] <;> omega)
       refine WK [(2, AV.bool false)] [] 1 (by simp [F9]) (by simp [F9]) ?_
       simp only [Option.some.injEq] at hF
       subst hF
       refine AW.ret (hQ _ _ _ ?_ (matchO_0 ?_)).1
       ·simp [Try.f59, F9]
       ·simp [F9]
      ·replace hF := ite_f h14 hF
       have h14_ := h14
       try simp at h14_
       have F10 := And.intro F8 (And.intro h14 h14_)
       refine CF (by simp [F10] <;> omega) ?_
       refine AW.skip ?_
       refine hK191 _ _ _ ?_
       refine RG [] [none, none, none] fun _ _ g r => ?_
       try simp [F10]
       and_intros <;> first | exact g _ (by kernel_rfl) | refine r _ _ _ ?_ | omega | (simp [maxLen, F10] <;> omega)
       refine hK185 _ _ _ ?_
       exact NX (k' := n1) (IntKind.wrap .i64 (v18 + 1)) hF (by simp [F10]) (by simp [F10])
     ·replace hF := ite_f h9 hF
      have h9_ := h9
      try simp at h9_
      have F11 := And.intro F6 (And.intro h9 h9_)
      refine CF (by simp [F11] <;> omega) ?_
      refine AW.exit ?_
      try simp
      refine hK156 _ _ _ ?_
      refine AW.seq fun K202 hK202 => ?_
      refine SQ [] [none, none] fun _ _ g r => ?_
      try simp [F11]
      and_intros <;> first | exact g _ (by kernel_rfl) | refine r _ _ _ ?_ | omega | (simp [maxLen, F11] <;> omega)
      refine WK [(1, AV.ptr 0 0), (41, Iz v4)] [(0, c_ref03_numbers v0 v1 v2 v3 v4 v5 v6 v7 v8 v9 v10 v11 v12)] 1 (by simp [F11]) (by simp [F11]) ?_
      refine AW.block ?_
      refine SQ [] [none, none] fun _ _ g r => ?_
      try simp [F11]
      and_intros <;> first | exact g _ (by kernel_rfl) | refine r _ _ _ ?_ | omega | (simp [maxLen, F11] <;> omega)
      refine WK [(1, AV.ptr 0 0), (41, Iz v4), (42, AV.bool (v4 == 1))] [(0, c_ref03_numbers v0 v1 v2 v3 v4 v5 v6 v7 v8 v9 v10 v11 v12)] 1 (by simp [F11]) (by simp [F11]) ?_
      by_cases h15 : v4 = 1
      ·replace hF := ite_t h15 hF
       have h15q : v4 = 1 := h15
       have h15_ := eqb_t h15q
       have h15__ := neb_f h15q
       have F12 := And.intro F11 (And.intro h15_ (And.intro h15__ h15q))
       refine CT (by simp [F12] <;> omega) ?_
       refine SQ [] [none, none, none, none, some (47, true), some (47, true), some (47, true), some (47, true), some (47, true), none, none, some (54, true), some (54, true), some (54, true), none, none, some (59, true), some (59, true), some (59, true), none, none, some (64, true), some (64, true), some (64, true), some (64, true), some (64, true), none, none, some (71, true), some (71, true), some (71, true), none, none] fun _ _ g r => ?_
       try simp [F12]
       and_intros
       try any_goals first | omega | (simp [maxLen, F12] <;> omega)
       obtain ⟨v21, h16, hF⟩ := bnd1_elim hF
       refine AC (w_ref03_key k _ _ h16) (.cons (.same (by simp [F12])) .nil) ?_
       by_cases h17 : v21 = true
       ·replace hF := ite_t h17 hF
        have h17_ := h17
        try simp at h17_
        by_cases h18 : v5 ≠ v0
        ·replace hF := ite_t h18 hF
         have h18_ := eqb_f h18
         have h18__ := neb_t h18
         by_cases h19 : 1 ≤ v6
         ·replace hF := ite_t h19 hF
          have h19_ := h19
          try simp at h19_
          by_cases h20 : v6 ≤ 3
          ·replace hF := ite_t h20 hF
           have h20_ := h20
           try simp at h20_
           by_cases h21 : v3 ≤ v7
           ·replace hF := ite_t h21 hF
            have h21_ := h21
            try simp at h21_
            have F13 := And.intro F12 (And.intro h17 (And.intro h17_ (And.intro h18 (And.intro h18_ (And.intro h18__ (And.intro h19 (And.intro h19_ (And.intro h20 (And.intro h20_ (And.intro h21 h21_))))))))))
            try simp [F13]
            and_intros <;> first | exact g _ (by kernel_rfl) | refine r _ _ _ ?_ | omega | (simp [maxLen, F13] <;> omega)
            refine WK [(2, AV.bool (decide (v7 ≤ 2147483648)))] [] 1 (by simp [F13]) (by simp [F13]) ?_
            simp only [Option.some.injEq] at hF
            subst hF
            refine AW.ret (hQ _ _ _ ?_ (matchO_0 ?_)).1
            ·simp [Try.f59, F13]
            ·simp [F13]
           ·replace hF := ite_f h21 hF
            have h21_ := h21
            try simp at h21_
            have F14 := And.intro F12 (And.intro h17 (And.intro h17_ (And.intro h18 (And.intro h18_ (And.intro h18__ (And.intro h19 (And.intro h19_ (And.intro h20 (And.intro h20_ (And.intro h21 h21_))))))))))
            try simp [F14]
            and_intros <;> first | exact g _ (by kernel_rfl) | refine r _ _ _ ?_ | omega | (simp [maxLen, F14] <;> omega)
            refine WK [(2, AV.bool false)] [] 1 (by simp [F14]) (by simp [F14]) ?_
            simp only [Option.some.injEq] at hF
            subst hF
            refine AW.ret (hQ _ _ _ ?_ (matchO_0 ?_)).1
            ·simp [Try.f59, F14]
            ·simp [F14]
          ·replace hF := ite_f h20 hF
           have h20_ := h20
           try simp at h20_
           have F15 := And.intro F12 (And.intro h17 (And.intro h17_ (And.intro h18 (And.intro h18_ (And.intro h18__ (And.intro h19 (And.intro h19_ (And.intro h20 h20_))))))))
           try simp [F15]
           and_intros <;> first | exact g _ (by kernel_rfl) | refine r _ _ _ ?_ | omega | (simp [maxLen, F15] <;> omega)
           refine WK [(2, AV.bool false)] [] 1 (by simp [F15]) (by simp [F15]) ?_
           simp only [Option.some.injEq] at hF
           subst hF
           refine AW.ret (hQ _ _ _ ?_ (matchO_0 ?_)).1
           ·simp [Try.f59, F15]
           ·simp [F15]
         ·replace hF := ite_f h19 hF
          have h19_ := h19
          try simp at h19_
          have F16 := And.intro F12 (And.intro h17 (And.intro h17_ (And.intro h18 (And.intro h18_ (And.intro h18__ (And.intro h19 h19_))))))
          try simp [F16]
          and_intros <;> first | exact g _ (by kernel_rfl) | refine r _ _ _ ?_ | omega | (simp [maxLen, F16] <;> omega)
          refine WK [(2, AV.bool false)] [] 1 (by simp [F16]) (by simp [F16]) ?_
          simp only [Option.some.injEq] at hF
          subst hF
          refine AW.ret (hQ _ _ _ ?_ (matchO_0 ?_)).1
          ·simp [Try.f59, F16]
          ·simp [F16]
        ·replace hF := ite_f h18 hF
         have h18q : v5 = v0 := Classical.not_not.1 h18
         have h18_ := eqb_t h18q
         have h18__ := neb_f h18q
         have F17 := And.intro F12 (And.intro h17 (And.intro h17_ (And.intro h18_ h18__)))
         try simp [F17]
         and_intros <;> first | exact g _ (by kernel_rfl) | refine r _ _ _ ?_ | omega | (simp [maxLen, F17] <;> omega)
         refine WK [(2, AV.bool false)] [] 1 (by simp [F17]) (by simp [F17]) ?_
         simp only [Option.some.injEq] at hF
         subst hF
         refine AW.ret (hQ _ _ _ ?_ (matchO_0 ?_)).1
         ·simp [Try.f59, F17]
         ·simp [F17]
       ·replace hF := ite_f h17 hF
        have h17_ := h17
        try simp at h17_
        have F18 := And.intro F12 (And.intro h17 h17_)
        try simp [F18]
        and_intros <;> first | exact g _ (by kernel_rfl) | refine r _ _ _ ?_ | omega | (simp [maxLen, F18] <;> omega)
        refine WK [(2, AV.bool false)] [] 1 (by simp [F18]) (by simp [F18]) ?_
        simp only [Option.some.injEq] at hF
        subst hF
        refine AW.ret (hQ _ _ _ ?_ (matchO_0 ?_)).1
        ·simp [Try.f59, F18]
        ·simp [F18]
      ·replace hF := ite_f h15 hF
       have h15_ := eqb_f h15
       have h15__ := neb_t h15
       have F19 := And.intro F11 (And.intro h15 (And.intro h15_ h15__))
       refine CF (by simp [F19] <;> omega) ?_
       refine SQ [] [none, none] fun _ _ g r => ?_
       try simp [F19]
       and_intros <;> first | exact g _ (by kernel_rfl) | refine r _ _ _ ?_ | omega | (simp [maxLen, F19] <;> omega)
       refine WK [(1, AV.ptr 0 0), (41, Iz v4), (76, AV.bool (v4 == 2))] [(0, c_ref03_numbers v0 v1 v2 v3 v4 v5 v6 v7 v8 v9 v10 v11 v12)] 1 (by simp [F19]) (by simp [F19]) ?_
       by_cases h22 : v4 = 2
       ·replace hF := ite_t h22 hF
        have h22q : v4 = 2 := h22
        have h22_ := eqb_t h22q
        have h22__ := neb_f h22q
        have F20 := And.intro F19 (And.intro h22_ (And.intro h22__ h22q))
        refine CT (by simp [F20] <;> omega) ?_
        refine SQ [] [none, none, none, none, some (81, true), some (81, true), some (81, true), none, none, some (86, true), some (86, true), some (86, true), none, none] fun _ _ g r => ?_
        try simp [F20]
        and_intros
        try any_goals first | omega | (simp [maxLen, F20] <;> omega)
        obtain ⟨v22, h23, hF⟩ := bnd1_elim hF
        refine AC (w_ref03_in k _ _ _ h23) (.cons (.same (by simp [F20])) (.cons (.same (by simp [F20])) .nil)) ?_
        by_cases h24 : v22 = true
        ·replace hF := ite_t h24 hF
         have h24_ := h24
         try simp at h24_
         by_cases h25 : v6 = 0
         ·replace hF := ite_t h25 hF
          have h25q : v6 = 0 := h25
          have h25_ := eqb_t h25q
          have h25__ := neb_f h25q
          have F21 := And.intro F20 (And.intro h24 (And.intro h24_ (And.intro h25_ (And.intro h25__ h25q))))
          try simp [F21]
          and_intros <;> first | exact g _ (by kernel_rfl) | refine r _ _ _ ?_ | omega | (simp [maxLen, F21] <;> omega)
          refine WK [(2, AV.bool (v7 == 0))] [] 1 (by simp [F21]) (by simp [F21]) ?_
          simp only [Option.some.injEq] at hF
          subst hF
          refine AW.ret (hQ _ _ _ ?_ (matchO_0 ?_)).1
          ·simp [Try.f59, F21]
          ·simp [F21]
         ·replace hF := ite_f h25 hF
          have h25_ := eqb_f h25
          have h25__ := neb_t h25
          have F22 := And.intro F20 (And.intro h24 (And.intro h24_ (And.intro h25 (And.intro h25_ h25__))))
          try simp [F22]
          and_intros <;> first | exact g _ (by kernel_rfl) | refine r _ _ _ ?_ | omega | (simp [maxLen, F22] <;> omega)
          refine WK [(2, AV.bool false)] [] 1 (by simp [F22]) (by simp [F22]) ?_
          simp only [Option.some.injEq] at hF
          subst hF
          refine AW.ret (hQ _ _ _ ?_ (matchO_0 ?_)).1
          ·simp [Try.f59, F22]
          ·simp [F22]
        ·replace hF := ite_f h24 hF
         have h24_ := h24
         try simp at h24_
         have F23 := And.intro F20 (And.intro h24 h24_)
         try simp [F23]
         and_intros <;> first | exact g _ (by kernel_rfl) | refine r _ _ _ ?_ | omega | (simp [maxLen, F23] <;> omega)
         refine WK [(2, AV.bool false)] [] 1 (by simp [F23]) (by simp [F23]) ?_
         simp only [Option.some.injEq] at hF
         subst hF
         refine AW.ret (hQ _ _ _ ?_ (matchO_0 ?_)).1
         ·simp [Try.f59, F23]
         ·simp [F23]
       ·replace hF := ite_f h22 hF
        have h22_ := eqb_f h22
        have h22__ := neb_t h22
        have F24 := And.intro F19 (And.intro h22 (And.intro h22_ h22__))
        refine CF (by simp [F24] <;> omega) ?_
        refine SQ [] [none, none] fun _ _ g r => ?_
        try simp [F24]
        and_intros <;> first | exact g _ (by kernel_rfl) | refine r _ _ _ ?_ | omega | (simp [maxLen, F24] <;> omega)
        refine WK [(1, AV.ptr 0 0), (91, AV.bool (v4 == 3))] [(0, c_ref03_numbers v0 v1 v2 v3 v4 v5 v6 v7 v8 v9 v10 v11 v12)] 1 (by simp [F24]) (by simp [F24]) ?_
        by_cases h26 : v4 = 3
        ·replace hF := ite_t h26 hF
         have h26q : v4 = 3 := h26
         have h26_ := eqb_t h26q
         have h26__ := neb_f h26q
         refine CT (by simp [F24, h26_, h26__, h26q] <;> omega) ?_
         refine SQ [] [none, none, none, none, some (96, true), some (96, true), some (96, true), none, none, some (101, true), some (101, true), some (101, true), none, none] fun _ _ g r => ?_
         by_cases h27 : v5 = 0
         ·replace hF := ite_t h27 hF
          have h27q : v5 = 0 := h27
          have h27_ := eqb_t h27q
          have h27__ := neb_f h27q
          by_cases h28 : v6 = 0
          ·replace hF := ite_t h28 hF
           have h28q : v6 = 0 := h28
           have h28_ := eqb_t h28q
           have h28__ := neb_f h28q
           have F25 := And.intro F24 (And.intro h26_ (And.intro h26__ (And.intro h26q (And.intro h27_ (And.intro h27__ (And.intro h27q (And.intro h28_ (And.intro h28__ h28q))))))))
           try simp [F25]
           and_intros <;> first | exact g _ (by kernel_rfl) | refine r _ _ _ ?_ | omega | (simp [maxLen, F25] <;> omega)
           refine WK [(2, AV.bool (v7 == 0))] [] 1 (by simp [F25]) (by simp [F25]) ?_
           simp only [Option.some.injEq] at hF
           subst hF
           refine AW.ret (hQ _ _ _ ?_ (matchO_0 ?_)).1
           ·simp [Try.f59, F25]
           ·simp [F25]
          ·replace hF := ite_f h28 hF
           have h28_ := eqb_f h28
           have h28__ := neb_t h28
           have F26 := And.intro F24 (And.intro h26_ (And.intro h26__ (And.intro h26q (And.intro h27_ (And.intro h27__ (And.intro h27q (And.intro h28 (And.intro h28_ h28__))))))))
           try simp [F26]
           and_intros <;> first | exact g _ (by kernel_rfl) | refine r _ _ _ ?_ | omega | (simp [maxLen, F26] <;> omega)
           refine WK [(2, AV.bool false)] [] 1 (by simp [F26]) (by simp [F26]) ?_
           simp only [Option.some.injEq] at hF
           subst hF
           refine AW.ret (hQ _ _ _ ?_ (matchO_0 ?_)).1
           ·simp [Try.f59, F26]
           ·simp [F26]
         ·replace hF := ite_f h27 hF
          have h27_ := eqb_f h27
          have h27__ := neb_t h27
          have F27 := And.intro F24 (And.intro h26_ (And.intro h26__ (And.intro h26q (And.intro h27 (And.intro h27_ h27__)))))
          try simp [F27]
          and_intros <;> first | exact g _ (by kernel_rfl) | refine r _ _ _ ?_ | omega | (simp [maxLen, F27] <;> omega)
          refine WK [(2, AV.bool false)] [] 1 (by simp [F27]) (by simp [F27]) ?_
          simp only [Option.some.injEq] at hF
          subst hF
          refine AW.ret (hQ _ _ _ ?_ (matchO_0 ?_)).1
          ·simp [Try.f59, F27]
          ·simp [F27]
        ·replace hF := ite_f h26 hF
         have h26_ := eqb_f h26
         have h26__ := neb_t h26
         have F28 := And.intro F24 (And.intro h26 (And.intro h26_ h26__))
         refine CF (by simp [F28] <;> omega) ?_
         refine AW.skip ?_
         refine hK202 _ _ _ ?_
         refine SQ [] [none] fun _ _ g r => ?_
         try simp [F28]
         and_intros <;> first | exact g _ (by kernel_rfl) | refine r _ _ _ ?_ | omega | (simp [maxLen, F28] <;> omega)
         refine WK [(2, AV.bool true)] [] 1 (by simp [F28]) (by simp [F28]) ?_
         simp only [Option.some.injEq] at hF
         subst hF
         refine AW.ret (hQ _ _ _ ?_ (matchO_0 ?_)).1
         ·simp [Try.f59, F28]
         ·simp [F28]
theorem w_ref03_PinsOK (k : Nat) (v0 : (List api_Pin)) (v1 : Bool) (hF : ref03_PinsOK k v0 = some v1) :
  FCall Try.prog 60 [AV.lst false false (List.map api_Pin.av v0)] [] (AV.bool v1) [] := by
 unfold ref03_PinsOK at hF
 refine EN Try.func60 ?_
 intro c0 w0 Q h0 hQ
 refine WK [(0, AV.lst false false (List.map api_Pin.av v0))] [] 0 (by simp) (by simp) ?_
 refine SQ [] [none] fun _ _ g r => ?_
 try simp
 and_intros <;> first | exact g _ (by kernel_rfl) | refine r _ _ _ ?_ | omega | (simp [maxLen] <;> omega)
 refine WK [(0, AV.lst false false (List.map api_Pin.av v0))] [] 0 (by simp) (by simp) ?_
 refine AW.seq fun K191 hK191 => ?_
 refine SQ [] [none] fun _ _ g r => ?_
 try simp
 and_intros <;> first | exact g _ (by kernel_rfl) | refine r _ _ _ ?_ | omega | (simp [maxLen] <;> omega)
 refine WK [(0, AV.lst false false (List.map api_Pin.av v0)), (3, Iz 0)] [] 0 (by simp) (by simp) ?_
 refine AW.block ?_
 refine AW.loopF (α := Int) (fun n v2 => ref03_PinsOK.L1 k v0 n v2 = some v1) (fun v2 => [(0, AV.lst false false (List.map api_Pin.av v0)), (3, Iz v2)]) (fun v2 => []) 0 k (0) hF (by simp) (by simp) (by simp) ?_
 rintro (_|n1) v2 hF K240 hK240
 ·try dsimp only at hF
  rw [ref03_PinsOK.L1] at hF; cases hF
 try dsimp only at hF
 rw [ref03_PinsOK.L1] at hF
 refine AW.seq fun K242 hK242 => ?_
 refine SQ [] [none, none, none, none] fun _ _ g r => ?_
 try simp
 and_intros <;> first | exact g _ (by kernel_rfl) | refine r _ _ _ ?_ | omega | (simp [maxLen] <;> omega)
 refine WK [(0, AV.lst false false (List.map api_Pin.av v0)), (3, Iz v2), (8, AV.bool (decide (v2 < (v0.length : Int))))] [] 0 (by simp) (by simp) ?_
 by_cases h1 : v2 < (v0.length : Int)
 ·replace hF := ite_t h1 hF
  have h1_ := h1
  try simp at h1_
  refine CT (by simp [h1, h1_] <;> omega) ?_
  refine AW.skip ?_
  refine hK242 _ _ _ ?_
  refine AW.seq fun K248 hK248 => ?_
  refine AW.block ?_
  refine SQ [] [none, none, none, none, none, none] fun _ _ g r => ?_
  obtain ⟨v3, h2, h3, h4, hF⟩ := idx_elim hF
  have h4_ := get_of h4
  try simp at h4_
  have h3_ := h3
  try simp at h3_
  have F1 := And.intro h1 (And.intro h1_ (And.intro h2 (And.intro h3 (And.intro h4 (And.intro h4_ h3_)))))
  try simp [F1]
  and_intros <;> first | exact g _ (by kernel_rfl) | refine r _ _ _ ?_ | omega | (simp [maxLen, F1] <;> omega)
  refine WK [(0, AV.lst false false (List.map api_Pin.av v0)), (3, Iz v2), (4, AV.ptr 0 0)] [(0, .cells [Iz v3.Author, Iz v3.Height, AV.str v3.Digest])] 1 (by simp [F1]) (by simp [F1]) ?_
  refine AW.midF (α := Bool) (fun v4 => ref03_PinsOK.J2 k v2 (fun v2_ => ref03_PinsOK.L1 k v0 n1 v2_) v4 = some v1) (fun v4 => [(0, AV.lst false false (List.map api_Pin.av v0)), (3, Iz v2), (49, AV.bool v4)]) (fun v4 => []) 0 (fun K253 hK253 => ?_) ?_
  ·refine RG [] [none, none, none, none, none, some (19, false), some (19, false), some (19, false), some (22, true), some (22, true), some (22, true), some (22, true), some (22, true), some (22, true), some (22, true), some (22, true), some (22, true), some (19, false), none, none, some (34, false), some (34, false), some (34, false), none, none, some (39, false), some (39, false), some (39, false), none, none, some (44, false), some (44, false), some (44, false), some (44, false), none] fun _ _ g r => ?_
   try simp [F1]
   and_intros
   try any_goals first | omega | (simp [maxLen, F1] <;> omega)
   obtain ⟨v5, h6, hF⟩ := bnd1_elim hF
   refine AC (w_ref03_key k _ _ h6) (.cons (.same (by simp [F1])) .nil) ?_
   by_cases h7 : (!v5) = true
   ·replace hF := ite_t h7 hF
    have h7_ := h7
    try simp at h7_
    have F2 := And.intro F1 (And.intro h7 h7_)
    try simp [F2]
    and_intros <;> first | exact g _ (by kernel_rfl) | refine r _ _ _ ?_ | omega | (simp [maxLen, F2] <;> omega)
    refine hK253 _ _ _ ?_
    refine RN h0 [] [(0, AV.lst false false (List.map api_Pin.av v0)), (3, Iz v2), (49, AV.bool true)] [] 0 (by simp [F2]) (by simp [F2]) ?_
    exact JN (true) hF (by simp [F2]) (by simp [F2])
   ·replace hF := ite_f h7 hF
    have h7_ := h7
    try simp at h7_
    by_cases h8 : 0 < v2
    ·replace hF := ite_t h8 hF
     have h8_ := h8
     try simp at h8_
     obtain ⟨v6, h9, h10, h11, hF⟩ := idx_elim hF
     have h11_ := get_of h11
     try simp at h11_
     have h10_ := h10
     try simp at h10_
     by_cases h12 : v3.Author ≤ v6.Author
     ·replace hF := ite_t h12 hF
      have h12_ := h12
      try simp at h12_
      have F3 := And.intro F1 (And.intro h7 (And.intro h7_ (And.intro h8 (And.intro h8_ (And.intro h9 (And.intro h10 (And.intro h11 (And.intro h11_ (And.intro h10_ (And.intro h12 h12_))))))))))
      try simp [F3]
      and_intros <;> first | exact g _ (by kernel_rfl) | refine r _ _ _ ?_ | omega | (simp [maxLen, F3] <;> omega)
      refine hK253 _ _ _ ?_
      refine RN h0 [] [(0, AV.lst false false (List.map api_Pin.av v0)), (3, Iz v2), (49, AV.bool true)] [] 0 (by simp [F3]) (by simp [F3]) ?_
      exact JN (true) hF (by simp [F3]) (by simp [F3])
     ·replace hF := ite_f h12 hF
      have h12_ := h12
      try simp at h12_
      by_cases h13 : v3.Height < 1
      ·replace hF := ite_t h13 hF
       have h13_ := h13
       try simp at h13_
       have F4 := And.intro F1 (And.intro h7 (And.intro h7_ (And.intro h8 (And.intro h8_ (And.intro h9 (And.intro h10 (And.intro h11 (And.intro h11_ (And.intro h10_ (And.intro h12 (And.intro h12_ (And.intro h13 h13_))))))))))))
       try simp [F4]
       and_intros <;> first | exact g _ (by kernel_rfl) | refine r _ _ _ ?_ | omega | (simp [maxLen, F4] <;> omega)
       refine hK253 _ _ _ ?_
       refine RN h0 [] [(0, AV.lst false false (List.map api_Pin.av v0)), (3, Iz v2), (49, AV.bool true)] [] 0 (by simp [F4]) (by simp [F4]) ?_
       exact JN (true) hF (by simp [F4]) (by simp [F4])
      ·replace hF := ite_f h13 hF
       have h13_ := h13
       try simp at h13_
       by_cases h14 : 200 < v3.Height
       ·replace hF := ite_t h14 hF
        have h14_ := h14
        try simp at h14_
        have F5 := And.intro F1 (And.intro h7 (And.intro h7_ (And.intro h8 (And.intro h8_ (And.intro h9 (And.intro h10 (And.intro h11 (And.intro h11_ (And.intro h10_ (And.intro h12 (And.intro h12_ (And.intro h13 (And.intro h13_ (And.intro h14 h14_))))))))))))))
        try simp [F5]
        and_intros <;> first | exact g _ (by kernel_rfl) | refine r _ _ _ ?_ | omega | (simp [maxLen, F5] <;> omega)
        refine hK253 _ _ _ ?_
        refine RN h0 [] [(0, AV.lst false false (List.map api_Pin.av v0)), (3, Iz v2), (49, AV.bool true)] [] 0 (by simp [F5]) (by simp [F5]) ?_
        exact JN (true) hF (by simp [F5]) (by simp [F5])
       ·replace hF := ite_f h14 hF
        have h14_ := h14
        try simp at h14_
        have F6 := And.intro F1 (And.intro h7 (And.intro h7_ (And.intro h8 (And.intro h8_ (And.intro h9 (And.intro h10 (And.intro h11 (And.intro h11_ (And.intro h10_ (And.intro h12 (And.intro h12_ (And.intro h13 (And.intro h13_ (And.intro h14 h14_))))))))))))))
        try simp [F6]
        and_intros <;> first | exact g _ (by kernel_rfl) | refine r _ _ _ ?_ | omega | (simp [maxLen, F6] <;> omega)
        refine hK253 _ _ _ ?_
        refine RN h0 [] [(0, AV.lst false false (List.map api_Pin.av v0)), (3, Iz v2), (49, AV.bool ((v3.Digest.size : Int) != 32))] [] 0 (by simp [F6]) (by simp [F6]) ?_
        exact JN (((v3.Digest.size : Int) != 32)) hF (by simp [F6]) (by simp [F6])
    ·replace hF := ite_f h8 hF
     have h8_ := h8
     try simp at h8_
     by_cases h15 : v3.Height < 1
     ·replace hF := ite_t h15 hF
      have h15_ := h15
      try simp at h15_
      have F7 := And.intro F1 (And.intro h7 (And.intro h7_ (And.intro h8 (And.intro h8_ (And.intro h15 h15_)))))
      try simp [F7]
      and_intros <;> first | exact g _ (by kernel_rfl) | refine r _ _ _ ?_ | omega | (simp [maxLen, F7] <;> omega)
      refine hK253 _ _ _ ?_
      refine RN h0 [] [(0, AV.lst false false (List.map api_Pin.av v0)), (3, Iz v2), (49, AV.bool true)] [] 0 (by simp [F7]) (by simp [F7]) ?_
      exact JN (true) hF (by simp [F7]) (by simp [F7])
     ·replace hF := ite_f h15 hF
      have h15_ := h15
      try simp at h15_
      by_cases h16 : 200 < v3.Height
      ·replace hF := ite_t h16 hF
       have h16_ := h16
       try simp at h16_
       have F8 := And.intro F1 (And.intro h7 (And.intro h7_ (And.intro h8 (And.intro h8_ (And.intro h15 (And.intro h15_ (And.intro h16 h16_)))))))
       try simp [F8]
       and_intros <;> first | exact g _ (by kernel_rfl) | refine r _ _ _ ?_ | omega | (simp [maxLen, F8] <;> omega)
       refine hK253 _ _ _ ?_
       refine RN h0 [] [(0, AV.lst false false (List.map api_Pin.av v0)), (3, Iz v2), (49, AV.bool true)] [] 0 (by simp [F8]) (by simp [F8]) ?_
       exact JN (true) hF (by simp [F8]) (by simp [F8])
      ·replace hF := ite_f h16 hF
       have h16_ := h16
       try simp at h16_
       have F9 := And.intro F1 (And.intro h7 (And.intro h7_ (And.intro h8 (And.intro h8_ (And.intro h15 (And.intro h15_ (And.intro h16 h16_)))))))
       try simp [F9]
       and_intros <;> first | exact g _ (by kernel_rfl) | refine r _ _ _ ?_ | omega | (simp [maxLen, F9] <;> omega)
       refine hK253 _ _ _ ?_
       refine RN h0 [] [(0, AV.lst false false (List.map api_Pin.av v0)), (3, Iz v2), (49, AV.bool ((v3.Digest.size : Int) != 32))] [] 0 (by simp [F9]) (by simp [F9]) ?_
       exact JN (((v3.Digest.size : Int) != 32)) hF (by simp [F9]) (by simp [F9])
  ·rintro v4 hF
   try dsimp only at hF
   unfold ref03_PinsOK.J2 at hF
   by_cases h5 : v4 = true
   ·replace hF := ite_t h5 hF
    have h5_ := h5
    try simp at h5_
    have F10 := And.intro F1 (And.intro h5 h5_)
    refine CT (by simp [F10] <;> omega) ?_
    refine SQ [] [none] fun _ _ g r => ?_
    try simp [F10]
    and_intros <;> first | exact g _ (by kernel_rfl) | refine r _ _ _ ?_ | omega | (simp [maxLen, F10] <;> omega)
    refine WK [(2, AV.bool false)] [] 0 (by simp [F10]) (by simp [F10]) ?_
    simp only [Option.some.injEq] at hF
    subst hF
    refine AW.ret (hQ _ _ _ ?_ (matchO_0 ?_)).1
    ·simp [Try.f60, F10]
    ·simp [F10]
   ·replace hF := ite_f h5 hF
    have h5_ := h5
    try simp at h5_
    have F11 := And.intro F1 (And.intro h5 h5_)
    refine CF (by simp [F11] <;> omega) ?_
    refine AW.skip ?_
    refine hK248 _ _ _ ?_
    refine RG [] [none, none, none] fun _ _ g r => ?_
    try simp [F11]
    and_intros <;> first | exact g _ (by kernel_rfl) | refine r _ _ _ ?_ | omega | (simp [maxLen, F11] <;> omega)
    refine hK240 _ _ _ ?_
    exact NX (k' := n1) (IntKind.wrap .i64 (v2 + 1)) hF (by simp [F11]) (by simp [F11])
 ·replace hF := ite_f h1 hF
  have h1_ := h1
  try simp at h1_
  refine CF (by simp [h1, h1_] <;> omega) ?_
  refine AW.exit ?_
  try simp
  refine hK191 _ _ _ ?_
  refine SQ [] [none] fun _ _ g r => ?_
  try simp [h1, h1_]
  and_intros <;> first | exact g _ (by kernel_rfl) | refine r _ _ _ ?_ | omega | (simp [h1, h1_, maxLen] <;> omega)
  refine WK [(2, AV.bool true)] [] 0 (by simp [h1, h1_]) (by simp [h1, h1_]) ?_
  simp only [Option.some.injEq] at hF
  subst hF
  refine AW.ret (hQ _ _ _ ?_ (matchO_0 ?_)).1
  ·simp [Try.f60, h1, h1_]
  ·simp [h1, h1_]
abbrev c_ref03_Check (v0 : Int) (v1 : Int) (v2 : ByteArray) (v3 : Int) (v4 : Int) (v5 : Int) (v6 : Int) (v7 : Int) (v8 : (List Int)) (v9 : (List api_Pin)) (v10 : ByteArray) (v11 : Int) (v12 : ByteArray) : AObj := .cells [Iz v0, Iz v1, AV.str v2, Iz v3, Iz v4, Iz v5, Iz v6, Iz v7, Lz v8, AV.lst false false (List.map api_Pin.av v9), AV.str v10, Iz v11, AV.str v12]
theorem w_ref03_Check (k : Nat) (v0 : Int) (v1 : Int) (v2 : ByteArray) (v3 : Int) (v4 : Int) (v5 : Int) (v6 : Int) (v7 : Int) (v8 : (List Int)) (v9 : (List api_Pin)) (v10 : ByteArray) (v11 : Int) (v12 : ByteArray) (v13 : Int) (hF : ref03_Check k v0 v1 v2 v3 v4 v5 v6 v7 v8 v9 v10 v11 v12 = some v13) :
  FCall Try.prog 41 [AV.agg [AV.int .i64 v0, AV.int .i64 v1, AV.str v2, AV.int .i64 v3, AV.int .i64 v4, AV.int .i64 v5, AV.int .i64 v6, AV.int .i64 v7, AV.lst false false (List.map (AV.int .i64) v8), AV.lst false false (List.map api_Pin.av v9), AV.str v10, AV.int .i64 v11, AV.str v12]] [] (AV.int .i64 v13) [] := by
 unfold ref03_Check at hF
 refine EN Try.func41 ?_
 intro c0 w0 Q h0 hQ
 refine WK [(0, AV.agg [Iz v0, Iz v1, AV.str v2, Iz v3, Iz v4, Iz v5, Iz v6, Iz v7, Lz v8, AV.lst false false (List.map api_Pin.av v9), AV.str v10, Iz v11, AV.str v12])] [] 0 (by simp) (by simp) ?_
 refine SQ [] [none, none] fun _ _ g r => ?_
 try simp
 and_intros <;> first | exact g _ (by kernel_rfl) | refine r _ _ _ ?_ | omega | (simp [maxLen] <;> omega)
 refine WK [(1, AV.ptr 0 0)] [(0, c_ref03_Check v0 v1 v2 v3 v4 v5 v6 v7 v8 v9 v10 v11 v12)] 1 (by simp) (by simp) ?_
 refine AW.midF (α := Unit) (fun _ => ref03_Check.J1 k = some v13) (fun _ => []) (fun _ => []) 0 (fun K66 hK66 => ?_) ?_
 ·refine AW.block ?_
  refine SQ [] [none, none, none, none, none] fun _ _ g r => ?_
  try simp
  and_intros
  try any_goals first | omega | (simp [maxLen] <;> omega)
  obtain ⟨v14, h1, hF⟩ := bnd1_elim hF
  refine AC (w_ref03_key k _ _ h1) (.cons (.same (by simp)) .nil) ?_
  try simp
  and_intros <;> first | exact g _ (by kernel_rfl) | refine r _ _ _ ?_ | omega | (simp [maxLen] <;> omega)
  refine WK [(1, AV.ptr 0 0), (3, AV.bool (!v14))] [(0, c_ref03_Check v0 v1 v2 v3 v4 v5 v6 v7 v8 v9 v10 v11 v12)] 1 (by simp) (by simp) ?_
  by_cases h2 : (!v14) = true
  ·replace hF := ite_t h2 hF
   have h2_ := h2
   try simp at h2_
   refine CT (by simp [h2, h2_] <;> omega) ?_
   refine SQ [] [none] fun _ _ g r => ?_
   try simp [h2, h2_]
   and_intros <;> first | exact g _ (by kernel_rfl) | refine r _ _ _ ?_ | omega | (simp [h2, h2_, maxLen] <;> omega)
   refine WK [(2, Iz 4)] [] 1 (by simp [h2, h2_]) (by simp [h2, h2_]) ?_
   simp only [Option.some.injEq] at hF
   subst hF
   refine AW.ret (hQ _ _ _ ?_ (matchO_0 ?_)).1
   ·simp [Try.f41, h2, h2_]
   ·simp [h2, h2_]
  ·replace hF := ite_f h2 hF
   have h2_ := h2
   try simp at h2_
   refine CF (by simp [h2, h2_] <;> omega) ?_
   refine AW.midF (α := Bool) (fun v15 => ref03_Check.J2 k v0 v1 v2 v3 v4 v5 v6 v7 v8 v9 v10 v11 v12 v15 = some v13) (fun v15 => [(1, AV.ptr 0 0), (8, AV.bool v15)]) (fun v15 => [(0, c_ref03_Check v0 v1 v2 v3 v4 v5 v6 v7 v8 v9 v10 v11 v12)]) 1 (fun K86 hK86 => ?_) ?_
   ·refine RG [] [none, none, none, none, some (12, false), some (12, false), some (12, false), some (12, false), some (16, true), some (16, true), some (16, true), some (12, false), none, none, some (22, false), some (22, false), some (22, false), none, none] fun _ _ g r => ?_
    by_cases h24 : v4 < 1
    ·replace hF := ite_t h24 hF
     have h24_ := h24
     try simp at h24_
     have F1 := And.intro h2 (And.intro h2_ (And.intro h24 h24_))
     try simp [F1]
     and_intros <;> first | exact g _ (by kernel_rfl) | refine r _ _ _ ?_ | omega | (simp [maxLen, F1] <;> omega)
     refine hK86 _ _ _ ?_
     exact JN (true) hF (by simp [F1]) (by simp [F1])
    ·replace hF := ite_f h24 hF
     have h24_ := h24
     try simp at h24_
     by_cases h25 : 3 < v4
     ·replace hF := ite_t h25 hF
      have h25_ := h25
      try simp at h25_
      by_cases h26 : v4 < 10
      ·replace hF := ite_t h26 hF
       have h26_ := h26
       try simp at h26_
       have F2 := And.intro h2 (And.intro h2_ (And.intro h24 (And.intro h24_ (And.intro h25 (And.intro h25_ (And.intro h26 h26_))))))
       try simp [F2]
       and_intros <;> first | exact g _ (by kernel_rfl) | refine r _ _ _ ?_ | omega | (simp [maxLen, F2] <;> omega)
       refine hK86 _ _ _ ?_
       exact JN (true) hF (by simp [F2]) (by simp [F2])
      ·replace hF := ite_f h26 hF
       have h26_ := h26
       try simp at h26_
       have F3 := And.intro h2 (And.intro h2_ (And.intro h24 (And.intro h24_ (And.intro h25 (And.intro h25_ (And.intro h26 h26_))))))
       try simp [F3]
       and_intros <;> first | exact g _ (by kernel_rfl) | refine r _ _ _ ?_ | omega | (simp [maxLen, F3] <;> omega)
       refine hK86 _ _ _ ?_
       exact JN ((decide (31 < v4))) hF (by simp [F3]) (by simp [F3])
     ·replace hF := ite_f h25 hF
      have h25_ := h25
      try simp at h25_
      have F4 := And.intro h2 (And.intro h2_ (And.intro h24 (And.intro h24_ (And.intro h25 h25_))))
      try simp [F4]
      and_intros <;> first | exact g _ (by kernel_rfl) | refine r _ _ _ ?_ | omega | (simp [maxLen, F4] <;> omega)
      refine hK86 _ _ _ ?_
      exact JN ((decide (31 < v4))) hF (by simp [F4]) (by simp [F4])
   ·rintro v15 hF
    try dsimp only at hF
    unfold ref03_Check.J2 at hF
    by_cases h3 : v15 = true
    ·replace hF := ite_t h3 hF
     have h3_ := h3
     try simp at h3_
     have F5 := And.intro h2 (And.intro h2_ (And.intro h3 h3_))
     refine CT (by simp [F5] <;> omega) ?_
     refine SQ [] [none] fun _ _ g r => ?_
     try simp [F5]
     and_intros <;> first | exact g _ (by kernel_rfl) | refine r _ _ _ ?_ | omega | (simp [maxLen, F5] <;> omega)
     refine WK [(2, Iz 5)] [] 1 (by simp [F5]) (by simp [F5]) ?_
     simp only [Option.some.injEq] at hF
     subst hF
     refine AW.ret (hQ _ _ _ ?_ (matchO_0 ?_)).1
     ·simp [Try.f41, F5]
     ·simp [F5]
    ·replace hF := ite_f h3 hF
     have h3_ := h3
     try simp at h3_
     have F6 := And.intro h2 (And.intro h2_ (And.intro h3 h3_))
     refine CF (by simp [F6] <;> omega) ?_
     refine SQ [] [none, none, none, none, none] fun _ _ g r => ?_
     try simp [F6]
     and_intros
     try any_goals first | omega | (simp [maxLen, F6] <;> omega)
     obtain ⟨v16, h4, hF⟩ := bnd1_elim hF
     refine AC (w_ref03_in k _ _ _ h4) (.cons (.same (by simp [F6])) (.cons (.same (by simp [F6])) .nil)) ?_
     try simp [F6]
     and_intros <;> first | exact g _ (by kernel_rfl) | refine r _ _ _ ?_ | omega | (simp [maxLen, F6] <;> omega)
     refine WK [(1, AV.ptr 0 0), (27, AV.bool (!v16))] [(0, c_ref03_Check v0 v1 v2 v3 v4 v5 v6 v7 v8 v9 v10 v11 v12)] 1 (by simp [F6]) (by simp [F6]) ?_
     by_cases h5 : (!v16) = true
     ·replace hF := ite_t h5 hF
      have h5_ := h5
      try simp at h5_
      have F7 := And.intro F6 (And.intro h5 h5_)
      refine CT (by simp [F7] <;> omega) ?_
      refine SQ [] [none] fun _ _ g r => ?_
      try simp [F7]
      and_intros <;> first | exact g _ (by kernel_rfl) | refine r _ _ _ ?_ | omega | (simp [maxLen, F7] <;> omega)
      refine WK [(2, Iz 9)] [] 1 (by simp [F7]) (by simp [F7]) ?_
      simp only [Option.some.injEq] at hF
      subst hF
      refine AW.ret (hQ _ _ _ ?_ (matchO_0 ?_)).1
      ·simp [Try.f41, F7]
      ·simp [F7]
     ·replace hF := ite_f h5 hF
      have h5_ := h5
      try simp at h5_
      have F8 := And.intro F6 (And.intro h5 h5_)
      refine CF (by simp [F8] <;> omega) ?_
      refine SQ [] [none, none, none, none] fun _ _ g r => ?_
      try simp [F8]
      and_intros
      try any_goals first | omega | (simp [maxLen, F8] <;> omega)
      obtain ⟨v17, h6, hF⟩ := bnd1_elim hF
      refine AC (w_ref03_numbers k _ _ _ _ _ _ _ _ _ _ _ _ _ _ h6) (.cons (.same (by simp [F8])) .nil) ?_
      try simp [F8]
      and_intros <;> first | exact g _ (by kernel_rfl) | refine r _ _ _ ?_ | omega | (simp [maxLen, F8] <;> omega)
      refine WK [(1, AV.ptr 0 0), (32, AV.bool (!v17))] [(0, c_ref03_Check v0 v1 v2 v3 v4 v5 v6 v7 v8 v9 v10 v11 v12)] 1 (by simp [F8]) (by simp [F8]) ?_
      by_cases h7 : (!v17) = true
      ·replace hF := ite_t h7 hF
       have h7_ := h7
       try simp at h7_
       have F9 := And.intro F8 (And.intro h7 h7_)
       refine CT (by simp [F9] <;> omega) ?_
       refine SQ [] [none] fun _ _ g r => ?_
       try simp [F9]
       and_intros <;> first | exact g _ (by kernel_rfl) | refine r _ _ _ ?_ | omega | (simp [maxLen, F9] <;> omega)
       refine WK [(2, Iz 2)] [] 1 (by simp [F9]) (by simp [F9]) ?_
       simp only [Option.some.injEq] at hF
       subst hF
       refine AW.ret (hQ _ _ _ ?_ (matchO_0 ?_)).1
       ·simp [Try.f41, F9]
       ·simp [F9]
      ·replace hF := ite_f h7 hF
       have h7_ := h7
       try simp at h7_
       have F10 := And.intro F8 (And.intro h7 h7_)
       refine CF (by simp [F10] <;> omega) ?_
       refine SQ [] [none, none, none, none, none, some (41, false), some (41, false), some (41, false), some (41, false), none, none, some (47, false), some (47, false), some (47, false), some (47, false), none, none] fun _ _ g r => ?_
       by_cases h8 : 64 < (v8.length : Int)
       ·replace hF := ite_t h8 hF
        have h8_ := h8
        try simp at h8_
        have F11 := And.intro F10 (And.intro h8 h8_)
        try simp [F11]
        and_intros <;> first | exact g _ (by kernel_rfl) | refine r _ _ _ ?_ | omega | (simp [maxLen, F11] <;> omega)
        refine WK [(1, AV.ptr 0 0), (36, AV.bool true)] [(0, c_ref03_Check v0 v1 v2 v3 v4 v5 v6 v7 v8 v9 v10 v11 v12)] 1 (by simp [F11]) (by simp [F11]) ?_
        refine CT (by simp [F11]) ?_
        refine SQ [] [none] fun _ _ g r => ?_
        try simp [F11]
        and_intros <;> first | exact g _ (by kernel_rfl) | refine r _ _ _ ?_ | omega | (simp [maxLen, F11] <;> omega)
        refine WK [(2, Iz 3)] [] 1 (by simp [F11]) (by simp [F11]) ?_
        simp only [Option.some.injEq] at hF
        subst hF
        refine AW.ret (hQ _ _ _ ?_ (matchO_0 ?_)).1
        ·simp [Try.f41, F11]
        ·simp [F11]
       ·replace hF := ite_f h8 hF
        have h8_ := h8
        try simp at h8_
        by_cases h9 : 64 < (v9.length : Int)
        ·replace hF := ite_t h9 hF
         have h9_ := h9
         try simp at h9_
         have F12 := And.intro F10 (And.intro h8 (And.intro h8_ (And.intro h9 h9_)))
         try simp [F12]
         and_intros <;> first | exact g _ (by kernel_rfl) | refine r _ _ _ ?_ | omega | (simp [maxLen, F12] <;> omega)
         refine WK [(1, AV.ptr 0 0), (36, AV.bool true)] [(0, c_ref03_Check v0 v1 v2 v3 v4 v5 v6 v7 v8 v9 v10 v11 v12)] 1 (by simp [F12]) (by simp [F12]) ?_
         refine CT (by simp [F12]) ?_
         refine SQ [] [none] fun _ _ g r => ?_
         try simp [F12]
         and_intros <;> first | exact g _ (by kernel_rfl) | refine r _ _ _ ?_ | omega | (simp [maxLen, F12] <;> omega)
         refine WK [(2, Iz 3)] [] 1 (by simp [F12]) (by simp [F12]) ?_
         simp only [Option.some.injEq] at hF
         subst hF
         refine AW.ret (hQ _ _ _ ?_ (matchO_0 ?_)).1
         ·simp [Try.f41, F12]
         ·simp [F12]
        ·replace hF := ite_f h9 hF
         have h9_ := h9
         try simp at h9_
         have F13 := And.intro F10 (And.intro h8 (And.intro h8_ (And.intro h9 h9_)))
         try simp [F13]
         and_intros <;> first | exact g _ (by kernel_rfl) | refine r _ _ _ ?_ | omega | (simp [maxLen, F13] <;> omega)
         refine WK [(1, AV.ptr 0 0), (36, AV.bool (decide (4096 < (v10.size : Int))))] [(0, c_ref03_Check v0 v1 v2 v3 v4 v5 v6 v7 v8 v9 v10 v11 v12)] 1 (by simp [F13]) (by simp [F13]) ?_
         by_cases h10 : 4096 < (v10.size : Int)
         ·replace hF := ite_t h10 hF
          have h10_ := h10
          try simp at h10_
          have F14 := And.intro F13 (And.intro h10 h10_)
          refine CT (by simp [F14] <;> omega) ?_
          refine SQ [] [none] fun _ _ g r => ?_
          try simp [F14]
          and_intros <;> first | exact g _ (by kernel_rfl) | refine r _ _ _ ?_ | omega | (simp [maxLen, F14] <;> omega)
          refine WK [(2, Iz 3)] [] 1 (by simp [F14]) (by simp [F14]) ?_
          simp only [Option.some.injEq] at hF
          subst hF
          refine AW.ret (hQ _ _ _ ?_ (matchO_0 ?_)).1
          ·simp [Try.f41, F14]
          ·simp [F14]
         ·replace hF := ite_f h10 hF
          have h10_ := h10
          try simp at h10_
          have F15 := And.intro F13 (And.intro h10 h10_)
          refine CF (by simp [F15] <;> omega) ?_
          refine AW.midF (α := Bool) (fun v18 => ref03_Check.J3 k v4 v8 v9 v10 v18 = some v13) (fun v18 => [(1, AV.ptr 0 0), (53, AV.bool v18)]) (fun v18 => [(0, c_ref03_Check v0 v1 v2 v3 v4 v5 v6 v7 v8 v9 v10 v11 v12)]) 1 (fun K85 hK85 => ?_) ?_
          ·refine RG [] [none, none, none, none, some (57, true), some (57, true), some (57, true), none, none, some (62, false), some (62, false), some (62, false), some (62, false), some (66, true), some (66, true), some (66, true), some (66, true), some (62, false), none, none, some (73, false), some (73, false), some (73, false), some (73, false), none, none] fun _ _ g r => ?_
           by_cases h16 : v1 = 0
           ·replace hF := ite_t h16 hF
            have h16q : v1 = 0 := h16
            have h16_ := eqb_t h16q
            have h16__ := neb_f h16q
            by_cases h17 : (!strEq v2 (ByteArray.mk #[])) = true
            ·replace hF := ite_t h17 hF
             have h17_ := h17
             try simp at h17_
             have F16 := And.intro F15 (And.intro h16_ (And.intro h16__ (And.intro h16q (And.intro h17 h17_))))
             try simp [F16]
             and_intros <;> first | exact g _ (by kernel_rfl) | refine r _ _ _ ?_ | omega | (simp [maxLen, F16] <;> omega)
             refine hK85 _ _ _ ?_
             exact JN (true) hF (by simp [F16]) (by simp [F16])
            ·replace hF := ite_f h17 hF
             have h17_ := h17
             try simp at h17_
             by_cases h18 : 0 < v1
             ·replace hF := ite_t h18 hF
              have h18_ := h18
              try simp at h18_
              cases hF
             ·replace hF := ite_f h18 hF
              have h18_ := h18
              try simp at h18_
              have F17 := And.intro F15 (And.intro h16_ (And.intro h16__ (And.intro h16q (And.intro h17 (And.intro h17_ (And.intro h18 h18_))))))
              try simp [F17]
              and_intros
              try any_goals first | omega | (simp [maxLen, F17] <;> omega)
              obtain ⟨v19, h19, hF⟩ := bnd1_elim hF
              refine AC (w_ref03_PinsOK k _ _ h19) (.cons (.same (by simp [F17])) .nil) ?_
              try simp [F17]
              and_intros <;> first | exact g _ (by kernel_rfl) | refine r _ _ _ ?_ | omega | (simp [maxLen, F17] <;> omega)
              refine hK85 _ _ _ ?_
              exact JN ((!v19)) hF (by simp [F17]) (by simp [F17])
           ·replace hF := ite_f h16 hF
            have h16_ := eqb_f h16
            have h16__ := neb_t h16
            by_cases h20 : 0 < v1
            ·replace hF := ite_t h20 hF
             have h20_ := h20
             try simp at h20_
             by_cases h21 : (v2.size : Int) ≠ 32
             ·replace hF := ite_t h21 hF
              have h21_ := eqb_f h21
              have h21__ := neb_t h21
              have F18 := And.intro F15 (And.intro h16 (And.intro h16_ (And.intro h16__ (And.intro h20 (And.intro h20_ (And.intro h21 (And.intro h21_ h21__)))))))
              try simp [F18]
              and_intros <;> first | exact g _ (by kernel_rfl) | refine r _ _ _ ?_ | omega | (simp [maxLen, F18] <;> omega)
              refine hK85 _ _ _ ?_
              exact JN (true) hF (by simp [F18]) (by simp [F18])
             ·replace hF := ite_f h21 hF
              have h21q : (v2.size : Int) = 32 := Classical.not_not.1 h21
              have h21_ := eqb_t h21q
              have h21__ := neb_f h21q
              have F19 := And.intro F15 (And.intro h16 (And.intro h16_ (And.intro h16__ (And.intro h20 (And.intro h20_ (And.intro h21_ (And.intro h21__ h21q)))))))
              try simp [F19]
              and_intros
              try any_goals first | omega | (simp [maxLen, F19] <;> omega)
              obtain ⟨v20, h22, hF⟩ := bnd1_elim hF
              refine AC (w_ref03_PinsOK k _ _ h22) (.cons (.same (by simp [F19])) .nil) ?_
              try simp [F19]
              and_intros <;> first | exact g _ (by kernel_rfl) | refine r _ _ _ ?_ | omega | (simp [maxLen, F19] <;> omega)
              refine hK85 _ _ _ ?_
              exact JN ((!v20)) hF (by simp [F19]) (by simp [F19])
            ·replace hF := ite_f h20 hF
             have h20_ := h20
             try simp at h20_
             have F20 := And.intro F15 (And.intro h16 (And.intro h16_ (And.intro h16__ (And.intro h20 h20_))))
             try simp [F20]
             and_intros
             try any_goals first | omega | (simp [maxLen, F20] <;> omega)
             obtain ⟨v21, h23, hF⟩ := bnd1_elim hF
             refine AC (w_ref03_PinsOK k _ _ h23) (.cons (.same (by simp [F20])) .nil) ?_
             try simp [F20]
             and_intros <;> first | exact g _ (by kernel_rfl) | refine r _ _ _ ?_ | omega | (simp [maxLen, F20] <;> omega)
             refine hK85 _ _ _ ?_
             exact JN ((!v21)) hF (by simp [F20]) (by simp [F20])
          ·rintro v18 hF
           try dsimp only at hF
           unfold ref03_Check.J3 at hF
           by_cases h11 : v18 = true
           ·replace hF := ite_t h11 hF
            have h11_ := h11
            try simp at h11_
            have F21 := And.intro F15 (And.intro h11 h11_)
            refine CT (by simp [F21] <;> omega) ?_
            refine SQ [] [none] fun _ _ g r => ?_
            try simp [F21]
            and_intros <;> first | exact g _ (by kernel_rfl) | refine r _ _ _ ?_ | omega | (simp [maxLen, F21] <;> omega)
            refine WK [(2, Iz 1)] [] 1 (by simp [F21]) (by simp [F21]) ?_
            simp only [Option.some.injEq] at hF
            subst hF
            refine AW.ret (hQ _ _ _ ?_ (matchO_0 ?_)).1
            ·simp [Try.f41, F21]
            ·simp [F21]
           ·replace hF := ite_f h11 hF
            have h11_ := h11
            try simp at h11_
            have F22 := And.intro F15 (And.intro h11 h11_)
            refine CF (by simp [F22] <;> omega) ?_
            refine SQ [] [none, none, none, none, some (83, true), some (83, true), some (83, true), some (83, true), some (83, true), some (88, false), some (88, false), some (88, false), some (88, false), some (83, true), some (83, true), some (94, false), some (94, false), some (94, false), some (83, true), none, none] fun _ _ g r => ?_
            by_cases h12 : v4 ≤ 3
            ·replace hF := ite_t h12 hF
             have h12_ := h12
             try simp at h12_
             by_cases h13 : 0 < (v8.length : Int)
             ·replace hF := ite_t h13 hF
              have h13_ := h13
              try simp at h13_
              have F23 := And.intro F22 (And.intro h12 (And.intro h12_ (And.intro h13 h13_)))
              try simp [F23]
              and_intros <;> first | exact g _ (by kernel_rfl) | refine r _ _ _ ?_ | omega | (simp [maxLen, F23] <;> omega)
              refine WK [(79, AV.bool true)] [] 1 (by simp [F23]) (by simp [F23]) ?_
              refine CT (by simp [F23]) ?_
              refine SQ [] [none] fun _ _ g r => ?_
              try simp [F23]
              and_intros <;> first | exact g _ (by kernel_rfl) | refine r _ _ _ ?_ | omega | (simp [maxLen, F23] <;> omega)
              refine WK [(2, Iz 1)] [] 1 (by simp [F23]) (by simp [F23]) ?_
              simp only [Option.some.injEq] at hF
              subst hF
              refine AW.ret (hQ _ _ _ ?_ (matchO_0 ?_)).1
              ·simp [Try.f41, F23]
              ·simp [F23]
             ·replace hF := ite_f h13 hF
              have h13_ := h13
              try simp at h13_
              by_cases h14 : 0 < (v9.length : Int)
              ·replace hF := ite_t h14 hF
               have h14_ := h14
               try simp at h14_
               have F24 := And.intro F22 (And.intro h12 (And.intro h12_ (And.intro h13 (And.intro h13_ (And.intro h14 h14_)))))
               try simp [F24]
               and_intros <;> first | exact g _ (by kernel_rfl) | refine r _ _ _ ?_ | omega | (simp [maxLen, F24] <;> omega)
               refine WK [(79, AV.bool true)] [] 1 (by simp [F24]) (by simp [F24]) ?_
               refine CT (by simp [F24]) ?_
               refine SQ [] [none] fun _ _ g r => ?_
               try simp [F24]
               and_intros <;> first | exact g _ (by kernel_rfl) | refine r _ _ _ ?_ | omega | (simp [maxLen, F24] <;> omega)
               refine WK [(2, Iz 1)] [] 1 (by simp [F24]) (by simp [F24]) ?_
               simp only [Option.some.injEq] at hF
               subst hF
               refine AW.ret (hQ _ _ _ ?_ (matchO_0 ?_)).1
               ·simp [Try.f41, F24]
               ·simp [F24]
              ·replace hF := ite_f h14 hF
               have h14_ := h14
               try simp at h14_
               have F25 := And.intro F22 (And.intro h12 (And.intro h12_ (And.intro h13 (And.intro h13_ (And.intro h14 h14_)))))
               try simp [F25]
               and_intros <;> first | exact g _ (by kernel_rfl) | refine r _ _ _ ?_ | omega | (simp [maxLen, F25] <;> omega)
               refine WK [(79, AV.bool (!strEq v10 (ByteArray.mk #[])))] [] 1 (by simp [F25]) (by simp [F25]) ?_
               by_cases h15 : (!strEq v10 (ByteArray.mk #[])) = true
               ·replace hF := ite_t h15 hF
                have h15_ := h15
                try simp at h15_
                have F26 := And.intro F25 (And.intro h15 h15_)
                refine CT (by simp [F26] <;> omega) ?_
                refine SQ [] [none] fun _ _ g r => ?_
                try simp [F26]
                and_intros <;> first | exact g _ (by kernel_rfl) | refine r _ _ _ ?_ | omega | (simp [maxLen, F26] <;> omega)
                refine WK [(2, Iz 1)] [] 1 (by simp [F26]) (by simp [F26]) ?_
                simp only [Option.some.injEq] at hF
                subst hF
                refine AW.ret (hQ _ _ _ ?_ (matchO_0 ?_)).1
                ·simp [Try.f41, F26]
                ·simp [F26]
               ·replace hF := ite_f h15 hF
                have h15_ := h15
                try simp at h15_
                have F27 := And.intro F25 (And.intro h15 h15_)
                refine CF (by simp [F27] <;> omega) ?_
                refine AW.skip ?_
                refine hK66 _ _ _ ?_
                refine RN h0 [] [] [] 0 (by simp [F27]) (by simp [F27]) ?_
                exact JN (()) hF (by simp [F27]) (by simp [F27])
            ·replace hF := ite_f h12 hF
             have h12_ := h12
             try simp at h12_
             have F28 := And.intro F22 (And.intro h12 h12_)
             try simp [F28]
             and_intros <;> first | exact g _ (by kernel_rfl) | refine r _ _ _ ?_ | omega | (simp [maxLen, F28] <;> omega)
             refine WK [(79, AV.bool false)] [] 1 (by simp [F28]) (by simp [F28]) ?_
             refine CF (by simp [F28]) ?_
             refine AW.skip ?_
             refine hK66 _ _ _ ?_
             refine RN h0 [] [] [] 0 (by simp [F28]) (by simp [F28]) ?_
             exact JN (()) hF (by simp [F28]) (by simp [F28])
 ·rintro ⟨⟩ hF
  try dsimp only at hF
  unfold ref03_Check.J1 at hF
  refine SQ [] [none] fun _ _ g r => ?_
  try simp
  and_intros <;> first | exact g _ (by kernel_rfl) | refine r _ _ _ ?_ | omega | (simp [maxLen] <;> omega)
  refine WK [(2, Iz 0)] [] 0 (by simp) (by simp) ?_
  simp only [Option.some.injEq] at hF
  subst hF
  refine AW.ret (hQ _ _ _ ?_ (matchO_0 ?_)).1
  ·simp [Try.f41]
  ·simp
theorem w_ref23_Right (k : Nat) (v0 : Int) (v1 : Int) (v2 : Int) (v3 : Int) (v4 : (List Int)) (v5 : (List api_Pin)) (v6 : Bool) (hF : ref23_Right k v0 v1 v2 v3 v4 v5 = some v6) :
  FCall Try.prog 29 [AV.agg [AV.int .i64 v0, AV.int .i64 v1, AV.int .i64 v2, AV.int .i64 v3], AV.agg [AV.lst false false (List.map (AV.int .i64) v4), AV.lst false false (List.map api_Pin.av v5)]] [] (AV.bool v6) [] := by
 unfold ref23_Right at hF
 refine EN Try.func29 ?_
 intro c0 w0 Q h0 hQ
 refine WK [(0, AV.agg [Iz v0, Iz v1, Iz v2, Iz v3]), (1, AV.agg [Lz v4, AV.lst false false (List.map api_Pin.av v5)])] [] 0 (by simp) (by simp) ?_
 refine SQ [] [none, none, none] fun _ _ g r => ?_
 try simp
 and_intros <;> first | exact g _ (by kernel_rfl) | refine r _ _ _ ?_ | omega | (simp [maxLen] <;> omega)
 refine WK [(2, AV.ptr 0 0), (3, AV.ptr 1 0)] [(0, .cells [Iz v0, Iz v1, Iz v2, Iz v3]), (1, .cells [Lz v4, AV.lst false false (List.map api_Pin.av v5)])] 2 (by simp) (by simp) ?_
 refine AW.seq fun K22 hK22 => ?_
 refine SQ [] [none, none, none] fun _ _ g r => ?_
 try simp
 and_intros
 try any_goals first | omega | (simp [maxLen] <;> omega)
 obtain ⟨v7, h1, hF⟩ := bnd1_elim hF
 refine AC (w_ref23_Valid k _ _ _ _ _ h1) (.cons (.same (by simp)) .nil) ?_
 try simp
 and_intros <;> first | exact g _ (by kernel_rfl) | refine r _ _ _ ?_ | omega | (simp [maxLen] <;> omega)
 refine WK [(2, AV.ptr 0 0), (3, AV.ptr 1 0), (8, AV.bool (!v7))] [(0, .cells [Iz v0, Iz v1, Iz v2, Iz v3]), (1, .cells [Lz v4, AV.lst false false (List.map api_Pin.av v5)])] 2 (by simp) (by simp) ?_
 by_cases h2 : (!v7) = true
 ·replace hF := ite_t h2 hF
  have h2_ := h2
  try simp at h2_
  refine CT (by simp [h2, h2_] <;> omega) ?_
  refine SQ [] [none] fun _ _ g r => ?_
  try simp [h2, h2_]
  and_intros <;> first | exact g _ (by kernel_rfl) | refine r _ _ _ ?_ | omega | (simp [h2, h2_, maxLen] <;> omega)
  refine WK [(4, AV.bool false)] [] 2 (by simp [h2, h2_]) (by simp [h2, h2_]) ?_
  simp only [Option.some.injEq] at hF
  subst hF
  refine AW.ret (hQ _ _ _ ?_ (matchO_0 ?_)).1
  ·simp [Try.f29, h2, h2_]
  ·simp [h2, h2_]
 ·replace hF := ite_f h2 hF
  have h2_ := h2
  try simp at h2_
  refine CF (by simp [h2, h2_] <;> omega) ?_
  refine AW.skip ?_
  refine hK22 _ _ _ ?_
  refine SQ [] [none, none, none, none, none] fun _ _ g r => ?_
  try simp [h2, h2_]
  and_intros <;> first | exact g _ (by kernel_rfl) | refine r _ _ _ ?_ | omega | (simp [h2, h2_, maxLen] <;> omega)
  refine WK [(2, AV.ptr 0 0), (3, AV.ptr 1 0), (5, AV.ptr 2 0)] [(0, .cells [Iz v0, Iz v1, Iz v2, Iz v3]), (1, .cells [Lz v4, AV.lst false false (List.map api_Pin.av v5)]), (2, .cells [Iz 0, Iz 0, AV.str (ByteArray.mk #[]), Iz 0, Iz 10, Iz 0, Iz 0, Iz 0, AV.lst true true (List.map (AV.int .i64) ([] : List Int)), AV.lst false false (List.map api_Pin.av v5), AV.str (ByteArray.mk #[]), Iz 0, AV.str (ByteArray.mk #[])])] 3 (by simp [h2, h2_]) (by simp [h2, h2_]) ?_
  refine AW.seq fun K28 hK28 => ?_
  refine SQ [] [none, none, none] fun _ _ g r => ?_
  try simp [h2, h2_]
  and_intros
  try any_goals first | omega | (simp [h2, h2_, maxLen] <;> omega)
  obtain ⟨v8, h3, hF⟩ := bnd1_elim hF
  refine AC (w_ref03_Check k _ _ _ _ _ _ _ _ _ _ _ _ _ _ h3) (.cons (.agg (.cons (.same (by simp [h2, h2_])) (.cons (.same (by simp [h2, h2_])) (.cons (.same (by simp [h2, h2_])) (.cons (.same (by simp [h2, h2_])) (.cons (.same (by simp [h2, h2_])) (.cons (.same (by simp [h2, h2_])) (.cons (.same (by simp [h2, h2_])) (.cons (.same (by simp [h2, h2_])) (.cons (Coe.fl (by simp [h2, h2_])) (.cons (.same (by simp [h2, h2_])) (.cons (.same (by simp [h2, h2_])) (.cons (.same (by simp [h2, h2_])) (.cons (.same (by simp [h2, h2_])) .nil)))))))))))))) .nil) ?_
  try simp [h2, h2_]
  and_intros <;> first | exact g _ (by kernel_rfl) | refine r _ _ _ ?_ | omega | (simp [h2, h2_, maxLen] <;> omega)
  refine WK [(2, AV.ptr 0 0), (3, AV.ptr 1 0), (14, AV.bool (v8 != 0))] [(0, .cells [Iz v0, Iz v1, Iz v2, Iz v3]), (1, .cells [Lz v4, AV.lst false false (List.map api_Pin.av v5)])] 3 (by simp [h2, h2_]) (by simp [h2, h2_]) ?_
  by_cases h4 : v8 ≠ 0
  ·replace hF := ite_t h4 hF
   have h4_ := eqb_f h4
   have h4__ := neb_t h4
   have F1 := And.intro h2 (And.intro h2_ (And.intro h4 (And.intro h4_ h4__)))
   refine CT (by simp [F1] <;> omega) ?_
   refine SQ [] [none] fun _ _ g r => ?_
   try simp [F1]
   and_intros <;> first | exact g _ (by kernel_rfl) | refine r _ _ _ ?_ | omega | (simp [maxLen, F1] <;> omega)
   refine WK [(4, AV.bool false)] [] 3 (by simp [F1]) (by simp [F1]) ?_
   simp only [Option.some.injEq] at hF
   subst hF
   refine AW.ret (hQ _ _ _ ?_ (matchO_0 ?_)).1
   ·simp [Try.f29, F1]
   ·simp [F1]
  ·replace hF := ite_f h4 hF
   have h4q : v8 = 0 := Classical.not_not.1 h4
   have h4_ := eqb_t h4q
   have h4__ := neb_f h4q
   have F2 := And.intro h2 (And.intro h2_ (And.intro h4_ (And.intro h4__ h4q)))
   refine CF (by simp [F2] <;> omega) ?_
   refine AW.skip ?_
   refine hK28 _ _ _ ?_
   refine AW.seq fun K33 hK33 => ?_
   refine SQ [] [none, none, none] fun _ _ g r => ?_
   try simp [F2]
   and_intros <;> first | exact g _ (by kernel_rfl) | refine r _ _ _ ?_ | omega | (simp [maxLen, F2] <;> omega)
   refine WK [(3, AV.ptr 1 0), (17, AV.bool (v1 == 1))] [(1, .cells [Lz v4, AV.lst false false (List.map api_Pin.av v5)])] 3 (by simp [F2]) (by simp [F2]) ?_
   by_cases h5 : v1 = 1
   ·replace hF := ite_t h5 hF
    have h5q : v1 = 1 := h5
    have h5_ := eqb_t h5q
    have h5__ := neb_f h5q
    refine CT (by simp [F2, h5_, h5__, h5q] <;> omega) ?_
    refine SQ [] [none, none, none, none, none, some (22, true), some (22, true), some (22, true), some (22, true), some (22, true), none, none, some (29, true), some (29, true), some (29, true), some (29, true), some (29, true), none, none, some (36, true), some (36, true), some (36, true), some (36, true), some (36, true), none, none, some (43, true), some (43, true), some (43, true), some (43, true), some (43, true), none, none] fun _ _ g r => ?_
    by_cases h6 : (v4.length : Int) = 2
    ·replace hF := ite_t h6 hF
     have h6q : (v4.length : Int) = 2 := h6
     have h6_ := eqb_t h6q
     have h6__ := neb_f h6q
     obtain ⟨v9, h7, h8, h9, hF⟩ := idx_elim hF
     have h9_ := get_of h9
     try simp at h9_
     have h8_ := h8
     try simp at h8_
     have h9z := head_of h9
     by_cases h10 : 0 ≤ v9
     ·replace hF := ite_t h10 hF
      have h10_ := h10
      try simp at h10_
      by_cases h11 : v9 < 4294967296
      ·replace hF := ite_t h11 hF
       have h11_ := h11
       try simp at h11_
       obtain ⟨v10, h12, h13, h14, hF⟩ := idx_elim hF
       have h14_ := get_of h14
       try simp at h14_
       have h13_ := h13
       try simp at h13_
       by_cases h15 : 0 ≤ v10
       ·replace hF := ite_t h15 hF
        have h15_ := h15
        try simp at h15_
        have F3 := And.intro F2 (And.intro h5_ (And.intro h5__ (And.intro h5q (And.intro h6_ (And.intro h6__ (And.intro h6q (And.intro h7 (And.intro h8 (And.intro h9 (And.intro h9_ (And.intro h8_ (And.intro h9z (And.intro h10 (And.intro h10_ (And.intro h11 (And.intro h11_ (And.intro h12 (And.intro h13 (And.intro h14 (And.intro h14_ (And.intro h13_ (And.intro h15 h15_))))))))))))))))))))))
        try simp [F3]
        and_intros <;> first | exact g _ (by kernel_rfl) | refine r _ _ _ ?_ | omega | (simp [maxLen, F3] <;> omega)
        refine WK [(4, AV.bool (decide (v10 < 4294967296)))] [] 3 (by simp [F3]) (by simp [F3]) ?_
        simp only [Option.some.injEq] at hF
        subst hF
        refine AW.ret (hQ _ _ _ ?_ (matchO_0 ?_)).1
        ·simp [Try.f29, F3]
        ·simp [F3]
       ·replace hF := ite_f h15 hF
        have h15_ := h15
        try simp at h15_
        have F4 := And.intro F2 (And.intro h5_ (And.intro h5__ (And.intro h5q (And.intro h6_ (And.intro h6__ (And.intro h6q (And.intro h7 (And.intro h8 (And.intro h9 (And.intro h9_ (And.intro h8_ (And.intro h9z (And.intro h10 (And.intro h10_ (And.intro h11 (And.intro h11_ (And.intro h12 (And.intro h13 (And.intro h14 (And.intro h14_ (And.intro h13_ (And.intro h15 h15_))))))))))))))))))))))
        try simp [F4]
        and_intros <;> first | exact g _ (by kernel_rfl) | refine r _ _ _ ?_ | omega | (simp [maxLen, F4] <;> omega)
        refine WK [(4, AV.bool false)] [] 3 (by simp [F4]) (by simp [F4]) ?_
        simp only [Option.some.injEq] at hF
        subst hF
        refine AW.ret (hQ _ _ _ ?_ (matchO_0 ?_)).1
        ·simp [Try.f29, F4]
        ·simp [F4]
      ·replace hF := ite_f h11 hF
       have h11_ := h11
       try simp at h11_
       have F5 := And.intro F2 (And.intro h5_ (And.intro h5__ (And.intro h5q (And.intro h6_ (And.intro h6__ (And.intro h6q (And.intro h7 (And.intro h8 (And.intro h9 (And.intro h9_ (And.intro h8_ (And.intro h9z (And.intro h10 (And.intro h10_ (And.intro h11 h11_)))))))))))))))
       try simp [F5]
       and_intros <;> first | exact g _ (by kernel_rfl) | refine r _ _ _ ?_ | omega | (simp [maxLen, F5] <;> omega)
       refine WK [(4, AV.bool false)] [] 3 (by simp [F5]) (by simp [F5]) ?_
       simp only [Option.some.injEq] at hF
       subst hF
       refine AW.ret (hQ _ _ _ ?_ (matchO_0 ?_)).1
       ·simp [Try.f29, F5]
       ·simp [F5]
     ·replace hF := ite_f h10 hF
      have h10_ := h10
      try simp at h10_
      have F6 := And.intro F2 (And.intro h5_ (And.intro h5__ (And.intro h5q (And.intro h6_ (And.intro h6__ (And.intro h6q (And.intro h7 (And.intro h8 (And.intro h9 (And.intro h9_ (And.intro h8_ (And.intro h9z (And.intro h10 h10_)))))))))))))
      try simp [F6]
      and_intros <;> first | exact g _ (by kernel_rfl) | refine r _ _ _ ?_ | omega | (simp [maxLen, F6] <;> omega)
      refine WK [(4, AV.bool false)] [] 3 (by simp [F6]) (by simp [F6]) ?_
      simp only [Option.some.injEq] at hF
      subst hF
      refine AW.ret (hQ _ _ _ ?_ (matchO_0 ?_)).1
      ·simp [Try.f29, F6]
      ·simp [F6]
    ·replace hF := ite_f h6 hF
     have h6_ := eqb_f h6
     have h6__ := neb_t h6
     have F7 := And.intro F2 (And.intro h5_ (And.intro h5__ (And.intro h5q (And.intro h6 (And.intro h6_ h6__)))))
     try simp [F7]
     and_intros <;> first | exact g _ (by kernel_rfl) | refine r _ _ _ ?_ | omega | (simp [maxLen, F7] <;> omega)
     refine WK [(4, AV.bool false)] [] 3 (by simp [F7]) (by simp [F7]) ?_
     simp only [Option.some.injEq] at hF
     subst hF
     refine AW.ret (hQ _ _ _ ?_ (matchO_0 ?_)).1
     ·simp [Try.f29, F7]
     ·simp [F7]
   ·replace hF := ite_f h5 hF
    have h5_ := eqb_f h5
    have h5__ := neb_t h5
    refine CF (by simp [F2, h5, h5_, h5__] <;> omega) ?_
    refine AW.skip ?_
    refine hK33 _ _ _ ?_
    refine SQ [] [none, none, none, none, none, some (54, true), some (54, true), some (54, true), some (54, true), some (54, true), some (54, true), some (60, false), some (60, false), some (60, false), some (60, false), some (60, false), some (54, true), none, none] fun _ _ g r => ?_
    by_cases h16 : (v4.length : Int) = 1
    ·replace hF := ite_t h16 hF
     have h16q : (v4.length : Int) = 1 := h16
     have h16_ := eqb_t h16q
     have h16__ := neb_f h16q
     obtain ⟨v11, h17, h18, h19, hF⟩ := idx_elim hF
     have h19_ := get_of h19
     try simp at h19_
     have h18_ := h18
     try simp at h18_
     have h19z := head_of h19
     by_cases h20 : v11 = 0
     ·replace hF := ite_t h20 hF
      have h20q : v11 = 0 := h20
      have h20_ := eqb_t h20q
      have h20__ := neb_f h20q
      have F8 := And.intro F2 (And.intro h5 (And.intro h5_ (And.intro h5__ (And.intro h16_ (And.intro h16__ (And.intro h16q (And.intro h17 (And.intro h18 (And.intro h19 (And.intro h19_ (And.intro h18_ (And.intro h19z (And.intro h20_ (And.intro h20__ h20q))))))))))))))
      try simp [F8]
      and_intros <;> first | exact g _ (by kernel_rfl) | refine r _ _ _ ?_ | omega | (simp [maxLen, F8] <;> omega)
      refine WK [(4, AV.bool true)] [] 3 (by simp [F8]) (by simp [F8]) ?_
      simp only [Option.some.injEq] at hF
      subst hF
      refine AW.ret (hQ _ _ _ ?_ (matchO_0 ?_)).1
      ·simp [Try.f29, F8]
      ·simp [F8]
     ·replace hF := ite_f h20 hF
      have h20_ := eqb_f h20
      have h20__ := neb_t h20
      have F9 := And.intro F2 (And.intro h5 (And.intro h5_ (And.intro h5__ (And.intro h16_ (And.intro h16__ (And.intro h16q (And.intro h17 (And.intro h18 (And.intro h19 (And.intro h19_ (And.intro h18_ (And.intro h19z (And.intro h20 (And.intro h20_ h20__))))))))))))))
      try simp [F9]
      and_intros <;> first | exact g _ (by kernel_rfl) | refine r _ _ _ ?_ | omega | (simp [maxLen, F9] <;> omega)
      refine WK [(4, AV.bool (v11 == 1))] [] 3 (by simp [F9]) (by simp [F9]) ?_
      simp only [Option.some.injEq] at hF
      subst hF
      refine AW.ret (hQ _ _ _ ?_ (matchO_0 ?_)).1
      ·simp [Try.f29, F9]
      ·simp [F9]
    ·replace hF := ite_f h16 hF
     have h16_ := eqb_f h16
     have h16__ := neb_t h16
     have F10 := And.intro F2 (And.intro h5 (And.intro h5_ (And.intro h5__ (And.intro h16 (And.intro h16_ h16__)))))
     try simp [F10]
     and_intros <;> first | exact g _ (by kernel_rfl) | refine r _ _ _ ?_ | omega | (simp [maxLen, F10] <;> omega)
     refine WK [(4, AV.bool false)] [] 3 (by simp [F10]) (by simp [F10]) ?_
     simp only [Option.some.injEq] at hF
     subst hF
     refine AW.ret (hQ _ _ _ ?_ (matchO_0 ?_)).1
     ·simp [Try.f29, F10]
     ·simp [F10]
theorem w_ref23_Code (k : Nat) (v0 : Int) (v1 : Int) (v2 : Int) (v3 : Int) (v4 : Int) (hF : ref23_Code k v0 v1 v2 v3 = some v4) :
  FCall Try.prog 27 [AV.agg [AV.int .i64 v0, AV.int .i64 v1, AV.int .i64 v2, AV.int .i64 v3]] [] (AV.int .i64 v4) [] := by
 unfold ref23_Code at hF
 refine EN Try.func27 ?_
 intro c0 w0 Q h0 hQ
 refine WK [(0, AV.agg [Iz v0, Iz v1, Iz v2, Iz v3])] [] 0 (by simp) (by simp) ?_
 refine SQ [] [none, none] fun _ _ g r => ?_
 try simp
 and_intros <;> first | exact g _ (by kernel_rfl) | refine r _ _ _ ?_ | omega | (simp [maxLen] <;> omega)
 refine WK [(1, AV.ptr 0 0)] [(0, .cells [Iz v0, Iz v1, Iz v2, Iz v3])] 1 (by simp) (by simp) ?_
 refine AW.seq fun K11 hK11 => ?_
 refine SQ [] [none, none, none] fun _ _ g r => ?_
 try simp
 and_intros
 try any_goals first | omega | (simp [maxLen] <;> omega)
 obtain ⟨v5, h1, hF⟩ := bnd1_elim hF
 refine AC (w_ref23_Valid k _ _ _ _ _ h1) (.cons (.same (by simp)) .nil) ?_
 try simp
 and_intros <;> first | exact g _ (by kernel_rfl) | refine r _ _ _ ?_ | omega | (simp [maxLen] <;> omega)
 refine WK [(1, AV.ptr 0 0), (5, AV.bool (!v5))] [(0, .cells [Iz v0, Iz v1, Iz v2, Iz v3])] 1 (by simp) (by simp) ?_
 by_cases h2 : (!v5) = true
 ·replace hF := ite_t h2 hF
  have h2_ := h2
  try simp at h2_
  refine CT (by simp [h2, h2_] <;> omega) ?_
  refine SQ [] [none] fun _ _ g r => ?_
  try simp [h2, h2_]
  and_intros <;> first | exact g _ (by kernel_rfl) | refine r _ _ _ ?_ | omega | (simp [h2, h2_, maxLen] <;> omega)
  refine WK [(2, Iz 0)] [] 1 (by simp [h2, h2_]) (by simp [h2, h2_]) ?_
  simp only [Option.some.injEq] at hF
  subst hF
  refine AW.ret (hQ _ _ _ ?_ (matchO_0 ?_)).1
  ·simp [Try.f27, h2, h2_]
  ·simp [h2, h2_]
 ·replace hF := ite_f h2 hF
  have h2_ := h2
  try simp at h2_
  refine CF (by simp [h2, h2_] <;> omega) ?_
  refine AW.skip ?_
  refine hK11 _ _ _ ?_
  refine SQ [] [none, none, none, none, none, none, none] fun _ _ g r => ?_
  try simp [h2, h2_]
  and_intros <;> first | exact g _ (by kernel_rfl) | refine r _ _ _ ?_ | omega | (simp [h2, h2_, maxLen] <;> omega)
  refine WK [(2, Iz (IntKind.wrap .i64 (v1 + IntKind.wrap .i64 (16 * v3))))] [] 1 (by simp [h2, h2_]) (by simp [h2, h2_]) ?_
  simp only [Option.some.injEq] at hF
  subst hF
  refine AW.ret (hQ _ _ _ ?_ (matchO_0 ?_)).1
  ·simp [Try.f27, h2, h2_]
  ·simp [h2, h2_]
abbrev c_ref23_Draft  : AObj := .cells [Iz 0, Iz 0, Iz 0, Iz 0, AV.lst true true (List.map (AV.int .i64) ([] : List Int)), AV.lst true true (List.map api_Pin.av ([] : List api_Pin))]
abbrev c_ref23_Draft1  : AObj := .cells [Iz 0, Iz 0, Iz 0, Iz 0, Lz ([] : List Int), AV.lst false false (List.map api_Pin.av ([] : List api_Pin))]
theorem w_ref23_Draft (k : Nat) (v0 : Int) (v1 : Int) (v2 : Int) (v3 : Int) (v4 : (List Int)) (v5 : (List api_Pin)) (v6 : Int) (v7 : Int) (v8 : Int) (v9 : Int) (v10 : (List Int)) (v11 : (List api_Pin)) (v12 : Int) (hF : ref23_Draft k v0 v1 v2 v3 v4 v5 = some (v6, v7, v8, v9, v10, v11, v12)) :
  FCall Try.prog 22 [AV.agg [AV.int .i64 v0, AV.int .i64 v1, AV.int .i64 v2, AV.int .i64 v3], AV.agg [AV.lst false false (List.map (AV.int .i64) v4), AV.lst false false (List.map api_Pin.av v5)]] [] (AV.tup [AV.agg [AV.int .i64 v6, AV.int .i64 v7, AV.int .i64 v8, AV.int .i64 v9, AV.lst false false (List.map (AV.int .i64) v10), AV.lst false false (List.map api_Pin.av v11)], AV.int .i64 v12]) [] := by
 unfold ref23_Draft at hF
 refine EN Try.func22 ?_
 intro c0 w0 Q h0 hQ
 refine WK [(0, AV.agg [Iz v0, Iz v1, Iz v2, Iz v3]), (1, AV.agg [Lz v4, AV.lst false false (List.map api_Pin.av v5)])] [] 0 (by simp) (by simp) ?_
 refine SQ [] [none, none, none, none] fun _ _ g r => ?_
 try simp
 and_intros <;> first | exact g _ (by kernel_rfl) | refine r _ _ _ ?_ | omega | (simp [maxLen] <;> omega)
 refine WK [(2, AV.ptr 0 0), (3, AV.ptr 1 0), (4, AV.ptr 2 0)] [(0, .cells [Iz v0, Iz v1, Iz v2, Iz v3]), (1, .cells [Lz v4, AV.lst false false (List.map api_Pin.av v5)]), (2, c_ref23_Draft )] 3 (by simp) (by simp) ?_
 refine AW.seq fun K16 hK16 => ?_
 refine SQ [] [none, none, none] fun _ _ g r => ?_
 try simp
 and_intros
 try any_goals first | omega | (simp [maxLen] <;> omega)
 obtain ⟨v13, h1, hF⟩ := bnd1_elim hF
 refine AC (w_ref23_Valid k _ _ _ _ _ h1) (.cons (.same (by simp)) .nil) ?_
 try simp
 and_intros <;> first | exact g _ (by kernel_rfl) | refine r _ _ _ ?_ | omega | (simp [maxLen] <;> omega)
 refine WK [(2, AV.ptr 0 0), (3, AV.ptr 1 0), (4, AV.ptr 2 0), (8, AV.bool (!v13))] [(0, .cells [Iz v0, Iz v1, Iz v2, Iz v3]), (1, .cells [Lz v4, AV.lst false false (List.map api_Pin.av v5)]), (2, c_ref23_Draft )] 3 (by simp) (by simp) ?_
 by_cases h2 : (!v13) = true
 ·replace hF := ite_t h2 hF
  have h2_ := h2
  try simp at h2_
  refine CT (by simp [h2, h2_] <;> omega) ?_
  refine SQ [] [none, none, none] fun _ _ g r => ?_
  try simp [h2, h2_]
  and_intros <;> first | exact g _ (by kernel_rfl) | refine r _ _ _ ?_ | omega | (simp [h2, h2_, maxLen] <;> omega)
  refine RM h0 [(0, 2)] [(4, AV.ptr 0 0), (5, Iz 41)] [(0, c_ref23_Draft )] 1 (by simp [h2, h2_]) (by simp [h2, h2_]) ?_
  refine AW.flg [] [(0, c_ref23_Draft1 )] trivial ⟨⟨(c_ref23_Draft ), by simp [h2, h2_], (.mk (.cons (.same _) (.cons (.same _) (.cons (.same _) (.cons (.same _) (.cons (.lst (by simp)) (.cons (.lst (by simp)) .nil)))))))⟩, trivial⟩ (by simp) ?_
  simp only [Option.some.injEq, Prod.mk.injEq] at hF
  obtain ⟨e0, e1, e2, e3, e4, e5, e6⟩ := hF
  subst e0 e1 e2 e3 e4 e5 e6
  refine AW.ret (hQ _ _ _ ?_ (matchO_0 ?_)).1
  ·simp [Try.f22, h2, h2_]
  ·simp [h2, h2_]
 ·replace hF := ite_f h2 hF
  have h2_ := h2
  try simp at h2_
  refine CF (by simp [h2, h2_] <;> omega) ?_
  refine AW.skip ?_
  refine hK16 _ _ _ ?_
  refine AW.seq fun K21 hK21 => ?_
  refine SQ [] [none, none, none, none] fun _ _ g r => ?_
  try simp [h2, h2_]
  and_intros
  try any_goals first | omega | (simp [h2, h2_, maxLen] <;> omega)
  obtain ⟨v14, h3, hF⟩ := bnd1_elim hF
  refine AC (w_ref23_Right k _ _ _ _ _ _ _ h3) (.cons (.same (by simp [h2, h2_])) (.cons (.same (by simp [h2, h2_])) .nil)) ?_
  try simp [h2, h2_]
  and_intros <;> first | exact g _ (by kernel_rfl) | refine r _ _ _ ?_ | omega | (simp [h2, h2_, maxLen] <;> omega)
  refine WK [(2, AV.ptr 0 0), (3, AV.ptr 1 0), (4, AV.ptr 2 0), (13, AV.bool (!v14))] [(0, .cells [Iz v0, Iz v1, Iz v2, Iz v3]), (1, .cells [Lz v4, AV.lst false false (List.map api_Pin.av v5)]), (2, c_ref23_Draft )] 3 (by simp [h2, h2_]) (by simp [h2, h2_]) ?_
  by_cases h4 : (!v14) = true
  ·replace hF := ite_t h4 hF
   have h4_ := h4
   try simp at h4_
   have F1 := And.intro h2 (And.intro h2_ (And.intro h4 h4_))
   refine CT (by simp [F1] <;> omega) ?_
   refine SQ [] [none, none, none] fun _ _ g r => ?_
   try simp [F1]
   and_intros <;> first | exact g _ (by kernel_rfl) | refine r _ _ _ ?_ | omega | (simp [maxLen, F1] <;> omega)
   refine RM h0 [(0, 2)] [(4, AV.ptr 0 0), (5, Iz 42)] [(0, c_ref23_Draft )] 1 (by simp [F1]) (by simp [F1]) ?_
   refine AW.flg [] [(0, c_ref23_Draft1 )] trivial ⟨⟨(c_ref23_Draft ), by simp [F1], (.mk (.cons (.same _) (.cons (.same _) (.cons (.same _) (.cons (.same _) (.cons (.lst (by simp)) (.cons (.lst (by simp)) .nil)))))))⟩, trivial⟩ (by simp) ?_
   simp only [Option.some.injEq, Prod.mk.injEq] at hF
   obtain ⟨e0, e1, e2, e3, e4, e5, e6⟩ := hF
   subst e0 e1 e2 e3 e4 e5 e6
   refine AW.ret (hQ _ _ _ ?_ (matchO_0 ?_)).1
   ·simp [Try.f22, F1]
   ·simp [F1]
  ·replace hF := ite_f h4 hF
   have h4_ := h4
   try simp at h4_
   have F2 := And.intro h2 (And.intro h2_ (And.intro h4 h4_))
   refine CF (by simp [F2] <;> omega) ?_
   refine AW.skip ?_
   refine hK21 _ _ _ ?_
   refine SQ [24, 28] [none, none, none, none, none, none, none, none, none, none, none, none, none, none, none, none, none] fun _ _ g r => ?_
   try simp [F2]
   and_intros
   try any_goals first | omega | (simp [maxLen, F2] <;> omega)
   obtain ⟨v15, h5, hF⟩ := bnd1_elim hF
   refine AC (w_ref23_Code k _ _ _ _ _ h5) (.cons (.same (by simp [F2])) .nil) ?_
   obtain ⟨h6, hF⟩ := chk_elim hF
   have h6_ := h6
   try simp at h6_
   obtain ⟨h7, hF⟩ := chk_elim hF
   have h7_ := h7
   try simp at h7_
   have F3 := And.intro F2 (And.intro h6 h7)
   try simp [F3]
   and_intros <;> first | exact g _ (by kernel_rfl) | refine r _ _ _ ?_ | omega | (simp [maxLen, F3] <;> omega)
   refine WK [(4, AV.ptr 2 0), (5, Iz 0)] [(2, .cells [Iz 10, Iz v0, Iz v15, Iz v2, AV.slc 3 0 1 v4.length false, AV.slc 4 0 3 v5.length false]), (3, .grow (List.map (AV.int .i64) v4)), (4, .grow (flatA (List.map api_Pin.av v5)))] 5 (by simp [F3]) (by simp [F3]) ?_
   refine AW.frz 3 (o := .grow (List.map (AV.int .i64) v4)) (by simp [F3]) rfl [] [(2, .cells [Iz 10, Iz v0, Iz v15, Iz v2, Lz v4, AV.slc 4 0 3 v5.length false])] trivial ⟨⟨by simp, AObj.cells [Iz 10, Iz v0, Iz v15, Iz v2, AV.slc 3 0 1 v4.length false, AV.slc 4 0 3 v5.length false], by simp [F3], (.mk (.cons (.same _) (.cons (.same _) (.cons (.same _) (.cons (.same _) (.cons (.l (by simp) (by simp) (by simp) (by simp)) (.cons (.same _) .nil)))))))⟩, trivial⟩ ?_
   refine AW.frz 4 (o := .grow (flatA (List.map api_Pin.av v5))) (by simp [F3]) rfl [] [(2, .cells [Iz 10, Iz v0, Iz v15, Iz v2, Lz v4, AV.lst false false (List.map api_Pin.av v5)])] trivial ⟨⟨by simp, AObj.cells [Iz 10, Iz v0, Iz v15, Iz v2, Lz v4, AV.slc 4 0 3 v5.length false], by simp [F3], (.mk (.cons (.same _) (.cons (.same _) (.cons (.same _) (.cons (.same _) (.cons (.same _) (.cons (.l (by simp) (by simp) (by simp) (by simp)) .nil)))))))⟩, trivial⟩ ?_
   refine RM h0 [(0, 2)] [(4, AV.ptr 0 0), (5, Iz 0)] [(0, .cells [Iz 10, Iz v0, Iz v15, Iz v2, Lz v4, AV.lst false false (List.map api_Pin.av v5)])] 1 (by simp [F3]) (by simp [F3]) ?_
   simp only [Option.some.injEq, Prod.mk.injEq] at hF
   obtain ⟨e0, e1, e2, e3, e4, e5, e6⟩ := hF
   subst e0 e1 e2 e3 e4 e5 e6
   refine AW.ret (hQ _ _ _ ?_ (matchO_0 ?_)).1
   ·simp [Try.f22, F3]
   ·simp [F3]
abbrev c_mill_Vote  : AObj := .cells [Iz 0, Iz 0, AV.str (ByteArray.mk #[]), Iz 0, Iz 0, Iz 0, Iz 0, Iz 0, AV.lst true true (List.map (AV.int .i64) ([] : List Int)), AV.lst true true (List.map api_Pin.av ([] : List api_Pin)), AV.str (ByteArray.mk #[]), Iz 0, AV.str (ByteArray.mk #[])]
theorem w_mill_Vote (k : Nat) (v0 : Int) (v1 : Int) (v2 : Int) (v3 : Int) (v4 : Int) (v5 : Int) (v6 : (List Int)) (v7 : (List api_Pin)) (v8 : api_Statement) (hF : mill_Vote k v0 v1 v2 v3 v4 v5 v6 v7 = some v8) :
  FCall Try.prog 14 [AV.int .i64 v0, AV.int .i64 v1, AV.agg [AV.int .i64 v2, AV.int .i64 v3, AV.int .i64 v4, AV.int .i64 v5], AV.agg [AV.lst false false (List.map (AV.int .i64) v6), AV.lst false false (List.map api_Pin.av v7)]] [] (AV.agg [AV.int .i64 v8.Author, AV.int .i64 v8.Number, AV.str v8.Prev, AV.int .i64 v8.Time, AV.int .i64 v8.Kind, AV.int .i64 v8.A, AV.int .i64 v8.B, AV.int .i64 v8.C, AV.lst false false (List.map (AV.int .i64) v8.Lst), AV.lst false false (List.map api_Pin.av v8.Pins), AV.str v8.Body, AV.int .i64 v8.Seal_Key, AV.str v8.Seal_Digest]) [] := by
 unfold mill_Vote at hF
 refine EN Try.func14 ?_
 intro c0 w0 Q h0 hQ
 refine WK [(0, Iz v0), (1, Iz v1), (2, AV.agg [Iz v2, Iz v3, Iz v4, Iz v5]), (3, AV.agg [Lz v6, AV.lst false false (List.map api_Pin.av v7)])] [] 0 (by simp) (by simp) ?_
 refine SQ [] [none, none, none] fun _ _ g r => ?_
 try simp
 and_intros <;> first | exact g _ (by kernel_rfl) | refine r _ _ _ ?_ | omega | (simp [maxLen] <;> omega)
 refine WK [(0, Iz v0), (1, Iz v1), (6, AV.ptr 0 0), (7, AV.ptr 1 0), (8, AV.ptr 2 0)] [(0, .cells [Iz v2, Iz v3, Iz v4, Iz v5]), (1, .cells [Lz v6, AV.lst false false (List.map api_Pin.av v7)]), (2, c_mill_Vote )] 3 (by simp) (by simp) ?_
 refine SQ [] [none, none, none, none, none, none, none, none, none] fun _ _ g r => ?_
 try simp
 and_intros
 try any_goals first | omega | (simp [maxLen] <;> omega)
 obtain ⟨v9, v10, v11, v12, v13, v14, v15, h1, hF⟩ := bnd7_elim hF
 refine AC (w_ref23_Draft k _ _ _ _ _ _ _ _ _ _ _ _ _ h1) (.cons (.same (by simp)) (.cons (.same (by simp)) .nil)) ?_
 try simp
 and_intros <;> first | exact g _ (by kernel_rfl) | refine r _ _ _ ?_ | omega | (simp [maxLen] <;> omega)
 refine WK [(0, Iz v0), (1, Iz v1), (8, AV.ptr 2 0), (9, AV.ptr 3 0)] [(2, c_mill_Vote ), (3, .cells [Iz v9, Iz v10, Iz v11, Iz v12, Lz v13, AV.lst false false (List.map api_Pin.av v14)])] 4 (by simp) (by simp) ?_
 refine SQ [] [none, none, none, none, none] fun _ _ g r => ?_
 try simp
 and_intros
 try any_goals first | omega | (simp [maxLen] <;> omega)
 obtain ⟨v16, h2, hF⟩ := bnd1_elim hF
 refine AC (w_mill_Statement k _ _ _ _ _ _ _ _ _ _ h2) (.cons (.same (by simp)) (.cons (.same (by simp)) (.cons (.same (by simp)) (.cons (.same (by simp)) .nil)))) ?_
 try simp
 and_intros <;> first | exact g _ (by kernel_rfl) | refine r _ _ _ ?_ | omega | (simp [maxLen] <;> omega)
 refine RM h0 [(0, 2)] [(8, AV.ptr 0 0)] [(0, .cells [Iz v16.Author, Iz v16.Number, AV.str v16.Prev, Iz v16.Time, Iz v16.Kind, Iz v16.A, Iz v16.B, Iz v16.C, AV.lst false false (List.map (AV.int .i64) v16.Lst), AV.lst false false (List.map api_Pin.av v16.Pins), AV.str v16.Body, Iz v16.Seal_Key, AV.str v16.Seal_Digest])] 1 (by simp) (by simp) ?_
 simp only [Option.some.injEq] at hF
 subst hF
 refine AW.ret (hQ _ _ _ ?_ (matchO_0 ?_)).1
 ·simp [Try.f14]
 ·simp
theorem w_ref03_Sealed (k : Nat) (v0 : Int) (v1 : Int) (v2 : ByteArray) (v3 : Int) (v4 : Int) (v5 : Int) (v6 : Int) (v7 : Int) (v8 : (List Int)) (v9 : (List api_Pin)) (v10 : ByteArray) (v11 : Int) (v12 : ByteArray) (v13 : Bool) (hF : ref03_Sealed k v0 v1 v2 v3 v4 v5 v6 v7 v8 v9 v10 v11 v12 = some v13) :
  FCall Try.prog 32 [AV.agg [AV.int .i64 v0, AV.int .i64 v1, AV.str v2, AV.int .i64 v3, AV.int .i64 v4, AV.int .i64 v5, AV.int .i64 v6, AV.int .i64 v7, AV.lst false false (List.map (AV.int .i64) v8), AV.lst false false (List.map api_Pin.av v9), AV.str v10, AV.int .i64 v11, AV.str v12]] [] (AV.bool v13) [] := by
 unfold ref03_Sealed at hF
 refine EN Try.func32 ?_
 intro c0 w0 Q h0 hQ
 refine WK [(0, AV.agg [Iz v0, Iz v1, AV.str v2, Iz v3, Iz v4, Iz v5, Iz v6, Iz v7, Lz v8, AV.lst false false (List.map api_Pin.av v9), AV.str v10, Iz v11, AV.str v12])] [] 0 (by simp) (by simp) ?_
 refine SQ [] [none, none] fun _ _ g r => ?_
 try simp
 and_intros <;> first | exact g _ (by kernel_rfl) | refine r _ _ _ ?_ | omega | (simp [maxLen] <;> omega)
 refine WK [(1, AV.ptr 0 0)] [(0, .cells [Iz v0, Iz v1, AV.str v2, Iz v3, Iz v4, Iz v5, Iz v6, Iz v7, Lz v8, AV.lst false false (List.map api_Pin.av v9), AV.str v10, Iz v11, AV.str v12])] 1 (by simp) (by simp) ?_
 refine SQ [] [none, none, none, none, none, none, none, some (9, true), some (9, true), some (9, true), some (9, true), some (9, true), some (9, true), none, none] fun _ _ g r => ?_
 by_cases h1 : v11 = v0
 ·replace hF := ite_t h1 hF
  have h1q : v11 = v0 := h1
  have h1_ := eqb_t h1q
  have h1__ := neb_f h1q
  try simp [h1_, h1__]
  and_intros
  try any_goals first | omega | (simp [h1_, h1__, maxLen] <;> omega)
  obtain ⟨v14, h2, hF⟩ := bnd1_elim hF
  refine AC (w_ref03_Digest k _ _ _ _ _ _ _ _ _ _ _ _ _ _ h2) (.cons (.same (by simp [h1_, h1__])) .nil) ?_
  try simp [h1_, h1__]
  and_intros <;> first | exact g _ (by kernel_rfl) | refine r _ _ _ ?_ | omega | (simp [h1_, h1__, maxLen] <;> omega)
  refine WK [(2, AV.bool (strEq v12 v14))] [] 1 (by simp [h1_, h1__]) (by simp [h1_, h1__]) ?_
  simp only [Option.some.injEq] at hF
  subst hF
  refine AW.ret (hQ _ _ _ ?_ (matchO_0 ?_)).1
  ·simp [Try.f32, h1_, h1__]
  ·simp [h1_, h1__]
 ·replace hF := ite_f h1 hF
  have h1_ := eqb_f h1
  have h1__ := neb_t h1
  have F1 := And.intro h1 (And.intro h1_ h1__)
  try simp [F1]
  and_intros <;> first | exact g _ (by kernel_rfl) | refine r _ _ _ ?_ | omega | (simp [maxLen, F1] <;> omega)
  refine WK [(2, AV.bool false)] [] 1 (by simp [F1]) (by simp [F1]) ?_
  simp only [Option.some.injEq] at hF
  subst hF
  refine AW.ret (hQ _ _ _ ?_ (matchO_0 ?_)).1
  ·simp [Try.f32, F1]
  ·simp [F1]
theorem w_cmp_isNaN_int (k : Nat) (v0 : Int) (v1 : Bool) (hF : cmp_isNaN_int k v0 = some v1) :
  FCall Try.prog 61 [AV.int .i64 v0] [] (AV.bool v1) [] := by
 unfold cmp_isNaN_int at hF
 refine EN Try.func61 ?_
 intro c0 w0 Q h0 hQ
 refine WK [(0, Iz v0)] [] 0 (by simp) (by simp) ?_
 refine SQ [] [none] fun _ _ g r => ?_
 try simp
 and_intros <;> first | exact g _ (by kernel_rfl) | refine r _ _ _ ?_ | omega | (simp [maxLen] <;> omega)
 refine WK [(0, Iz v0)] [] 0 (by simp) (by simp) ?_
 refine SQ [] [none, none, none, none] fun _ _ g r => ?_
 try simp
 and_intros <;> first | exact g _ (by kernel_rfl) | refine r _ _ _ ?_ | omega | (simp [maxLen] <;> omega)
 refine WK [(2, AV.bool (v0 != v0))] [] 0 (by simp) (by simp) ?_
 simp only [Option.some.injEq] at hF
 subst hF
 refine AW.ret (hQ _ _ _ ?_ (matchO_0 ?_)).1
 ·simp [Try.f61]
 ·simp
theorem w_cmp_Compare_int (k : Nat) (v0 : Int) (v1 : Int) (v2 : Int) (hF : cmp_Compare_int k v0 v1 = some v2) :
  FCall Try.prog 46 [AV.int .i64 v0, AV.int .i64 v1] [] (AV.int .i64 v2) [] := by
 unfold cmp_Compare_int at hF
 refine EN Try.func46 ?_
 intro c0 w0 Q h0 hQ
 refine WK [(0, Iz v0), (1, Iz v1)] [] 0 (by simp) (by simp) ?_
 refine SQ [] [none] fun _ _ g r => ?_
 try simp
 and_intros <;> first | exact g _ (by kernel_rfl) | refine r _ _ _ ?_ | omega | (simp [maxLen] <;> omega)
 refine WK [(0, Iz v0), (1, Iz v1)] [] 0 (by simp) (by simp) ?_
 refine SQ [] [none, none, none] fun _ _ g r => ?_
 try simp
 and_intros
 try any_goals first | omega | (simp [maxLen] <;> omega)
 obtain ⟨v3, h1, hF⟩ := bnd1_elim hF
 refine AC (w_cmp_isNaN_int k _ _ h1) (.cons (.same (by simp)) .nil) ?_
 try simp
 and_intros <;> first | exact g _ (by kernel_rfl) | refine r _ _ _ ?_ | omega | (simp [maxLen] <;> omega)
 refine WK [(0, Iz v0), (1, Iz v1), (5, AV.bool v3)] [] 0 (by simp) (by simp) ?_
 refine SQ [] [none, none, none] fun _ _ g r => ?_
 try simp
 and_intros
 try any_goals first | omega | (simp [maxLen] <;> omega)
 obtain ⟨v4, h2, hF⟩ := bnd1_elim hF
 refine AC (w_cmp_isNaN_int k _ _ h2) (.cons (.same (by simp)) .nil) ?_
 try simp
 and_intros <;> first | exact g _ (by kernel_rfl) | refine r _ _ _ ?_ | omega | (simp [maxLen] <;> omega)
 refine WK [(0, Iz v0), (1, Iz v1), (5, AV.bool v3), (6, AV.bool v4)] [] 0 (by simp) (by simp) ?_
 refine AW.seq fun K45 hK45 => ?_
 refine SQ [] [none] fun _ _ g r => ?_
 try simp
 and_intros <;> first | exact g _ (by kernel_rfl) | refine r _ _ _ ?_ | omega | (simp [maxLen] <;> omega)
 refine WK [(0, Iz v0), (1, Iz v1), (6, AV.bool v4), (11, AV.bool v3)] [] 0 (by simp) (by simp) ?_
 by_cases h3 : v3 = true
 ·replace hF := ite_t h3 hF
  have h3_ := h3
  try simp at h3_
  refine CT (by simp [h3, h3_] <;> omega) ?_
  refine AW.seq fun K49 hK49 => ?_
  refine SQ [] [none] fun _ _ g r => ?_
  try simp [h3, h3_]
  and_intros <;> first | exact g _ (by kernel_rfl) | refine r _ _ _ ?_ | omega | (simp [h3, h3_, maxLen] <;> omega)
  refine WK [(12, AV.bool v4)] [] 0 (by simp [h3, h3_]) (by simp [h3, h3_]) ?_
  by_cases h4 : v4 = true
  ·replace hF := ite_t h4 hF
   have h4_ := h4
   try simp at h4_
   have F1 := And.intro h3 (And.intro h3_ (And.intro h4 h4_))
   refine CT (by simp [F1] <;> omega) ?_
   refine SQ [] [none] fun _ _ g r => ?_
   try simp [F1]
   and_intros <;> first | exact g _ (by kernel_rfl) | refine r _ _ _ ?_ | omega | (simp [maxLen, F1] <;> omega)
   refine WK [(4, Iz 0)] [] 0 (by simp [F1]) (by simp [F1]) ?_
   simp only [Option.some.injEq] at hF
   subst hF
   refine AW.ret (hQ _ _ _ ?_ (matchO_0 ?_)).1
   ·simp [Try.f46, F1]
   ·simp [F1]
  ·replace hF := ite_f h4 hF
   have h4_ := h4
   try simp at h4_
   have F2 := And.intro h3 (And.intro h3_ (And.intro h4 h4_))
   refine CF (by simp [F2] <;> omega) ?_
   refine AW.skip ?_
   refine hK49 _ _ _ ?_
   refine SQ [] [none] fun _ _ g r => ?_
   try simp [F2]
   and_intros <;> first | exact g _ (by kernel_rfl) | refine r _ _ _ ?_ | omega | (simp [maxLen, F2] <;> omega)
   refine WK [(4, Iz (-1))] [] 0 (by simp [F2]) (by simp [F2]) ?_
   simp only [Option.some.injEq] at hF
   subst hF
   refine AW.ret (hQ _ _ _ ?_ (matchO_0 ?_)).1
   ·simp [Try.f46, F2]
   ·simp [F2]
 ·replace hF := ite_f h3 hF
  have h3_ := h3
  try simp at h3_
  refine CF (by simp [h3, h3_] <;> omega) ?_
  refine AW.skip ?_
  refine hK45 _ _ _ ?_
  refine AW.seq fun K55 hK55 => ?_
  refine SQ [] [none] fun _ _ g r => ?_
  try simp [h3, h3_]
  and_intros <;> first | exact g _ (by kernel_rfl) | refine r _ _ _ ?_ | omega | (simp [h3, h3_, maxLen] <;> omega)
  refine WK [(0, Iz v0), (1, Iz v1), (13, AV.bool v4)] [] 0 (by simp [h3, h3_]) (by simp [h3, h3_]) ?_
  by_cases h5 : v4 = true
  ·replace hF := ite_t h5 hF
   have h5_ := h5
   try simp at h5_
   have F3 := And.intro h3 (And.intro h3_ (And.intro h5 h5_))
   refine CT (by simp [F3] <;> omega) ?_
   refine SQ [] [none] fun _ _ g r => ?_
   try simp [F3]
   and_intros <;> first | exact g _ (by kernel_rfl) | refine r _ _ _ ?_ | omega | (simp [maxLen, F3] <;> omega)
   refine WK [(4, Iz 1)] [] 0 (by simp [F3]) (by simp [F3]) ?_
   simp only [Option.some.injEq] at hF
   subst hF
   refine AW.ret (hQ _ _ _ ?_ (matchO_0 ?_)).1
   ·simp [Try.f46, F3]
   ·simp [F3]
  ·replace hF := ite_f h5 hF
   have h5_ := h5
   try simp at h5_
   have F4 := And.intro h3 (And.intro h3_ (And.intro h5 h5_))
   refine CF (by simp [F4] <;> omega) ?_
   refine AW.skip ?_
   refine hK55 _ _ _ ?_
   refine AW.seq fun K60 hK60 => ?_
   refine SQ [] [none, none, none] fun _ _ g r => ?_
   try simp [F4]
   and_intros <;> first | exact g _ (by kernel_rfl) | refine r _ _ _ ?_ | omega | (simp [maxLen, F4] <;> omega)
   refine WK [(0, Iz v0), (1, Iz v1), (16, AV.bool (decide (v0 < v1)))] [] 0 (by simp [F4]) (by simp [F4]) ?_
   by_cases h6 : v0 < v1
   ·replace hF := ite_t h6 hF
    have h6_ := h6
    try simp at h6_
    have F5 := And.intro F4 (And.intro h6 h6_)
    refine CT (by simp [F5] <;> omega) ?_
    refine SQ [] [none] fun _ _ g r => ?_
    try simp [F5]
    and_intros <;> first | exact g _ (by kernel_rfl) | refine r _ _ _ ?_ | omega | (simp [maxLen, F5] <;> omega)
    refine WK [(4, Iz (-1))] [] 0 (by simp [F5]) (by simp [F5]) ?_
    simp only [Option.some.injEq] at hF
    subst hF
    refine AW.ret (hQ _ _ _ ?_ (matchO_0 ?_)).1
    ·simp [Try.f46, F5]
    ·simp [F5]
   ·replace hF := ite_f h6 hF
    have h6_ := h6
    try simp at h6_
    have F6 := And.intro F4 (And.intro h6 h6_)
    refine CF (by simp [F6] <;> omega) ?_
    refine AW.skip ?_
    refine hK60 _ _ _ ?_
    refine AW.seq fun K65 hK65 => ?_
    refine SQ [] [none, none, none] fun _ _ g r => ?_
    try simp [F6]
    and_intros <;> first | exact g _ (by kernel_rfl) | refine r _ _ _ ?_ | omega | (simp [maxLen, F6] <;> omega)
    refine WK [(19, AV.bool (decide (v1 < v0)))] [] 0 (by simp [F6]) (by simp [F6]) ?_
    by_cases h7 : v1 < v0
    ·replace hF := ite_t h7 hF
     have h7_ := h7
     try simp at h7_
     have F7 := And.intro F6 (And.intro h7 h7_)
     refine CT (by simp [F7] <;> omega) ?_
     refine SQ [] [none] fun _ _ g r => ?_
     try simp [F7]
     and_intros <;> first | exact g _ (by kernel_rfl) | refine r _ _ _ ?_ | omega | (simp [maxLen, F7] <;> omega)
     refine WK [(4, Iz 1)] [] 0 (by simp [F7]) (by simp [F7]) ?_
     simp only [Option.some.injEq] at hF
     subst hF
     refine AW.ret (hQ _ _ _ ?_ (matchO_0 ?_)).1
     ·simp [Try.f46, F7]
     ·simp [F7]
    ·replace hF := ite_f h7 hF
     have h7_ := h7
     try simp at h7_
     have F8 := And.intro F6 (And.intro h7 h7_)
     refine CF (by simp [F8] <;> omega) ?_
     refine AW.skip ?_
     refine hK65 _ _ _ ?_
     refine SQ [] [none] fun _ _ g r => ?_
     try simp [F8]
     and_intros <;> first | exact g _ (by kernel_rfl) | refine r _ _ _ ?_ | omega | (simp [maxLen, F8] <;> omega)
     refine WK [(4, Iz 0)] [] 0 (by simp [F8]) (by simp [F8]) ?_
     simp only [Option.some.injEq] at hF
     subst hF
     refine AW.ret (hQ _ _ _ ?_ (matchO_0 ?_)).1
     ·simp [Try.f46, F8]
     ·simp [F8]
theorem w_cases_order_int_Compare_int (k : Nat) (v0 : (List Int)) (v1 : (List Int)) (v2 : Int) (hF : cases_order_int_Compare_int k v0 v1 = some v2) :
  FCall Try.prog 45 [AV.lst false false (List.map (AV.int .i64) v0), AV.lst false false (List.map (AV.int .i64) v1), AV.fn 46 []] [] (AV.int .i64 v2) [] := by
 unfold cases_order_int_Compare_int at hF
 refine EN Try.func45 ?_
 intro c0 w0 Q h0 hQ
 refine WK [(0, Lz v0), (1, Lz v1), (2, AV.fn 46 [])] [] 0 (by simp) (by simp) ?_
 refine SQ [] [none] fun _ _ g r => ?_
 try simp
 and_intros <;> first | exact g _ (by kernel_rfl) | refine r _ _ _ ?_ | omega | (simp [maxLen] <;> omega)
 refine WK [(0, Lz v0), (1, Lz v1), (2, AV.fn 46 [])] [] 0 (by simp) (by simp) ?_
 refine AW.seq fun K155 hK155 => ?_
 refine SQ [] [none, none, none, none, none, none] fun _ _ g r => ?_
 obtain ⟨v3, h1, hF⟩ := let1_elim hF
 have h1_ := h1
 try simp at h1_
 try simp [h1, h1_]
 and_intros <;> first | exact g _ (by kernel_rfl) | refine r _ _ _ ?_ | omega | (simp [h1, h1_, maxLen] <;> omega)
 refine WK [(0, Lz v0), (1, Lz v1), (2, AV.fn 46 []), (13, Iz v3), (14, Iz 0)] [] 0 (by simp [h1, h1_]) (by simp [h1, h1_]) ?_
 refine AW.block ?_
 refine AW.loopF (α := Int) (fun n v4 => cases_order_int_Compare_int.L1 k v0 v1 v3 n v4 = some v2) (fun v4 => [(0, Lz v0), (1, Lz v1), (2, AV.fn 46 []), (13, Iz v3), (14, Iz v4)]) (fun v4 => []) 0 k (0) hF (by simp [h1, h1_]) (by simp [h1, h1_]) (by simp) ?_
 rintro (_|n1) v4 hF K193 hK193
 ·try dsimp only at hF
  rw [cases_order_int_Compare_int.L1] at hF; cases hF
 try dsimp only at hF
 rw [cases_order_int_Compare_int.L1] at hF
 refine SQ [] [none] fun _ _ g r => ?_
 try simp [h1, h1_]
 and_intros <;> first | exact g _ (by kernel_rfl) | refine r _ _ _ ?_ | omega | (simp [h1, h1_, maxLen] <;> omega)
 refine WK [(0, Lz v0), (1, Lz v1), (2, AV.fn 46 []), (13, Iz v3), (14, Iz v4), (15, AV.bool (decide (v4 < v3)))] [] 0 (by simp [h1, h1_]) (by simp [h1, h1_]) ?_
 refine AW.seq fun K195 hK195 => ?_
 by_cases h2 : v4 < v3
 ·replace hF := ite_t h2 hF
  have h2_ := h2
  try simp at h2_
  have F1 := And.intro h1 (And.intro h1_ (And.intro h2 h2_))
  refine CT (by simp [F1] <;> omega) ?_
  refine AW.skip ?_
  refine hK195 _ _ _ ?_
  refine AW.seq fun K200 hK200 => ?_
  refine AW.block ?_
  refine SQ [] [none, none] fun _ _ g r => ?_
  try simp [F1]
  and_intros <;> first | exact g _ (by kernel_rfl) | refine r _ _ _ ?_ | omega | (simp [maxLen, F1] <;> omega)
  refine WK [(0, Lz v0), (1, Lz v1), (2, AV.fn 46 []), (7, Iz v4), (13, Iz v3), (14, Iz v4)] [] 0 (by simp [F1]) (by simp [F1]) ?_
  refine SQ [] [none, none, none, none, none, none, none, none, none, none, none] fun _ _ g r => ?_
  obtain ⟨v5, h3, h4, h5, hF⟩ := idx_elim hF
  have h5_ := get_of h5
  try simp at h5_
  have h4_ := h4
  try simp at h4_
  obtain ⟨v6, h6, h7, h8, hF⟩ := idx_elim hF
  have h8_ := get_of h8
  try simp at h8_
  have h7_ := h7
  try simp at h7_
  have F2 := And.intro F1 (And.intro h3 (And.intro h4 (And.intro h5 (And.intro h5_ (And.intro h4_ (And.intro h6 (And.intro h7 (And.intro h8 (And.intro h8_ h7_)))))))))
  try simp [F2]
  and_intros
  try any_goals first | omega | (simp [maxLen, F2] <;> omega)
  obtain ⟨v7, h9, hF⟩ := bnd1_elim hF
  refine AC (w_cmp_Compare_int k _ _ _ h9) (.cons (.same (by simp [F2])) (.cons (.same (by simp [F2])) .nil)) ?_
  try simp [F2]
  and_intros <;> first | exact g _ (by kernel_rfl) | refine r _ _ _ ?_ | omega | (simp [maxLen, F2] <;> omega)
  refine WK [(0, Lz v0), (1, Lz v1), (2, AV.fn 46 []), (8, Iz v7), (13, Iz v3), (14, Iz v4)] [] 0 (by simp [F2]) (by simp [F2]) ?_
  refine SQ [] [none, none] fun _ _ g r => ?_
  try simp [F2]
  and_intros <;> first | exact g _ (by kernel_rfl) | refine r _ _ _ ?_ | omega | (simp [maxLen, F2] <;> omega)
  refine WK [(0, Lz v0), (1, Lz v1), (2, AV.fn 46 []), (8, Iz v7), (13, Iz v3), (14, Iz v4), (28, AV.bool (v7 != 0))] [] 0 (by simp [F2]) (by simp [F2]) ?_
  by_cases h10 : v7 ≠ 0
  ·replace hF := ite_t h10 hF
   have h10_ := eqb_f h10
   have h10__ := neb_t h10
   have F3 := And.intro F2 (And.intro h10 (And.intro h10_ h10__))
   refine CT (by simp [F3] <;> omega) ?_
   refine SQ [] [none, none] fun _ _ g r => ?_
   try simp [F3]
   and_intros <;> first | exact g _ (by kernel_rfl) | refine r _ _ _ ?_ | omega | (simp [maxLen, F3] <;> omega)
   refine WK [(6, Iz v7)] [] 0 (by simp [F3]) (by simp [F3]) ?_
   simp only [Option.some.injEq] at hF
   subst hF
   refine AW.ret (hQ _ _ _ ?_ (matchO_0 ?_)).1
   ·simp [Try.f45, F3]
   ·simp [F3]
  ·replace hF := ite_f h10 hF
   have h10q : v7 = 0 := Classical.not_not.1 h10
   have h10_ := eqb_t h10q
   have h10__ := neb_f h10q
   have F4 := And.intro F2 (And.intro h10_ (And.intro h10__ h10q))
   refine CF (by simp [F4] <;> omega) ?_
   refine AW.skip ?_
   refine hK200 _ _ _ ?_
   refine RG [] [none, none] fun _ _ g r => ?_
   try simp [F4]
   and_intros <;> first | exact g _ (by kernel_rfl) | refine r _ _ _ ?_ | omega | (simp [maxLen, F4] <;> omega)
   refine hK193 _ _ _ ?_
   exact NX (k' := n1) (IntKind.wrap .i64 (v4 + 1)) hF (by simp [F4]) (by simp [F4])
 ·replace hF := ite_f h2 hF
  have h2_ := h2
  try simp at h2_
  have F5 := And.intro h1 (And.intro h1_ (And.intro h2 h2_))
  refine CF (by simp [F5] <;> omega) ?_
  refine AW.exit ?_
  try simp
  refine hK155 _ _ _ ?_
  refine SQ [] [none, none, none, none, none, none] fun _ _ g r => ?_
  try simp [F5]
  and_intros
  try any_goals first | omega | (simp [maxLen, F5] <;> omega)
  obtain ⟨v8, h11, hF⟩ := bnd1_elim hF
  refine AC (w_cmp_Compare_int k _ _ _ h11) (.cons (.same (by simp [F5])) (.cons (.same (by simp [F5])) .nil)) ?_
  try simp [F5]
  and_intros <;> first | exact g _ (by kernel_rfl) | refine r _ _ _ ?_ | omega | (simp [maxLen, F5] <;> omega)
  refine WK [(6, Iz v8)] [] 0 (by simp [F5]) (by simp [F5]) ?_
  simp only [Option.some.injEq] at hF
  subst hF
  refine AW.ret (hQ _ _ _ ?_ (matchO_0 ?_)).1
  ·simp [Try.f45, F5]
  ·simp [F5]
end Go.TF
