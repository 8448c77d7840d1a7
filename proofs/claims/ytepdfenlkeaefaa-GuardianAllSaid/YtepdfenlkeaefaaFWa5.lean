/- Walks: the Go text computes the Lean functions (printed by a program of our own). -/
import Derived.Test.YtepdfenlkeaefaaFPu
import Derived.Test.YtepdfenlkeaefaaFAbsT
import Derived.Test.YtepdfenlkeaefaaFWa0
import Derived.Test.YtepdfenlkeaefaaFWa1
import Derived.Test.YtepdfenlkeaefaaFWa2
set_option linter.unusedVariables false
set_option linter.unusedSimpArgs false
set_option maxRecDepth 100000
set_option maxHeartbeats 4000000
namespace Go.TF
open Go Go.Abs Go.Proofs Go.Proofs.YtepdfenlkeaefaaFT
theorem w_ref03_key (k : Nat) (v0 : Int) (v1 : Bool) (hF : ref03_key k v0 = some v1) :
  FCall Try.prog 109 [AV.int .i64 v0] [] (AV.bool v1) [] := by
 unfold ref03_key at hF
 refine EN Try.func109 ?_
 intro c0 w0 Q h0 hQ
 refine WK [(0, Iz v0)] [] 0 (by simp) (by simp) ?_
 refine SQ [] [none] fun _ _ g r => ?_
 try simp
 and_intros <;> first | exact g _ (by kernel_rfl) | refine r _ _ _ ?_ | omega | (simp [maxLen] <;> omega)
 refine WK [(0, Iz v0)] [] 0 (by simp) (by simp) ?_
 refine SQ [] [none, none, none, some (5, true), some (5, true), none, none] fun _ _ g r => ?_
 by_cases h1 : 0 ≤ v0
 ·replace hF := ite_t h1 hF
  have h1_ := h1
  try simp at h1_
  try simp [h1, h1_]
  and_intros <;> first | exact g _ (by kernel_rfl) | refine r _ _ _ ?_ | omega | (simp [h1, h1_, maxLen] <;> omega)
  refine WK [(2, AV.bool (decide (v0 < 64)))] [] 0 (by simp [h1, h1_]) (by simp [h1, h1_]) ?_
  simp only [Option.some.injEq] at hF
  subst hF
  refine AW.ret (hQ _ _ _ ?_ (matchO_0 ?_)).1
  ·simp [Try.f109, h1, h1_]
  ·simp [h1, h1_]
 ·replace hF := ite_f h1 hF
  have h1_ := h1
  try simp at h1_
  try simp [h1, h1_]
  and_intros <;> first | exact g _ (by kernel_rfl) | refine r _ _ _ ?_ | omega | (simp [h1, h1_, maxLen] <;> omega)
  refine WK [(2, AV.bool false)] [] 0 (by simp [h1, h1_]) (by simp [h1, h1_]) ?_
  simp only [Option.some.injEq] at hF
  subst hF
  refine AW.ret (hQ _ _ _ ?_ (matchO_0 ?_)).1
  ·simp [Try.f109, h1, h1_]
  ·simp [h1, h1_]
theorem w_ref03_in (k : Nat) (v0 : Int) (v1 : Int) (v2 : Bool) (hF : ref03_in k v0 v1 = some v2) :
  FCall Try.prog 110 [AV.int .i64 v0, AV.int .i64 v1] [] (AV.bool v2) [] := by
 unfold ref03_in at hF
 refine EN Try.func110 ?_
 intro c0 w0 Q h0 hQ
 refine WK [(0, Iz v0), (1, Iz v1)] [] 0 (by simp) (by simp) ?_
 refine SQ [] [none] fun _ _ g r => ?_
 try simp
 and_intros <;> first | exact g _ (by kernel_rfl) | refine r _ _ _ ?_ | omega | (simp [maxLen] <;> omega)
 refine WK [(0, Iz v0), (1, Iz v1)] [] 0 (by simp) (by simp) ?_
 refine SQ [] [none, none, none, some (7, true), some (7, true), some (7, true), none, none] fun _ _ g r => ?_
 by_cases h1 : 0 ≤ v0
 ·replace hF := ite_t h1 hF
  have h1_ := h1
  try simp at h1_
  try simp [h1, h1_]
  and_intros <;> first | exact g _ (by kernel_rfl) | refine r _ _ _ ?_ | omega | (simp [h1, h1_, maxLen] <;> omega)
  refine WK [(4, AV.bool (decide (v0 ≤ v1)))] [] 0 (by simp [h1, h1_]) (by simp [h1, h1_]) ?_
  simp only [Option.some.injEq] at hF
  subst hF
  refine AW.ret (hQ _ _ _ ?_ (matchO_0 ?_)).1
  ·simp [Try.f110, h1, h1_]
  ·simp [h1, h1_]
 ·replace hF := ite_f h1 hF
  have h1_ := h1
  try simp at h1_
  try simp [h1, h1_]
  and_intros <;> first | exact g _ (by kernel_rfl) | refine r _ _ _ ?_ | omega | (simp [h1, h1_, maxLen] <;> omega)
  refine WK [(4, AV.bool false)] [] 0 (by simp [h1, h1_]) (by simp [h1, h1_]) ?_
  simp only [Option.some.injEq] at hF
  subst hF
  refine AW.ret (hQ _ _ _ ?_ (matchO_0 ?_)).1
  ·simp [Try.f110, h1, h1_]
  ·simp [h1, h1_]
abbrev c_ref03_numbers (v0 : Int) (v1 : Int) (v2 : ByteArray) (v3 : Int) (v4 : Int) (v5 : Int) (v6 : Int) (v7 : Int) (v8 : (List Int)) (v9 : (List api_Pin)) (v10 : ByteArray) (v11 : Int) (v12 : ByteArray) : AObj := .cells [Iz v0, Iz v1, AV.str v2, Iz v3, Iz v4, Iz v5, Iz v6, Iz v7, Lz v8, AV.lst false false (List.map api_Pin.av v9), AV.str v10, Iz v11, AV.str v12]
theorem w_ref03_numbers (k : Nat) (v0 : Int) (v1 : Int) (v2 : ByteArray) (v3 : Int) (v4 : Int) (v5 : Int) (v6 : Int) (v7 : Int) (v8 : (List Int)) (v9 : (List api_Pin)) (v10 : ByteArray) (v11 : Int) (v12 : ByteArray) (v13 : Bool) (hF : ref03_numbers k v0 v1 v2 v3 v4 v5 v6 v7 v8 v9 v10 v11 v12 = some v13) :
  FCall Try.prog 111 [AV.agg [AV.int .i64 v0, AV.int .i64 v1, AV.str v2, AV.int .i64 v3, AV.int .i64 v4, AV.int .i64 v5, AV.int .i64 v6, AV.int .i64 v7, AV.lst false false (List.map (AV.int .i64) v8), AV.lst false false (List.map api_Pin.av v9), AV.str v10, AV.int .i64 v11, AV.str v12]] [] (AV.bool v13) [] := by
 unfold ref03_numbers at hF
 refine EN Try.func111 ?_
 intro c0 w0 Q h0 hQ
 refine WK [(0, AV.agg [Iz v0, Iz v1, AV.str v2, Iz v3, Iz v4, Iz v5, Iz v6, Iz v7, Lz v8, AV.lst false false (List.map api_Pin.av v9), AV.str v10, Iz v11, AV.str v12])] [] 0 (by simp) (by simp) ?_
 refine SQ [] [none, none] fun _ _ g r => ?_
 try simp
 and_intros <;> first | exact g _ (by kernel_rfl) | refine r _ _ _ ?_ | omega | (simp [maxLen] <;> omega)
 refine WK [(1, AV.ptr 0 0)] [(0, c_ref03_numbers v0 v1 v2 v3 v4 v5 v6 v7 v8 v9 v10 v11 v12)] 1 (by simp) (by simp) ?_
 refine AW.seq fun K112 hK112 => ?_
 refine SQ [] [none, none, none, none, none, some (8, false), some (8, false), some (8, false), some (8, false), none, none, some (14, false), some (14, false), some (14, false), some (14, false), none, none, some (20, false), some (20, false), some (20, false), some (20, false), none] fun _ _ g r => ?_
 try simp
 and_intros
 try any_goals first | omega | (simp [maxLen] <;> omega)
 obtain ⟨v14, h1, hF⟩ := bnd1_elim hF
 refine AC (w_ref03_in k _ _ _ h1) (.cons (.same (by simp)) (.cons (.same (by simp)) .nil)) ?_
 by_cases h2 : (!v14) = true
 ·replace hF := ite_t h2 hF
  have h2_ := h2
  try simp at h2_
  try simp [h2, h2_]
  and_intros <;> first | exact g _ (by kernel_rfl) | refine r _ _ _ ?_ | omega | (simp [h2, h2_, maxLen] <;> omega)
  refine WK [(1, AV.ptr 0 0), (25, AV.bool true)] [(0, c_ref03_numbers v0 v1 v2 v3 v4 v5 v6 v7 v8 v9 v10 v11 v12)] 1 (by simp [h2, h2_]) (by simp [h2, h2_]) ?_
  refine CT (by simp [h2, h2_]) ?_
  refine SQ [] [none] fun _ _ g r => ?_
  try simp [h2, h2_]
  and_intros <;> first | exact g _ (by kernel_rfl) | refine r _ _ _ ?_ | omega | (simp [h2, h2_, maxLen] <;> omega)
  refine WK [(2, AV.bool false)] [] 1 (by simp [h2, h2_]) (by simp [h2, h2_]) ?_
  simp only [Option.some.injEq] at hF
  subst hF
  refine AW.ret (hQ _ _ _ ?_ (matchO_0 ?_)).1
  ·simp [Try.f111, h2, h2_]
  ·simp [h2, h2_]
 ·replace hF := ite_f h2 hF
  have h2_ := h2
  try simp at h2_
  try simp [h2, h2_]
  and_intros
  try any_goals first | omega | (simp [h2, h2_, maxLen] <;> omega)
  obtain ⟨v15, h3, hF⟩ := bnd1_elim hF
  refine AC (w_ref03_in k _ _ _ h3) (.cons (.same (by simp [h2, h2_])) (.cons (.same (by simp [h2, h2_])) .nil)) ?_
  by_cases h4 : (!v15) = true
  ·replace hF := ite_t h4 hF
   have h4_ := h4
   try simp at h4_
   have F1 := And.intro h2 (And.intro h2_ (And.intro h4 h4_))
   try simp [F1]
   and_intros <;> first | exact g _ (by kernel_rfl) | refine r _ _ _ ?_ | omega | (simp [maxLen, F1] <;> omega)
   refine WK [(1, AV.ptr 0 0), (25, AV.bool true)] [(0, c_ref03_numbers v0 v1 v2 v3 v4 v5 v6 v7 v8 v9 v10 v11 v12)] 1 (by simp [F1]) (by simp [F1]) ?_
   refine CT (by simp [F1]) ?_
   refine SQ [] [none] fun _ _ g r => ?_
   try simp [F1]
   and_intros <;> first | exact g _ (by kernel_rfl) | refine r _ _ _ ?_ | omega | (simp [maxLen, F1] <;> omega)
   refine WK [(2, AV.bool false)] [] 1 (by simp [F1]) (by simp [F1]) ?_
   simp only [Option.some.injEq] at hF
   subst hF
   refine AW.ret (hQ _ _ _ ?_ (matchO_0 ?_)).1
   ·simp [Try.f111, F1]
   ·simp [F1]
  ·replace hF := ite_f h4 hF
   have h4_ := h4
   try simp at h4_
   have F2 := And.intro h2 (And.intro h2_ (And.intro h4 h4_))
   try simp [F2]
   and_intros
   try any_goals first | omega | (simp [maxLen, F2] <;> omega)
   obtain ⟨v16, h5, hF⟩ := bnd1_elim hF
   refine AC (w_ref03_in k _ _ _ h5) (.cons (.same (by simp [F2])) (.cons (.same (by simp [F2])) .nil)) ?_
   by_cases h6 : (!v16) = true
   ·replace hF := ite_t h6 hF
    have h6_ := h6
    try simp at h6_
    have F3 := And.intro F2 (And.intro h6 h6_)
    try simp [F3]
    and_intros <;> first | exact g _ (by kernel_rfl) | refine r _ _ _ ?_ | omega | (simp [maxLen, F3] <;> omega)
    refine WK [(1, AV.ptr 0 0), (25, AV.bool true)] [(0, c_ref03_numbers v0 v1 v2 v3 v4 v5 v6 v7 v8 v9 v10 v11 v12)] 1 (by simp [F3]) (by simp [F3]) ?_
    refine CT (by simp [F3]) ?_
    refine SQ [] [none] fun _ _ g r => ?_
    try simp [F3]
    and_intros <;> first | exact g _ (by kernel_rfl) | refine r _ _ _ ?_ | omega | (simp [maxLen, F3] <;> omega)
    refine WK [(2, AV.bool false)] [] 1 (by simp [F3]) (by simp [F3]) ?_
    simp only [Option.some.injEq] at hF
    subst hF
    refine AW.ret (hQ _ _ _ ?_ (matchO_0 ?_)).1
    ·simp [Try.f111, F3]
    ·simp [F3]
   ·replace hF := ite_f h6 hF
    have h6_ := h6
    try simp at h6_
    have F4 := And.intro F2 (And.intro h6 h6_)
    try simp [F4]
    and_intros
    try any_goals first | omega | (simp [maxLen, F4] <;> omega)
    obtain ⟨v17, h7, hF⟩ := bnd1_elim hF
    refine AC (w_ref03_in k _ _ _ h7) (.cons (.same (by simp [F4])) (.cons (.same (by simp [F4])) .nil)) ?_
    try simp [F4]
    and_intros <;> first | exact g _ (by kernel_rfl) | refine r _ _ _ ?_ | omega | (simp [maxLen, F4] <;> omega)
    refine WK [(1, AV.ptr 0 0), (25, AV.bool (!v17))] [(0, c_ref03_numbers v0 v1 v2 v3 v4 v5 v6 v7 v8 v9 v10 v11 v12)] 1 (by simp [F4]) (by simp [F4]) ?_
    by_cases h8 : (!v17) = true
    ·replace hF := ite_t h8 hF
     have h8_ := h8
     try simp at h8_
     have F5 := And.intro F4 (And.intro h8 h8_)
     refine CT (by simp [F5] <;> omega) ?_
     refine SQ [] [none] fun _ _ g r => ?_
     try simp [F5]
     and_intros <;> first | exact g _ (by kernel_rfl) | refine r _ _ _ ?_ | omega | (simp [maxLen, F5] <;> omega)
     refine WK [(2, AV.bool false)] [] 1 (by simp [F5]) (by simp [F5]) ?_
     simp only [Option.some.injEq] at hF
     subst hF
     refine AW.ret (hQ _ _ _ ?_ (matchO_0 ?_)).1
     ·simp [Try.f111, F5]
     ·simp [F5]
    ·replace hF := ite_f h8 hF
     have h8_ := h8
     try simp at h8_
     have F6 := And.intro F4 (And.intro h8 h8_)
     refine CF (by simp [F6] <;> omega) ?_
     refine AW.skip ?_
     refine hK112 _ _ _ ?_
     refine AW.seq fun K156 hK156 => ?_
     refine SQ [] [none] fun _ _ g r => ?_
     try simp [F6]
     and_intros <;> first | exact g _ (by kernel_rfl) | refine r _ _ _ ?_ | omega | (simp [maxLen, F6] <;> omega)
     refine WK [(1, AV.ptr 0 0), (3, Iz 0)] [(0, c_ref03_numbers v0 v1 v2 v3 v4 v5 v6 v7 v8 v9 v10 v11 v12)] 1 (by simp [F6]) (by simp [F6]) ?_
     refine AW.block ?_
     refine AW.loopF (α := Int) (fun n v18 => ref03_numbers.L1 k v0 v3 v4 v5 v6 v7 v8 n v18 = some v13) (fun v18 => [(1, AV.ptr 0 0), (3, Iz v18)]) (fun v18 => [(0, c_ref03_numbers v0 v1 v2 v3 v4 v5 v6 v7 v8 v9 v10 v11 v12)]) 1 k (0) hF (by simp [F6]) (by simp [F6]) (by simp) ?_
     rintro (_|n1) v18 hF K185 hK185
     ·try dsimp only at hF
      rw [ref03_numbers.L1] at hF; cases hF
     try dsimp only at hF
     rw [ref03_numbers.L1] at hF
     refine AW.seq fun K187 hK187 => ?_
     refine SQ [] [none, none, none, none, none] fun _ _ g r => ?_
     try simp [F6]
     and_intros <;> first | exact g _ (by kernel_rfl) | refine r _ _ _ ?_ | omega | (simp [maxLen, F6] <;> omega)
     refine WK [(1, AV.ptr 0 0), (3, Iz v18), (30, AV.bool (decide (v18 < (v8.length : Int))))] [(0, c_ref03_numbers v0 v1 v2 v3 v4 v5 v6 v7 v8 v9 v10 v11 v12)] 1 (by simp [F6]) (by simp [F6]) ?_
     by_cases h9 : v18 < (v8.length : Int)
     ·replace hF := ite_t h9 hF
      have h9_ := h9
      try simp at h9_
      have F7 := And.intro F6 (And.intro h9 h9_)
      refine CT (by simp [F7] <;> omega) ?_
      refine AW.skip ?_
      refine hK187 _ _ _ ?_
      refine AW.seq fun K191 hK191 => ?_
      refine AW.block ?_
      refine SQ [] [none, none, none, none, none, none, none] fun _ _ g r => ?_
      obtain ⟨v19, h10, h11, h12, hF⟩ := idx_elim hF
      have h12_ := get_of h12
      try simp at h12_
      have h11_ := h11
      try simp at h11_
      have F8 := And.intro F7 (And.intro h10 (And.intro h11 (And.intro h12 (And.intro h12_ h11_))))
      try simp [F8]
      and_intros
      try any_goals first | omega | (simp [maxLen, F8] <;> omega)
      obtain ⟨v20, h13, hF⟩ := bnd1_elim hF
      refine AC (w_ref03_in k _ _ _ h13) (.cons (.same (by simp [F8])) (.cons (.same (by simp [F8])) .nil)) ?_
      try simp [F8]
      and_intros <;> first | exact g _ (by kernel_rfl) | refine r _ _ _ ?_ | omega | (simp [maxLen, F8] <;> omega)
      refine WK [(1, AV.ptr 0 0), (3, Iz v18), (39, AV.bool (!v20))] [(0, c_ref03_numbers v0 v1 v2 v3 v4 v5 v6 v7 v8 v9 v10 v11 v12)] 1 (by simp [F8]) (by simp [F8]) ?_
      by_cases h14 : (!v20) = true
      ·replace hF := ite_t h14 hF
       have h14_ := h14
       try simp at h14_
       have F9 := And.intro F8 (And.intro h14 h14_)
       refine CT (by simp [F9] <;> omega) ?_
       refine SQ [] [none] fun _ _ g r => ?_
       try simp [F9]
       and_intros <;> first | exact g _ (by kernel_rfl) | refine r _ _ _ ?_ | omega | (simp [maxLen, F9] <;> omega)
       refine WK [(2, AV.bool false)] [] 1 (by simp [F9]) (by simp [F9]) ?_
       simp only [Option.some.injEq] at hF
       subst hF
       refine AW.ret (hQ _ _ _ ?_ (matchO_0 ?_)).1
       ·simp [Try.f111, F9]
       ·simp [F9]
      ·replace hF := ite_f h14 hF
       have h14_ := h14
       try simp at h14_
       have F10 := And.intro F8 (And.intro h14 h14_)
       refine CF (by simp [F10] <;> omega) ?_
       refine AW.skip ?_
       refine hK191 _ _ _ ?_
       refine RG [] [none, none, none] fun _ _ g r => ?_
       try simp [F10]
       and_intros <;> first | exact g _ (by kernel_rfl) | refine r _ _ _ ?_ | omega | (simp [maxLen, F10] <;> omega)
       refine hK185 _ _ _ ?_
       exact Can.next (k' := n1) (IntKind.wrap .i64 (v18 + 1)) (by omega) hF (by simp [F10]) (by simp [F10]) (by simp)
     ·replace hF := ite_f h9 hF
      have h9_ := h9
      try simp at h9_
      have F11 := And.intro F6 (And.intro h9 h9_)
      refine CF (by simp [F11] <;> omega) ?_
      refine AW.exit ?_
      try simp
      refine hK156 _ _ _ ?_
      refine AW.seq fun K202 hK202 => ?_
      refine SQ [] [none, none] fun _ _ g r => ?_
      try simp [F11]
      and_intros <;> first | exact g _ (by kernel_rfl) | refine r _ _ _ ?_ | omega | (simp [maxLen, F11] <;> omega)
      refine WK [(1, AV.ptr 0 0), (41, Iz v4)] [(0, c_ref03_numbers v0 v1 v2 v3 v4 v5 v6 v7 v8 v9 v10 v11 v12)] 1 (by simp [F11]) (by simp [F11]) ?_
      refine AW.block ?_
      refine SQ [] [none, none] fun _ _ g r => ?_
      try simp [F11]
      and_intros <;> first | exact g _ (by kernel_rfl) | refine r _ _ _ ?_ | omega | (simp [maxLen, F11] <;> omega)
      refine WK [(1, AV.ptr 0 0), (41, Iz v4), (42, AV.bool (v4 == 1))] [(0, c_ref03_numbers v0 v1 v2 v3 v4 v5 v6 v7 v8 v9 v10 v11 v12)] 1 (by simp [F11]) (by simp [F11]) ?_
      by_cases h15 : v4 = 1
      ·replace hF := ite_t h15 hF
       have h15q : v4 = 1 := h15
       have h15_ := eqb_t h15q
       have h15__ := neb_f h15q
       have F12 := And.intro F11 (And.intro h15_ (And.intro h15__ h15q))
       refine CT (by simp [F12] <;> omega) ?_
       refine SQ [] [none, none, none, none, some (47, true), some (47, true), some (47, true), some (47, true), some (47, true), none, none, some (54, true), some (54, true), some (54, true), none, none, some (59, true), some (59, true), some (59, true), none, none, some (64, true), some (64, true), some (64, true), some (64, true), some (64, true), none, none, some (71, true), some (71, true), some (71, true), none, none] fun _ _ g r => ?_
       try simp [F12]
       and_intros
       try any_goals first | omega | (simp [maxLen, F12] <;> omega)
       obtain ⟨v21, h16, hF⟩ := bnd1_elim hF
       refine AC (w_ref03_key k _ _ h16) (.cons (.same (by simp [F12])) .nil) ?_
       by_cases h17 : v21 = true
       ·replace hF := ite_t h17 hF
        have h17_ := h17
        try simp at h17_
        by_cases h18 : v5 ≠ v0
        ·replace hF := ite_t h18 hF
         have h18_ := eqb_f h18
         have h18__ := neb_t h18
         by_cases h19 : 1 ≤ v6
         ·replace hF := ite_t h19 hF
          have h19_ := h19
          try simp at h19_
          by_cases h20 : v6 ≤ 3
          ·replace hF := ite_t h20 hF
           have h20_ := h20
           try simp at h20_
           by_cases h21 : v3 ≤ v7
           ·replace hF := ite_t h21 hF
            have h21_ := h21
            try simp at h21_
            have F13 := And.intro F12 (And.intro h17 (And.intro h17_ (And.intro h18 (And.intro h18_ (And.intro h18__ (And.intro h19 (And.intro h19_ (And.intro h20 (And.intro h20_ (And.intro h21 h21_))))))))))
            try simp [F13]
            and_intros <;> first | exact g _ (by kernel_rfl) | refine r _ _ _ ?_ | omega | (simp [maxLen, F13] <;> omega)
            refine WK [(2, AV.bool (decide (v7 ≤ 2147483648)))] [] 1 (by simp [F13]) (by simp [F13]) ?_
            simp only [Option.some.injEq] at hF
            subst hF
            refine AW.ret (hQ _ _ _ ?_ (matchO_0 ?_)).1
            ·simp [Try.f111, F13]
            ·simp [F13]
           ·replace hF := ite_f h21 hF
            have h21_ := h21
            try simp at h21_
            have F14 := And.intro F12 (And.intro h17 (And.intro h17_ (And.intro h18 (And.intro h18_ (And.intro h18__ (And.intro h19 (And.intro h19_ (And.intro h20 (And.intro h20_ (And.intro h21 h21_))))))))))
            try simp [F14]
            and_intros <;> first | exact g _ (by kernel_rfl) | refine r _ _ _ ?_ | omega | (simp [maxLen, F14] <;> omega)
            refine WK [(2, AV.bool false)] [] 1 (by simp [F14]) (by simp [F14]) ?_
            simp only [Option.some.injEq] at hF
            subst hF
            refine AW.ret (hQ _ _ _ ?_ (matchO_0 ?_)).1
            ·simp [Try.f111, F14]
            ·simp [F14]
          ·replace hF := ite_f h20 hF
           have h20_ := h20
           try simp at h20_
           have F15 := And.intro F12 (And.intro h17 (And.intro h17_ (And.intro h18 (And.intro h18_ (And.intro h18__ (And.intro h19 (And.intro h19_ (And.intro h20 h20_))))))))
           try simp [F15]
           and_intros <;> first | exact g _ (by kernel_rfl) | refine r _ _ _ ?_ | omega | (simp [maxLen, F15] <;> omega)
           refine WK [(2, AV.bool false)] [] 1 (by simp [F15]) (by simp [F15]) ?_
           simp only [Option.some.injEq] at hF
           subst hF
           refine AW.ret (hQ _ _ _ ?_ (matchO_0 ?_)).1
           ·simp [Try.f111, F15]
           ·simp [F15]
         ·replace hF := ite_f h19 hF
          have h19_ := h19
          try simp at h19_
          have F16 := And.intro F12 (And.intro h17 (And.intro h17_ (And.intro h18 (And.intro h18_ (And.intro h18__ (And.intro h19 h19_))))))
          try simp [F16]
          and_intros <;> first | exact g _ (by kernel_rfl) | refine r _ _ _ ?_ | omega | (simp [maxLen, F16] <;> omega)
          refine WK [(2, AV.bool false)] [] 1 (by simp [F16]) (by simp [F16]) ?_
          simp only [Option.some.injEq] at hF
          subst hF
          refine AW.ret (hQ _ _ _ ?_ (matchO_0 ?_)).1
          ·simp [Try.f111, F16]
          ·simp [F16]
        ·replace hF := ite_f h18 hF
         have h18q : v5 = v0 := Classical.not_not.1 h18
         have h18_ := eqb_t h18q
         have h18__ := neb_f h18q
         have F17 := And.intro F12 (And.intro h17 (And.intro h17_ (And.intro h18_ h18__)))
         try simp [F17]
         and_intros <;> first | exact g _ (by kernel_rfl) | refine r _ _ _ ?_ | omega | (simp [maxLen, F17] <;> omega)
         refine WK [(2, AV.bool false)] [] 1 (by simp [F17]) (by simp [F17]) ?_
         simp only [Option.some.injEq] at hF
         subst hF
         refine AW.ret (hQ _ _ _ ?_ (matchO_0 ?_)).1
         ·simp [Try.f111, F17]
         ·simp [F17]
       ·replace hF := ite_f h17 hF
        have h17_ := h17
        try simp at h17_
        have F18 := And.intro F12 (And.intro h17 h17_)
        try simp [F18]
        and_intros <;> first | exact g _ (by kernel_rfl) | refine r _ _ _ ?_ | omega | (simp [maxLen, F18] <;> omega)
        refine WK [(2, AV.bool false)] [] 1 (by simp [F18]) (by simp [F18]) ?_
        simp only [Option.some.injEq] at hF
        subst hF
        refine AW.ret (hQ _ _ _ ?_ (matchO_0 ?_)).1
        ·simp [Try.f111, F18]
        ·simp [F18]
      ·replace hF := ite_f h15 hF
       have h15_ := eqb_f h15
       have h15__ := neb_t h15
       have F19 := And.intro F11 (And.intro h15 (And.intro h15_ h15__))
       refine CF (by simp [F19] <;> omega) ?_
       refine SQ [] [none, none] fun _ _ g r => ?_
       try simp [F19]
       and_intros <;> first | exact g _ (by kernel_rfl) | refine r _ _ _ ?_ | omega | (simp [maxLen, F19] <;> omega)
       refine WK [(1, AV.ptr 0 0), (41, Iz v4), (76, AV.bool (v4 == 2))] [(0, c_ref03_numbers v0 v1 v2 v3 v4 v5 v6 v7 v8 v9 v10 v11 v12)] 1 (by simp [F19]) (by simp [F19]) ?_
       by_cases h22 : v4 = 2
       ·replace hF := ite_t h22 hF
        have h22q : v4 = 2 := h22
        have h22_ := eqb_t h22q
        have h22__ := neb_f h22q
        have F20 := And.intro F19 (And.intro h22_ (And.intro h22__ h22q))
        refine CT (by simp [F20] <;> omega) ?_
        refine SQ [] [none, none, none, none, some (81, true), some (81, true), some (81, true), none, none, some (86, true), some (86, true), some (86, true), none, none] fun _ _ g r => ?_
        try simp [F20]
        and_intros
        try any_goals first | omega | (simp [maxLen, F20] <;> omega)
        obtain ⟨v22, h23, hF⟩ := bnd1_elim hF
        refine AC (w_ref03_in k _ _ _ h23) (.cons (.same (by simp [F20])) (.cons (.same (by simp [F20])) .nil)) ?_
        by_cases h24 : v22 = true
        ·replace hF := ite_t h24 hF
         have h24_ := h24
         try simp at h24_
         by_cases h25 : v6 = 0
         ·replace hF := ite_t h25 hF
          have h25q : v6 = 0 := h25
          have h25_ := eqb_t h25q
          have h25__ := neb_f h25q
          have F21 := And.intro F20 (And.intro h24 (And.intro h24_ (And.intro h25_ (And.intro h25__ h25q))))
          try simp [F21]
          and_intros <;> first | exact g _ (by kernel_rfl) | refine r _ _ _ ?_ | omega | (simp [maxLen, F21] <;> omega)
          refine WK [(2, AV.bool (v7 == 0))] [] 1 (by simp [F21]) (by simp [F21]) ?_
          simp only [Option.some.injEq] at hF
          subst hF
          refine AW.ret (hQ _ _ _ ?_ (matchO_0 ?_)).1
          ·simp [Try.f111, F21]
          ·simp [F21]
         ·replace hF := ite_f h25 hF
          have h25_ := eqb_f h25
          have h25__ := neb_t h25
          have F22 := And.intro F20 (And.intro h24 (And.intro h24_ (And.intro h25 (And.intro h25_ h25__))))
          try simp [F22]
          and_intros <;> first | exact g _ (by kernel_rfl) | refine r _ _ _ ?_ | omega | (simp [maxLen, F22] <;> omega)
          refine WK [(2, AV.bool false)] [] 1 (by simp [F22]) (by simp [F22]) ?_
          simp only [Option.some.injEq] at hF
          subst hF
          refine AW.ret (hQ _ _ _ ?_ (matchO_0 ?_)).1
          ·simp [Try.f111, F22]
          ·simp [F22]
        ·replace hF := ite_f h24 hF
         have h24_ := h24
         try simp at h24_
         have F23 := And.intro F20 (And.intro h24 h24_)
         try simp [F23]
         and_intros <;> first | exact g _ (by kernel_rfl) | refine r _ _ _ ?_ | omega | (simp [maxLen, F23] <;> omega)
         refine WK [(2, AV.bool false)] [] 1 (by simp [F23]) (by simp [F23]) ?_
         simp only [Option.some.injEq] at hF
         subst hF
         refine AW.ret (hQ _ _ _ ?_ (matchO_0 ?_)).1
         ·simp [Try.f111, F23]
         ·simp [F23]
       ·replace hF := ite_f h22 hF
        have h22_ := eqb_f h22
        have h22__ := neb_t h22
        have F24 := And.intro F19 (And.intro h22 (And.intro h22_ h22__))
        refine CF (by simp [F24] <;> omega) ?_
        refine SQ [] [none, none] fun _ _ g r => ?_
        try simp [F24]
        and_intros <;> first | exact g _ (by kernel_rfl) | refine r _ _ _ ?_ | omega | (simp [maxLen, F24] <;> omega)
        refine WK [(1, AV.ptr 0 0), (91, AV.bool (v4 == 3))] [(0, c_ref03_numbers v0 v1 v2 v3 v4 v5 v6 v7 v8 v9 v10 v11 v12)] 1 (by simp [F24]) (by simp [F24]) ?_
        by_cases h26 : v4 = 3
        ·replace hF := ite_t h26 hF
         have h26q : v4 = 3 := h26
         have h26_ := eqb_t h26q
         have h26__ := neb_f h26q
         refine CT (by simp [F24, h26_, h26__, h26q] <;> omega) ?_
         refine SQ [] [none, none, none, none, some (96, true), some (96, true), some (96, true), none, none, some (101, true), some (101, true), some (101, true), none, none] fun _ _ g r => ?_
         by_cases h27 : v5 = 0
         ·replace hF := ite_t h27 hF
          have h27q : v5 = 0 := h27
          have h27_ := eqb_t h27q
          have h27__ := neb_f h27q
          by_cases h28 : v6 = 0
          ·replace hF := ite_t h28 hF
           have h28q : v6 = 0 := h28
           have h28_ := eqb_t h28q
           have h28__ := neb_f h28q
           have F25 := And.intro F24 (And.intro h26_ (And.intro h26__ (And.intro h26q (And.intro h27_ (And.intro h27__ (And.intro h27q (And.intro h28_ (And.intro h28__ h28q))))))))
           try simp [F25]
           and_intros <;> first | exact g _ (by kernel_rfl) | refine r _ _ _ ?_ | omega | (simp [maxLen, F25] <;> omega)
           refine WK [(2, AV.bool (v7 == 0))] [] 1 (by simp [F25]) (by simp [F25]) ?_
           simp only [Option.some.injEq] at hF
           subst hF
           refine AW.ret (hQ _ _ _ ?_ (matchO_0 ?_)).1
           ·simp [Try.f111, F25]
           ·simp [F25]
          ·replace hF := ite_f h28 hF
           have h28_ := eqb_f h28
           have h28__ := neb_t h28
           have F26 := And.intro F24 (And.intro h26_ (And.intro h26__ (And.intro h26q (And.intro h27_ (And.intro h27__ (And.intro h27q (And.intro h28 (And.intro h28_ h28__))))))))
           try simp [F26]
           and_intros <;> first | exact g _ (by kernel_rfl) | refine r _ _ _ ?_ | omega | (simp [maxLen, F26] <;> omega)
           refine WK [(2, AV.bool false)] [] 1 (by simp [F26]) (by simp [F26]) ?_
           simp only [Option.some.injEq] at hF
           subst hF
           refine AW.ret (hQ _ _ _ ?_ (matchO_0 ?_)).1
           ·simp [Try.f111, F26]
           ·simp [F26]
         ·replace hF := ite_f h27 hF
          have h27_ := eqb_f h27
          have h27__ := neb_t h27
          have F27 := And.intro F24 (And.intro h26_ (And.intro h26__ (And.intro h26q (And.intro h27 (And.intro h27_ h27__)))))
          try simp [F27]
          and_intros <;> first | exact g _ (by kernel_rfl) | refine r _ _ _ ?_ | omega | (simp [maxLen, F27] <;> omega)
          refine WK [(2, AV.bool false)] [] 1 (by simp [F27]) (by simp [F27]) ?_
          simp only [Option.some.injEq] at hF
          subst hF
          refine AW.ret (hQ _ _ _ ?_ (matchO_0 ?_)).1
          ·simp [Try.f111, F27]
          ·simp [F27]
        ·replace hF := ite_f h26 hF
         have h26_ := eqb_f h26
         have h26__ := neb_t h26
         have F28 := And.intro F24 (And.intro h26 (And.intro h26_ h26__))
         refine CF (by simp [F28] <;> omega) ?_
         refine AW.skip ?_
         refine hK202 _ _ _ ?_
         refine SQ [] [none] fun _ _ g r => ?_
         try simp [F28]
         and_intros <;> first | exact g _ (by kernel_rfl) | refine r _ _ _ ?_ | omega | (simp [maxLen, F28] <;> omega)
         refine WK [(2, AV.bool true)] [] 1 (by simp [F28]) (by simp [F28]) ?_
         simp only [Option.some.injEq] at hF
         subst hF
         refine AW.ret (hQ _ _ _ ?_ (matchO_0 ?_)).1
         ·simp [Try.f111, F28]
         ·simp [F28]
theorem w_ref03_PinsOK (k : Nat) (v0 : (List api_Pin)) (v1 : Bool) (hF : ref03_PinsOK k v0 = some v1) :
  FCall Try.prog 112 [AV.lst false false (List.map api_Pin.av v0)] [] (AV.bool v1) [] := by
 unfold ref03_PinsOK at hF
 refine EN Try.func112 ?_
 intro c0 w0 Q h0 hQ
 refine WK [(0, AV.lst false false (List.map api_Pin.av v0))] [] 0 (by simp) (by simp) ?_
 refine SQ [] [none] fun _ _ g r => ?_
 try simp
 and_intros <;> first | exact g _ (by kernel_rfl) | refine r _ _ _ ?_ | omega | (simp [maxLen] <;> omega)
 refine WK [(0, AV.lst false false (List.map api_Pin.av v0))] [] 0 (by simp) (by simp) ?_
 refine AW.seq fun K191 hK191 => ?_
 refine SQ [] [none] fun _ _ g r => ?_
 try simp
 and_intros <;> first | exact g _ (by kernel_rfl) | refine r _ _ _ ?_ | omega | (simp [maxLen] <;> omega)
 refine WK [(0, AV.lst false false (List.map api_Pin.av v0)), (3, Iz 0)] [] 0 (by simp) (by simp) ?_
 refine AW.block ?_
 refine AW.loopF (α := Int) (fun n v2 => ref03_PinsOK.L1 k v0 n v2 = some v1) (fun v2 => [(0, AV.lst false false (List.map api_Pin.av v0)), (3, Iz v2)]) (fun v2 => []) 0 k (0) hF (by simp) (by simp) (by simp) ?_
 rintro (_|n1) v2 hF K240 hK240
 ·try dsimp only at hF
  rw [ref03_PinsOK.L1] at hF; cases hF
 try dsimp only at hF
 rw [ref03_PinsOK.L1] at hF
 refine AW.seq fun K242 hK242 => ?_
 refine SQ [] [none, none, none, none] fun _ _ g r => ?_
 try simp
 and_intros <;> first | exact g _ (by kernel_rfl) | refine r _ _ _ ?_ | omega | (simp [maxLen] <;> omega)
 refine WK [(0, AV.lst false false (List.map api_Pin.av v0)), (3, Iz v2), (8, AV.bool (decide (v2 < (v0.length : Int))))] [] 0 (by simp) (by simp) ?_
 by_cases h1 : v2 < (v0.length : Int)
 ·replace hF := ite_t h1 hF
  have h1_ := h1
  try simp at h1_
  refine CT (by simp [h1, h1_] <;> omega) ?_
  refine AW.skip ?_
  refine hK242 _ _ _ ?_
  refine AW.seq fun K248 hK248 => ?_
  refine AW.block ?_
  refine SQ [] [none, none, none, none, none, none] fun _ _ g r => ?_
  obtain ⟨v3, h2, h3, h4, hF⟩ := idx_elim hF
  have h4_ := get_of h4
  try simp at h4_
  have h3_ := h3
  try simp at h3_
  have F1 := And.intro h1 (And.intro h1_ (And.intro h2 (And.intro h3 (And.intro h4 (And.intro h4_ h3_)))))
  try simp [F1]
  and_intros <;> first | exact g _ (by kernel_rfl) | refine r _ _ _ ?_ | omega | (simp [maxLen, F1] <;> omega)
  refine WK [(0, AV.lst false false (List.map api_Pin.av v0)), (3, Iz v2), (4, AV.ptr 0 0)] [(0, .cells [Iz v3.Author, Iz v3.Height, AV.str v3.Digest])] 1 (by simp [F1]) (by simp [F1]) ?_
  refine AW.midF (α := Bool) (fun v4 => ref03_PinsOK.J2 k v2 (fun v2_ => ref03_PinsOK.L1 k v0 n1 v2_) v4 = some v1) (fun v4 => [(0, AV.lst false false (List.map api_Pin.av v0)), (3, Iz v2), (49, AV.bool v4)]) (fun v4 => []) 0 (fun K253 hK253 => ?_) ?_
  ·refine RG [] [none, none, none, none, none, some (19, false), some (19, false), some (19, false), some (22, true), some (22, true), some (22, true), some (22, true), some (22, true), some (22, true), some (22, true), some (22, true), some (22, true), some (19, false), none, none, some (34, false), some (34, false), some (34, false), none, none, some (39, false), some (39, false), some (39, false), none, none, some (44, false), some (44, false), some (44, false), some (44, false), none] fun _ _ g r => ?_
   try simp [F1]
   and_intros
   try any_goals first | omega | (simp [maxLen, F1] <;> omega)
   obtain ⟨v5, h6, hF⟩ := bnd1_elim hF
   refine AC (w_ref03_key k _ _ h6) (.cons (.same (by simp [F1])) .nil) ?_
   by_cases h7 : (!v5) = true
   ·replace hF := ite_t h7 hF
    have h7_ := h7
    try simp at h7_
    have F2 := And.intro F1 (And.intro h7 h7_)
    try simp [F2]
    and_intros <;> first | exact g _ (by kernel_rfl) | refine r _ _ _ ?_ | omega | (simp [maxLen, F2] <;> omega)
    refine hK253 _ _ _ ?_
    refine RN h0 [] [(0, AV.lst false false (List.map api_Pin.av v0)), (3, Iz v2), (49, AV.bool true)] [] 0 (by simp [F2]) (by simp [F2]) ?_
    exact Can.join (true) hF (by simp [F2]) (by simp [F2]) (by simp)
   ·replace hF := ite_f h7 hF
    have h7_ := h7
    try simp at h7_
    by_cases h8 : 0 < v2
    ·replace hF := ite_t h8 hF
     have h8_ := h8
     try simp at h8_
     obtain ⟨v6, h9, h10, h11, hF⟩ := idx_elim hF
     have h11_ := get_of h11
     try simp at h11_
     have h10_ := h10
     try simp at h10_
     by_cases h12 : v3.Author ≤ v6.Author
     ·replace hF := ite_t h12 hF
      have h12_ := h12
      try simp at h12_
      have F3 := And.intro F1 (And.intro h7 (And.intro h7_ (And.intro h8 (And.intro h8_ (And.intro h9 (And.intro h10 (And.intro h11 (And.intro h11_ (And.intro h10_ (And.intro h12 h12_))))))))))
      try simp [F3]
      and_intros <;> first | exact g _ (by kernel_rfl) | refine r _ _ _ ?_ | omega | (simp [maxLen, F3] <;> omega)
      refine hK253 _ _ _ ?_
      refine RN h0 [] [(0, AV.lst false false (List.map api_Pin.av v0)), (3, Iz v2), (49, AV.bool true)] [] 0 (by simp [F3]) (by simp [F3]) ?_
      exact Can.join (true) hF (by simp [F3]) (by simp [F3]) (by simp)
     ·replace hF := ite_f h12 hF
      have h12_ := h12
      try simp at h12_
      by_cases h13 : v3.Height < 1
      ·replace hF := ite_t h13 hF
       have h13_ := h13
       try simp at h13_
       have F4 := And.intro F1 (And.intro h7 (And.intro h7_ (And.intro h8 (And.intro h8_ (And.intro h9 (And.intro h10 (And.intro h11 (And.intro h11_ (And.intro h10_ (And.intro h12 (And.intro h12_ (And.intro h13 h13_))))))))))))
       try simp [F4]
       and_intros <;> first | exact g _ (by kernel_rfl) | refine r _ _ _ ?_ | omega | (simp [maxLen, F4] <;> omega)
       refine hK253 _ _ _ ?_
       refine RN h0 [] [(0, AV.lst false false (List.map api_Pin.av v0)), (3, Iz v2), (49, AV.bool true)] [] 0 (by simp [F4]) (by simp [F4]) ?_
       exact Can.join (true) hF (by simp [F4]) (by simp [F4]) (by simp)
      ·replace hF := ite_f h13 hF
       have h13_ := h13
       try simp at h13_
       by_cases h14 : 200 < v3.Height
       ·replace hF := ite_t h14 hF
        have h14_ := h14
        try simp at h14_
        have F5 := And.intro F1 (And.intro h7 (And.intro h7_ (And.intro h8 (And.intro h8_ (And.intro h9 (And.intro h10 (And.intro h11 (And.intro h11_ (And.intro h10_ (And.intro h12 (And.intro h12_ (And.intro h13 (And.intro h13_ (And.intro h14 h14_))))))))))))))
        try simp [F5]
        and_intros <;> first | exact g _ (by kernel_rfl) | refine r _ _ _ ?_ | omega | (simp [maxLen, F5] <;> omega)
        refine hK253 _ _ _ ?_
        refine RN h0 [] [(0, AV.lst false false (List.map api_Pin.av v0)), (3, Iz v2), (49, AV.bool true)] [] 0 (by simp [F5]) (by simp [F5]) ?_
        exact Can.join (true) hF (by simp [F5]) (by simp [F5]) (by simp)
       ·replace hF := ite_f h14 hF
        have h14_ := h14
        try simp at h14_
        have F6 := And.intro F1 (And.intro h7 (And.intro h7_ (And.intro h8 (And.intro h8_ (And.intro h9 (And.intro h10 (And.intro h11 (And.intro h11_ (And.intro h10_ (And.intro h12 (And.intro h12_ (And.intro h13 (And.intro h13_ (And.intro h14 h14_))))))))))))))
        try simp [F6]
        and_intros <;> first | exact g _ (by kernel_rfl) | refine r _ _ _ ?_ | omega | (simp [maxLen, F6] <;> omega)
        refine hK253 _ _ _ ?_
        refine RN h0 [] [(0, AV.lst false false (List.map api_Pin.av v0)), (3, Iz v2), (49, AV.bool ((v3.Digest.size : Int) != 32))] [] 0 (by simp [F6]) (by simp [F6]) ?_
        exact Can.join (((v3.Digest.size : Int) != 32)) hF (by simp [F6]) (by simp [F6]) (by simp)
    ·replace hF := ite_f h8 hF
     have h8_ := h8
     try simp at h8_
     by_cases h15 : v3.Height < 1
     ·replace hF := ite_t h15 hF
      have h15_ := h15
      try simp at h15_
      have F7 := And.intro F1 (And.intro h7 (And.intro h7_ (And.intro h8 (And.intro h8_ (And.intro h15 h15_)))))
      try simp [F7]
      and_intros <;> first | exact g _ (by kernel_rfl) | refine r _ _ _ ?_ | omega | (simp [maxLen, F7] <;> omega)
      refine hK253 _ _ _ ?_
      refine RN h0 [] [(0, AV.lst false false (List.map api_Pin.av v0)), (3, Iz v2), (49, AV.bool true)] [] 0 (by simp [F7]) (by simp [F7]) ?_
      exact Can.join (true) hF (by simp [F7]) (by simp [F7]) (by simp)
     ·replace hF := ite_f h15 hF
      have h15_ := h15
      try simp at h15_
      by_cases h16 : 200 < v3.Height
      ·replace hF := ite_t h16 hF
       have h16_ := h16
       try simp at h16_
       have F8 := And.intro F1 (And.intro h7 (And.intro h7_ (And.intro h8 (And.intro h8_ (And.intro h15 (And.intro h15_ (And.intro h16 h16_)))))))
       try simp [F8]
       and_intros <;> first | exact g _ (by kernel_rfl) | refine r _ _ _ ?_ | omega | (simp [maxLen, F8] <;> omega)
       refine hK253 _ _ _ ?_
       refine RN h0 [] [(0, AV.lst false false (List.map api_Pin.av v0)), (3, Iz v2), (49, AV.bool true)] [] 0 (by simp [F8]) (by simp [F8]) ?_
       exact Can.join (true) hF (by simp [F8]) (by simp [F8]) (by simp)
      ·replace hF := ite_f h16 hF
       have h16_ := h16
       try simp at h16_
       have F9 := And.intro F1 (And.intro h7 (And.intro h7_ (And.intro h8 (And.intro h8_ (And.intro h15 (And.intro h15_ (And.intro h16 h16_)))))))
       try simp [F9]
       and_intros <;> first | exact g _ (by kernel_rfl) | refine r _ _ _ ?_ | omega | (simp [maxLen, F9] <;> omega)
       refine hK253 _ _ _ ?_
       refine RN h0 [] [(0, AV.lst false false (List.map api_Pin.av v0)), (3, Iz v2), (49, AV.bool ((v3.Digest.size : Int) != 32))] [] 0 (by simp [F9]) (by simp [F9]) ?_
       exact Can.join (((v3.Digest.size : Int) != 32)) hF (by simp [F9]) (by simp [F9]) (by simp)
  ·rintro v4 hF
   try dsimp only at hF
   unfold ref03_PinsOK.J2 at hF
   by_cases h5 : v4 = true
   ·replace hF := ite_t h5 hF
    have h5_ := h5
    try simp at h5_
    have F10 := And.intro F1 (And.intro h5 h5_)
    refine CT (by simp [F10] <;> omega) ?_
    refine SQ [] [none] fun _ _ g r => ?_
    try simp [F10]
    and_intros <;> first | exact g _ (by kernel_rfl) | refine r _ _ _ ?_ | omega | (simp [maxLen, F10] <;> omega)
    refine WK [(2, AV.bool false)] [] 0 (by simp [F10]) (by simp [F10]) ?_
    simp only [Option.some.injEq] at hF
    subst hF
    refine AW.ret (hQ _ _ _ ?_ (matchO_0 ?_)).1
    ·simp [Try.f112, F10]
    ·simp [F10]
   ·replace hF := ite_f h5 hF
    have h5_ := h5
    try simp at h5_
    have F11 := And.intro F1 (And.intro h5 h5_)
    refine CF (by simp [F11] <;> omega) ?_
    refine AW.skip ?_
    refine hK248 _ _ _ ?_
    refine RG [] [none, none, none] fun _ _ g r => ?_
    try simp [F11]
    and_intros <;> first | exact g _ (by kernel_rfl) | refine r _ _ _ ?_ | omega | (simp [maxLen, F11] <;> omega)
    refine hK240 _ _ _ ?_
    exact Can.next (k' := n1) (IntKind.wrap .i64 (v2 + 1)) (by omega) hF (by simp [F11]) (by simp [F11]) (by simp)
 ·replace hF := ite_f h1 hF
  have h1_ := h1
  try simp at h1_
  refine CF (by simp [h1, h1_] <;> omega) ?_
  refine AW.exit ?_
  try simp
  refine hK191 _ _ _ ?_
  refine SQ [] [none] fun _ _ g r => ?_
  try simp [h1, h1_]
  and_intros <;> first | exact g _ (by kernel_rfl) | refine r _ _ _ ?_ | omega | (simp [h1, h1_, maxLen] <;> omega)
  refine WK [(2, AV.bool true)] [] 0 (by simp [h1, h1_]) (by simp [h1, h1_]) ?_
  simp only [Option.some.injEq] at hF
  subst hF
  refine AW.ret (hQ _ _ _ ?_ (matchO_0 ?_)).1
  ·simp [Try.f112, h1, h1_]
  ·simp [h1, h1_]
abbrev c_ref03_Check (v0 : Int) (v1 : Int) (v2 : ByteArray) (v3 : Int) (v4 : Int) (v5 : Int) (v6 : Int) (v7 : Int) (v8 : (List Int)) (v9 : (List api_Pin)) (v10 : ByteArray) (v11 : Int) (v12 : ByteArray) : AObj := .cells [Iz v0, Iz v1, AV.str v2, Iz v3, Iz v4, Iz v5, Iz v6, Iz v7, Lz v8, AV.lst false false (List.map api_Pin.av v9), AV.str v10, Iz v11, AV.str v12]
theorem w_ref03_Check (k : Nat) (v0 : Int) (v1 : Int) (v2 : ByteArray) (v3 : Int) (v4 : Int) (v5 : Int) (v6 : Int) (v7 : Int) (v8 : (List Int)) (v9 : (List api_Pin)) (v10 : ByteArray) (v11 : Int) (v12 : ByteArray) (v13 : Int) (hF : ref03_Check k v0 v1 v2 v3 v4 v5 v6 v7 v8 v9 v10 v11 v12 = some v13) :
  FCall Try.prog 74 [AV.agg [AV.int .i64 v0, AV.int .i64 v1, AV.str v2, AV.int .i64 v3, AV.int .i64 v4, AV.int .i64 v5, AV.int .i64 v6, AV.int .i64 v7, AV.lst false false (List.map (AV.int .i64) v8), AV.lst false false (List.map api_Pin.av v9), AV.str v10, AV.int .i64 v11, AV.str v12]] [] (AV.int .i64 v13) [] := by
 unfold ref03_Check at hF
 refine EN Try.func74 ?_
 intro c0 w0 Q h0 hQ
 refine WK [(0, AV.agg [Iz v0, Iz v1, AV.str v2, Iz v3, Iz v4, Iz v5, Iz v6, Iz v7, Lz v8, AV.lst false false (List.map api_Pin.av v9), AV.str v10, Iz v11, AV.str v12])] [] 0 (by simp) (by simp) ?_
 refine SQ [] [none, none] fun _ _ g r => ?_
 try simp
 and_intros <;> first | exact g _ (by kernel_rfl) | refine r _ _ _ ?_ | omega | (simp [maxLen] <;> omega)
 refine WK [(1, AV.ptr 0 0)] [(0, c_ref03_Check v0 v1 v2 v3 v4 v5 v6 v7 v8 v9 v10 v11 v12)] 1 (by simp) (by simp) ?_
 refine AW.midF (α := Unit) (fun _ => ref03_Check.J1 k = some v13) (fun _ => []) (fun _ => []) 0 (fun K66 hK66 => ?_) ?_
 ·refine AW.block ?_
  refine SQ [] [none, none, none, none, none] fun _ _ g r => ?_
  try simp
  and_intros
  try any_goals first | omega | (simp [maxLen] <;> omega)
  obtain ⟨v14, h1, hF⟩ := bnd1_elim hF
  refine AC (w_ref03_key k _ _ h1) (.cons (.same (by simp)) .nil) ?_
  try simp
  and_intros <;> first | exact g _ (by kernel_rfl) | refine r _ _ _ ?_ | omega | (simp [maxLen] <;> omega)
  refine WK [(1, AV.ptr 0 0), (3, AV.bool (!v14))] [(0, c_ref03_Check v0 v1 v2 v3 v4 v5 v6 v7 v8 v9 v10 v11 v12)] 1 (by simp) (by simp) ?_
  by_cases h2 : (!v14) = true
  ·replace hF := ite_t h2 hF
   have h2_ := h2
   try simp at h2_
   refine CT (by simp [h2, h2_] <;> omega) ?_
   refine SQ [] [none] fun _ _ g r => ?_
   try simp [h2, h2_]
   and_intros <;> first | exact g _ (by kernel_rfl) | refine r _ _ _ ?_ | omega | (simp [h2, h2_, maxLen] <;> omega)
   refine WK [(2, Iz 4)] [] 1 (by simp [h2, h2_]) (by simp [h2, h2_]) ?_
   simp only [Option.some.injEq] at hF
   subst hF
   refine AW.ret (hQ _ _ _ ?_ (matchO_0 ?_)).1
   ·simp [Try.f74, h2, h2_]
   ·simp [h2, h2_]
  ·replace hF := ite_f h2 hF
   have h2_ := h2
   try simp at h2_
   refine CF (by simp [h2, h2_] <;> omega) ?_
   refine AW.midF (α := Bool) (fun v15 => ref03_Check.J2 k v0 v1 v2 v3 v4 v5 v6 v7 v8 v9 v10 v11 v12 v15 = some v13) (fun v15 => [(1, AV.ptr 0 0), (8, AV.bool v15)]) (fun v15 => [(0, c_ref03_Check v0 v1 v2 v3 v4 v5 v6 v7 v8 v9 v10 v11 v12)]) 1 (fun K86 hK86 => ?_) ?_
   ·refine RG [] [none, none, none, none, some (12, false), some (12, false), some (12, false), some (12, false), some (16, true), some (16, true), some (16, true), some (12, false), none, none, some (22, false), some (22, false), some (22, false), none, none] fun _ _ g r => ?_
    by_cases h24 : v4 < 1
    ·replace hF := ite_t h24 hF
     have h24_ := h24
     try simp at h24_
     have F1 := And.intro h2 (And.intro h2_ (And.intro h24 h24_))
     try simp [F1]
     and_intros <;> first | exact g _ (by kernel_rfl) | refine r _ _ _ ?_ | omega | (simp [maxLen, F1] <;> omega)
     refine hK86 _ _ _ ?_
     exact Can.join (true) hF (by simp [F1]) (by simp [F1]) (by simp)
    ·replace hF := ite_f h24 hF
     have h24_ := h24
     try simp at h24_
     by_cases h25 : 3 < v4
     ·replace hF := ite_t h25 hF
      have h25_ := h25
      try simp at h25_
      by_cases h26 : v4 < 10
      ·replace hF := ite_t h26 hF
       have h26_ := h26
       try simp at h26_
       have F2 := And.intro h2 (And.intro h2_ (And.intro h24 (And.intro h24_ (And.intro h25 (And.intro h25_ (And.intro h26 h26_))))))
       try simp [F2]
       and_intros <;> first | exact g _ (by kernel_rfl) | refine r _ _ _ ?_ | omega | (simp [maxLen, F2] <;> omega)
       refine hK86 _ _ _ ?_
       exact Can.join (true) hF (by simp [F2]) (by simp [F2]) (by simp)
      ·replace hF := ite_f h26 hF
       have h26_ := h26
       try simp at h26_
       have F3 := And.intro h2 (And.intro h2_ (And.intro h24 (And.intro h24_ (And.intro h25 (And.intro h25_ (And.intro h26 h26_))))))
       try simp [F3]
       and_intros <;> first | exact g _ (by kernel_rfl) | refine r _ _ _ ?_ | omega | (simp [maxLen, F3] <;> omega)
       refine hK86 _ _ _ ?_
       exact Can.join ((decide (31 < v4))) hF (by simp [F3]) (by simp [F3]) (by simp)
     ·replace hF := ite_f h25 hF
      have h25_ := h25
      try simp at h25_
      have F4 := And.intro h2 (And.intro h2_ (And.intro h24 (And.intro h24_ (And.intro h25 h25_))))
      try simp [F4]
      and_intros <;> first | exact g _ (by kernel_rfl) | refine r _ _ _ ?_ | omega | (simp [maxLen, F4] <;> omega)
      refine hK86 _ _ _ ?_
      exact Can.join ((decide (31 < v4))) hF (by simp [F4]) (by simp [F4]) (by simp)
   ·rintro v15 hF
    try dsimp only at hF
    unfold ref03_Check.J2 at hF
    by_cases h3 : v15 = true
    ·replace hF := ite_t h3 hF
     have h3_ := h3
     try simp at h3_
     have F5 := And.intro h2 (And.intro h2_ (And.intro h3 h3_))
     refine CT (by simp [F5] <;> omega) ?_
     refine SQ [] [none] fun _ _ g r => ?_
     try simp [F5]
     and_intros <;> first | exact g _ (by kernel_rfl) | refine r _ _ _ ?_ | omega | (simp [maxLen, F5] <;> omega)
     refine WK [(2, Iz 5)] [] 1 (by simp [F5]) (by simp [F5]) ?_
     simp only [Option.some.injEq] at hF
     subst hF
     refine AW.ret (hQ _ _ _ ?_ (matchO_0 ?_)).1
     ·simp [Try.f74, F5]
     ·simp [F5]
    ·replace hF := ite_f h3 hF
     have h3_ := h3
     try simp at h3_
     have F6 := And.intro h2 (And.intro h2_ (And.intro h3 h3_))
     refine CF (by simp [F6] <;> omega) ?_
     refine SQ [] [none, none, none, none, none] fun _ _ g r => ?_
     try simp [F6]
     and_intros
     try any_goals first | omega | (simp [maxLen, F6] <;> omega)
     obtain ⟨v16, h4, hF⟩ := bnd1_elim hF
     refine AC (w_ref03_in k _ _ _ h4) (.cons (.same (by simp [F6])) (.cons (.same (by simp [F6])) .nil)) ?_
     try simp [F6]
     and_intros <;> first | exact g _ (by kernel_rfl) | refine r _ _ _ ?_ | omega | (simp [maxLen, F6] <;> omega)
     refine WK [(1, AV.ptr 0 0), (27, AV.bool (!v16))] [(0, c_ref03_Check v0 v1 v2 v3 v4 v5 v6 v7 v8 v9 v10 v11 v12)] 1 (by simp [F6]) (by simp [F6]) ?_
     by_cases h5 : (!v16) = true
     ·replace hF := ite_t h5 hF
      have h5_ := h5
      try simp at h5_
      have F7 := And.intro F6 (And.intro h5 h5_)
      refine CT (by simp [F7] <;> omega) ?_
      refine SQ [] [none] fun _ _ g r => ?_
      try simp [F7]
      and_intros <;> first | exact g _ (by kernel_rfl) | refine r _ _ _ ?_ | omega | (simp [maxLen, F7] <;> omega)
      refine WK [(2, Iz 9)] [] 1 (by simp [F7]) (by simp [F7]) ?_
      simp only [Option.some.injEq] at hF
      subst hF
      refine AW.ret (hQ _ _ _ ?_ (matchO_0 ?_)).1
      ·simp [Try.f74, F7]
      ·simp [F7]
     ·replace hF := ite_f h5 hF
      have h5_ := h5
      try simp at h5_
      have F8 := And.intro F6 (And.intro h5 h5_)
      refine CF (by simp [F8] <;> omega) ?_
      refine SQ [] [none, none, none, none] fun _ _ g r => ?_
      try simp [F8]
      and_intros
      try any_goals first | omega | (simp [maxLen, F8] <;> omega)
      obtain ⟨v17, h6, hF⟩ := bnd1_elim hF
      refine AC (w_ref03_numbers k _ _ _ _ _ _ _ _ _ _ _ _ _ _ h6) (.cons (.same (by simp [F8])) .nil) ?_
      try simp [F8]
      and_intros <;> first | exact g _ (by kernel_rfl) | refine r _ _ _ ?_ | omega | (simp [maxLen, F8] <;> omega)
      refine WK [(1, AV.ptr 0 0), (32, AV.bool (!v17))] [(0, c_ref03_Check v0 v1 v2 v3 v4 v5 v6 v7 v8 v9 v10 v11 v12)] 1 (by simp [F8]) (by simp [F8]) ?_
      by_cases h7 : (!v17) = true
      ·replace hF := ite_t h7 hF
       have h7_ := h7
       try simp at h7_
       have F9 := And.intro F8 (And.intro h7 h7_)
       refine CT (by simp [F9] <;> omega) ?_
       refine SQ [] [none] fun _ _ g r => ?_
       try simp [F9]
       and_intros <;> first | exact g _ (by kernel_rfl) | refine r _ _ _ ?_ | omega | (simp [maxLen, F9] <;> omega)
       refine WK [(2, Iz 2)] [] 1 (by simp [F9]) (by simp [F9]) ?_
       simp only [Option.some.injEq] at hF
       subst hF
       refine AW.ret (hQ _ _ _ ?_ (matchO_0 ?_)).1
       ·simp [Try.f74, F9]
       ·simp [F9]
      ·replace hF := ite_f h7 hF
       have h7_ := h7
       try simp at h7_
       have F10 := And.intro F8 (And.intro h7 h7_)
       refine CF (by simp [F10] <;> omega) ?_
       refine SQ [] [none, none, none, none, none, some (41, false), some (41, false), some (41, false), some (41, false), none, none, some (47, false), some (47, false), some (47, false), some (47, false), none, none] fun _ _ g r => ?_
       by_cases h8 : 64 < (v8.length : Int)
       ·replace hF := ite_t h8 hF
        have h8_ := h8
        try simp at h8_
        have F11 := And.intro F10 (And.intro h8 h8_)
        try simp [F11]
        and_intros <;> first | exact g _ (by kernel_rfl) | refine r _ _ _ ?_ | omega | (simp [maxLen, F11] <;> omega)
        refine WK [(1, AV.ptr 0 0), (36, AV.bool true)] [(0, c_ref03_Check v0 v1 v2 v3 v4 v5 v6 v7 v8 v9 v10 v11 v12)] 1 (by simp [F11]) (by simp [F11]) ?_
        refine CT (by simp [F11]) ?_
        refine SQ [] [none] fun _ _ g r => ?_
        try simp [F11]
        and_intros <;> first | exact g _ (by kernel_rfl) | refine r _ _ _ ?_ | omega | (simp [maxLen, F11] <;> omega)
        refine WK [(2, Iz 3)] [] 1 (by simp [F11]) (by simp [F11]) ?_
        simp only [Option.some.injEq] at hF
        subst hF
        refine AW.ret (hQ _ _ _ ?_ (matchO_0 ?_)).1
        ·simp [Try.f74, F11]
        ·simp [F11]
       ·replace hF := ite_f h8 hF
        have h8_ := h8
        try simp at h8_
        by_cases h9 : 64 < (v9.length : Int)
        ·replace hF := ite_t h9 hF
         have h9_ := h9
         try simp at h9_
         have F12 := And.intro F10 (And.intro h8 (And.intro h8_ (And.intro h9 h9_)))
         try simp [F12]
         and_intros <;> first | exact g _ (by kernel_rfl) | refine r _ _ _ ?_ | omega | (simp [maxLen, F12] <;> omega)
         refine WK [(1, AV.ptr 0 0), (36, AV.bool true)] [(0, c_ref03_Check v0 v1 v2 v3 v4 v5 v6 v7 v8 v9 v10 v11 v12)] 1 (by simp [F12]) (by simp [F12]) ?_
         refine CT (by simp [F12]) ?_
         refine SQ [] [none] fun _ _ g r => ?_
         try simp [F12]
         and_intros <;> first | exact g _ (by kernel_rfl) | refine r _ _ _ ?_ | omega | (simp [maxLen, F12] <;> omega)
         refine WK [(2, Iz 3)] [] 1 (by simp [F12]) (by simp [F12]) ?_
         simp only [Option.some.injEq] at hF
         subst hF
         refine AW.ret (hQ _ _ _ ?_ (matchO_0 ?_)).1
         ·simp [Try.f74, F12]
         ·simp [F12]
        ·replace hF := ite_f h9 hF
         have h9_ := h9
         try simp at h9_
         have F13 := And.intro F10 (And.intro h8 (And.intro h8_ (And.intro h9 h9_)))
         try simp [F13]
         and_intros <;> first | exact g _ (by kernel_rfl) | refine r _ _ _ ?_ | omega | (simp [maxLen, F13] <;> omega)
         refine WK [(1, AV.ptr 0 0), (36, AV.bool (decide (4096 < (v10.size : Int))))] [(0, c_ref03_Check v0 v1 v2 v3 v4 v5 v6 v7 v8 v9 v10 v11 v12)] 1 (by simp [F13]) (by simp [F13]) ?_
         by_cases h10 : 4096 < (v10.size : Int)
         ·replace hF := ite_t h10 hF
          have h10_ := h10
          try simp at h10_
          have F14 := And.intro F13 (And.intro h10 h10_)
          refine CT (by simp [F14] <;> omega) ?_
          refine SQ [] [none] fun _ _ g r => ?_
          try simp [F14]
          and_intros <;> first | exact g _ (by kernel_rfl) | refine r _ _ _ ?_ | omega | (simp [maxLen, F14] <;> omega)
          refine WK [(2, Iz 3)] [] 1 (by simp [F14]) (by simp [F14]) ?_
          simp only [Option.some.injEq] at hF
          subst hF
          refine AW.ret (hQ _ _ _ ?_ (matchO_0 ?_)).1
          ·simp [Try.f74, F14]
          ·simp [F14]
         ·replace hF := ite_f h10 hF
          have h10_ := h10
          try simp at h10_
          have F15 := And.intro F13 (And.intro h10 h10_)
          refine CF (by simp [F15] <;> omega) ?_
          refine AW.midF (α := Bool) (fun v18 => ref03_Check.J3 k v4 v8 v9 v10 v18 = some v13) (fun v18 => [(1, AV.ptr 0 0), (53, AV.bool v18)]) (fun v18 => [(0, c_ref03_Check v0 v1 v2 v3 v4 v5 v6 v7 v8 v9 v10 v11 v12)]) 1 (fun K85 hK85 => ?_) ?_
          ·refine RG [] [none, none, none, none, some (57, true), some (57, true), some (57, true), none, none, some (62, false), some (62, false), some (62, false), some (62, false), some (66, true), some (66, true), some (66, true), some (66, true), some (62, false), none, none, some (73, false), some (73, false), some (73, false), some (73, false), none, none] fun _ _ g r => ?_
           by_cases h16 : v1 = 0
           ·replace hF := ite_t h16 hF
            have h16q : v1 = 0 := h16
            have h16_ := eqb_t h16q
            have h16__ := neb_f h16q
            by_cases h17 : (!strEq v2 (ByteArray.mk #[])) = true
            ·replace hF := ite_t h17 hF
             have h17_ := h17
             try simp at h17_
             have F16 := And.intro F15 (And.intro h16_ (And.intro h16__ (And.intro h16q (And.intro h17 h17_))))
             try simp [F16]
             and_intros <;> first | exact g _ (by kernel_rfl) | refine r _ _ _ ?_ | omega | (simp [maxLen, F16] <;> omega)
             refine hK85 _ _ _ ?_
             exact Can.join (true) hF (by simp [F16]) (by simp [F16]) (by simp)
            ·replace hF := ite_f h17 hF
             have h17_ := h17
             try simp at h17_
             by_cases h18 : 0 < v1
             ·replace hF := ite_t h18 hF
              have h18_ := h18
              try simp at h18_
              cases hF
             ·replace hF := ite_f h18 hF
              have h18_ := h18
              try simp at h18_
              have F17 := And.intro F15 (And.intro h16_ (And.intro h16__ (And.intro h16q (And.intro h17 (And.intro h17_ (And.intro h18 h18_))))))
              try simp [F17]
              and_intros
              try any_goals first | omega | (simp [maxLen, F17] <;> omega)
              obtain ⟨v19, h19, hF⟩ := bnd1_elim hF
              refine AC (w_ref03_PinsOK k _ _ h19) (.cons (.same (by simp [F17])) .nil) ?_
              try simp [F17]
              and_intros <;> first | exact g _ (by kernel_rfl) | refine r _ _ _ ?_ | omega | (simp [maxLen, F17] <;> omega)
              refine hK85 _ _ _ ?_
              exact Can.join ((!v19)) hF (by simp [F17]) (by simp [F17]) (by simp)
           ·replace hF := ite_f h16 hF
            have h16_ := eqb_f h16
            have h16__ := neb_t h16
            by_cases h20 : 0 < v1
            ·replace hF := ite_t h20 hF
             have h20_ := h20
             try simp at h20_
             by_cases h21 : (v2.size : Int) ≠ 32
             ·replace hF := ite_t h21 hF
              have h21_ := eqb_f h21
              have h21__ := neb_t h21
              have F18 := And.intro F15 (And.intro h16 (And.intro h16_ (And.intro h16__ (And.intro h20 (And.intro h20_ (And.intro h21 (And.intro h21_ h21__)))))))
              try simp [F18]
              and_intros <;> first | exact g _ (by kernel_rfl) | refine r _ _ _ ?_ | omega | (simp [maxLen, F18] <;> omega)
              refine hK85 _ _ _ ?_
              exact Can.join (true) hF (by simp [F18]) (by simp [F18]) (by simp)
             ·replace hF := ite_f h21 hF
              have h21q : (v2.size : Int) = 32 := Classical.not_not.1 h21
              have h21_ := eqb_t h21q
              have h21__ := neb_f h21q
              have F19 := And.intro F15 (And.intro h16 (And.intro h16_ (And.intro h16__ (And.intro h20 (And.intro h20_ (And.intro h21_ (And.intro h21__ h21q)))))))
              try simp [F19]
              and_intros
              try any_goals first | omega | (simp [maxLen, F19] <;> omega)
              obtain ⟨v20, h22, hF⟩ := bnd1_elim hF
              refine AC (w_ref03_PinsOK k _ _ h22) (.cons (.same (by simp [F19])) .nil) ?_
              try simp [F19]
              and_intros <;> first | exact g _ (by kernel_rfl) | refine r _ _ _ ?_ | omega | (simp [maxLen, F19] <;> omega)
              refine hK85 _ _ _ ?_
              exact Can.join ((!v20)) hF (by simp [F19]) (by simp [F19]) (by simp)
            ·replace hF := ite_f h20 hF
             have h20_ := h20
             try simp at h20_
             have F20 := And.intro F15 (And.intro h16 (And.intro h16_ (And.intro h16__ (And.intro h20 h20_))))
             try simp [F20]
             and_intros
             try any_goals first | omega | (simp [maxLen, F20] <;> omega)
             obtain ⟨v21, h23, hF⟩ := bnd1_elim hF
             refine AC (w_ref03_PinsOK k _ _ h23) (.cons (.same (by simp [F20])) .nil) ?_
             try simp [F20]
             and_intros <;> first | exact g _ (by kernel_rfl) | refine r _ _ _ ?_ | omega | (simp [maxLen, F20] <;> omega)
             refine hK85 _ _ _ ?_
             exact Can.join ((!v21)) hF (by simp [F20]) (by simp [F20]) (by simp)
          ·rintro v18 hF
           try dsimp only at hF
           unfold ref03_Check.J3 at hF
           by_cases h11 : v18 = true
           ·replace hF := ite_t h11 hF
            have h11_ := h11
            try simp at h11_
            have F21 := And.intro F15 (And.intro h11 h11_)
            refine CT (by simp [F21] <;> omega) ?_
            refine SQ [] [none] fun _ _ g r => ?_
            try simp [F21]
            and_intros <;> first | exact g _ (by kernel_rfl) | refine r _ _ _ ?_ | omega | (simp [maxLen, F21] <;> omega)
            refine WK [(2, Iz 1)] [] 1 (by simp [F21]) (by simp [F21]) ?_
            simp only [Option.some.injEq] at hF
            subst hF
            refine AW.ret (hQ _ _ _ ?_ (matchO_0 ?_)).1
            ·simp [Try.f74, F21]
            ·simp [F21]
           ·replace hF := ite_f h11 hF
            have h11_ := h11
            try simp at h11_
            have F22 := And.intro F15 (And.intro h11 h11_)
            refine CF (by simp [F22] <;> omega) ?_
            refine SQ [] [none, none, none, none, some (83, true), some (83, true), some (83, true), some (83, true), some (83, true), some (88, false), some (88, false), some (88, false), some (88, false), some (83, true), some (83, true), some (94, false), some (94, false), some (94, false), some (83, true), none, none] fun _ _ g r => ?_
            by_cases h12 : v4 ≤ 3
            ·replace hF := ite_t h12 hF
             have h12_ := h12
             try simp at h12_
             by_cases h13 : 0 < (v8.length : Int)
             ·replace hF := ite_t h13 hF
              have h13_ := h13
              try simp at h13_
              have F23 := And.intro F22 (And.intro h12 (And.intro h12_ (And.intro h13 h13_)))
              try simp [F23]
              and_intros <;> first | exact g _ (by kernel_rfl) | refine r _ _ _ ?_ | omega | (simp [maxLen, F23] <;> omega)
              refine WK [(79, AV.bool true)] [] 1 (by simp [F23]) (by simp [F23]) ?_
              refine CT (by simp [F23]) ?_
              refine SQ [] [none] fun _ _ g r => ?_
              try simp [F23]
              and_intros <;> first | exact g _ (by kernel_rfl) | refine r _ _ _ ?_ | omega | (simp [maxLen, F23] <;> omega)
              refine WK [(2, Iz 1)] [] 1 (by simp [F23]) (by simp [F23]) ?_
              simp only [Option.some.injEq] at hF
              subst hF
              refine AW.ret (hQ _ _ _ ?_ (matchO_0 ?_)).1
              ·simp [Try.f74, F23]
              ·simp [F23]
             ·replace hF := ite_f h13 hF
              have h13_ := h13
              try simp at h13_
              by_cases h14 : 0 < (v9.length : Int)
              ·replace hF := ite_t h14 hF
               have h14_ := h14
               try simp at h14_
               have F24 := And.intro F22 (And.intro h12 (And.intro h12_ (And.intro h13 (And.intro h13_ (And.intro h14 h14_)))))
               try simp [F24]
               and_intros <;> first | exact g _ (by kernel_rfl) | refine r _ _ _ ?_ | omega | (simp [maxLen, F24] <;> omega)
               refine WK [(79, AV.bool true)] [] 1 (by simp [F24]) (by simp [F24]) ?_
               refine CT (by simp [F24]) ?_
               refine SQ [] [none] fun _ _ g r => ?_
               try simp [F24]
               and_intros <;> first | exact g _ (by kernel_rfl) | refine r _ _ _ ?_ | omega | (simp [maxLen, F24] <;> omega)
               refine WK [(2, Iz 1)] [] 1 (by simp [F24]) (by simp [F24]) ?_
               simp only [Option.some.injEq] at hF
               subst hF
               refine AW.ret (hQ _ _ _ ?_ (matchO_0 ?_)).1
               ·simp [Try.f74, F24]
               ·simp [F24]
              ·replace hF := ite_f h14 hF
               have h14_ := h14
               try simp at h14_
               have F25 := And.intro F22 (And.intro h12 (And.intro h12_ (And.intro h13 (And.intro h13_ (And.intro h14 h14_)))))
               try simp [F25]
               and_intros <;> first | exact g _ (by kernel_rfl) | refine r _ _ _ ?_ | omega | (simp [maxLen, F25] <;> omega)
               refine WK [(79, AV.bool (!strEq v10 (ByteArray.mk #[])))] [] 1 (by simp [F25]) (by simp [F25]) ?_
               by_cases h15 : (!strEq v10 (ByteArray.mk #[])) = true
               ·replace hF := ite_t h15 hF
                have h15_ := h15
                try simp at h15_
                have F26 := And.intro F25 (And.intro h15 h15_)
                refine CT (by simp [F26] <;> omega) ?_
                refine SQ [] [none] fun _ _ g r => ?_
                try simp [F26]
                and_intros <;> first | exact g _ (by kernel_rfl) | refine r _ _ _ ?_ | omega | (simp [maxLen, F26] <;> omega)
                refine WK [(2, Iz 1)] [] 1 (by simp [F26]) (by simp [F26]) ?_
                simp only [Option.some.injEq] at hF
                subst hF
                refine AW.ret (hQ _ _ _ ?_ (matchO_0 ?_)).1
                ·simp [Try.f74, F26]
                ·simp [F26]
               ·replace hF := ite_f h15 hF
                have h15_ := h15
                try simp at h15_
                have F27 := And.intro F25 (And.intro h15 h15_)
                refine CF (by simp [F27] <;> omega) ?_
                refine AW.skip ?_
                refine hK66 _ _ _ ?_
                refine RN h0 [] [] [] 0 (by simp [F27]) (by simp [F27]) ?_
                exact Can.join (()) hF (by simp [F27]) (by simp [F27]) (by simp)
            ·replace hF := ite_f h12 hF
             have h12_ := h12
             try simp at h12_
             have F28 := And.intro F22 (And.intro h12 h12_)
             try simp [F28]
             and_intros <;> first | exact g _ (by kernel_rfl) | refine r _ _ _ ?_ | omega | (simp [maxLen, F28] <;> omega)
             refine WK [(79, AV.bool false)] [] 1 (by simp [F28]) (by simp [F28]) ?_
             refine CF (by simp [F28]) ?_
             refine AW.skip ?_
             refine hK66 _ _ _ ?_
             refine RN h0 [] [] [] 0 (by simp [F28]) (by simp [F28]) ?_
             exact Can.join (()) hF (by simp [F28]) (by simp [F28]) (by simp)
 ·rintro ⟨⟩ hF
  try dsimp only at hF
  unfold ref03_Check.J1 at hF
  refine SQ [] [none] fun _ _ g r => ?_
  try simp
  and_intros <;> first | exact g _ (by kernel_rfl) | refine r _ _ _ ?_ | omega | (simp [maxLen] <;> omega)
  refine WK [(2, Iz 0)] [] 0 (by simp) (by simp) ?_
  simp only [Option.some.injEq] at hF
  subst hF
  refine AW.ret (hQ _ _ _ ?_ (matchO_0 ?_)).1
  ·simp [Try.f74]
  ·simp
theorem w_ref03_Sealed (k : Nat) (v0 : Int) (v1 : Int) (v2 : ByteArray) (v3 : Int) (v4 : Int) (v5 : Int) (v6 : Int) (v7 : Int) (v8 : (List Int)) (v9 : (List api_Pin)) (v10 : ByteArray) (v11 : Int) (v12 : ByteArray) (v13 : Bool) (hF : ref03_Sealed k v0 v1 v2 v3 v4 v5 v6 v7 v8 v9 v10 v11 v12 = some v13) :
  FCall Try.prog 75 [AV.agg [AV.int .i64 v0, AV.int .i64 v1, AV.str v2, AV.int .i64 v3, AV.int .i64 v4, AV.int .i64 v5, AV.int .i64 v6, AV.int .i64 v7, AV.lst false false (List.map (AV.int .i64) v8), AV.lst false false (List.map api_Pin.av v9), AV.str v10, AV.int .i64 v11, AV.str v12]] [] (AV.bool v13) [] := by
 unfold ref03_Sealed at hF
 refine EN Try.func75 ?_
 intro c0 w0 Q h0 hQ
 refine WK [(0, AV.agg [Iz v0, Iz v1, AV.str v2, Iz v3, Iz v4, Iz v5, Iz v6, Iz v7, Lz v8, AV.lst false false (List.map api_Pin.av v9), AV.str v10, Iz v11, AV.str v12])] [] 0 (by simp) (by simp) ?_
 refine SQ [] [none, none] fun _ _ g r => ?_
 try simp
 and_intros <;> first | exact g _ (by kernel_rfl) | refine r _ _ _ ?_ | omega | (simp [maxLen] <;> omega)
 refine WK [(1, AV.ptr 0 0)] [(0, .cells [Iz v0, Iz v1, AV.str v2, Iz v3, Iz v4, Iz v5, Iz v6, Iz v7, Lz v8, AV.lst false false (List.map api_Pin.av v9), AV.str v10, Iz v11, AV.str v12])] 1 (by simp) (by simp) ?_
 refine SQ [] [none, none, none, none, none, none, none, some (9, true), some (9, true), some (9, true), some (9, true), some (9, true), some (9, true), none, none] fun _ _ g r => ?_
 by_cases h1 : v11 = v0
 ·replace hF := ite_t h1 hF
  have h1q : v11 = v0 := h1
  have h1_ := eqb_t h1q
  have h1__ := neb_f h1q
  try simp [h1_, h1__]
  and_intros
  try any_goals first | omega | (simp [h1_, h1__, maxLen] <;> omega)
  obtain ⟨v14, h2, hF⟩ := bnd1_elim hF
  refine AC (w_ref03_Digest k _ _ _ _ _ _ _ _ _ _ _ _ _ _ h2) (.cons (.same (by simp [h1_, h1__])) .nil) ?_
  try simp [h1_, h1__]
  and_intros <;> first | exact g _ (by kernel_rfl) | refine r _ _ _ ?_ | omega | (simp [h1_, h1__, maxLen] <;> omega)
  refine WK [(2, AV.bool (strEq v12 v14))] [] 1 (by simp [h1_, h1__]) (by simp [h1_, h1__]) ?_
  simp only [Option.some.injEq] at hF
  subst hF
  refine AW.ret (hQ _ _ _ ?_ (matchO_0 ?_)).1
  ·simp [Try.f75, h1_, h1__]
  ·simp [h1_, h1__]
 ·replace hF := ite_f h1 hF
  have h1_ := eqb_f h1
  have h1__ := neb_t h1
  have F1 := And.intro h1 (And.intro h1_ h1__)
  try simp [F1]
  and_intros <;> first | exact g _ (by kernel_rfl) | refine r _ _ _ ?_ | omega | (simp [maxLen, F1] <;> omega)
  refine WK [(2, AV.bool false)] [] 1 (by simp [F1]) (by simp [F1]) ?_
  simp only [Option.some.injEq] at hF
  subst hF
  refine AW.ret (hQ _ _ _ ?_ (matchO_0 ?_)).1
  ·simp [Try.f75, F1]
  ·simp [F1]
theorem w_ref24_Valid (k : Nat) (v0 : (List Int)) (v1 : Bool) (hF : ref24_Valid k v0 = some v1) :
  FCall Try.prog 90 [AV.lst false false (List.map (AV.int .i64) v0)] [] (AV.bool v1) [] := by
 unfold ref24_Valid at hF
 refine EN Try.func90 ?_
 intro c0 w0 Q h0 hQ
 refine WK [(0, Lz v0)] [] 0 (by simp) (by simp) ?_
 refine SQ [] [none] fun _ _ g r => ?_
 try simp
 and_intros <;> first | exact g _ (by kernel_rfl) | refine r _ _ _ ?_ | omega | (simp [maxLen] <;> omega)
 refine WK [(0, Lz v0)] [] 0 (by simp) (by simp) ?_
 refine AW.seq fun K115 hK115 => ?_
 refine SQ [] [none, none, none, none, some (7, false), some (7, false), some (7, false), none] fun _ _ g r => ?_
 by_cases h1 : (v0.length : Int) = 0
 ·replace hF := ite_t h1 hF
  have h1q : (v0.length : Int) = 0 := h1
  have h1_ := eqb_t h1q
  have h1__ := neb_f h1q
  have F1 := And.intro h1_ (And.intro h1__ h1q)
  try simp [F1]
  and_intros <;> first | exact g _ (by kernel_rfl) | refine r _ _ _ ?_ | omega | (simp [maxLen, F1] <;> omega)
  refine WK [(0, Lz v0), (11, AV.bool true)] [] 0 (by simp [F1]) (by simp [F1]) ?_
  refine CT (by simp [F1]) ?_
  refine SQ [] [none] fun _ _ g r => ?_
  try simp [F1]
  and_intros <;> first | exact g _ (by kernel_rfl) | refine r _ _ _ ?_ | omega | (simp [maxLen, F1] <;> omega)
  refine WK [(2, AV.bool false)] [] 0 (by simp [F1]) (by simp [F1]) ?_
  simp only [Option.some.injEq] at hF
  subst hF
  refine AW.ret (hQ _ _ _ ?_ (matchO_0 ?_)).1
  ·simp [Try.f90, F1]
  ·simp [F1]
 ·replace hF := ite_f h1 hF
  have h1_ := eqb_f h1
  have h1__ := neb_t h1
  have F2 := And.intro h1 (And.intro h1_ h1__)
  try simp [F2]
  and_intros <;> first | exact g _ (by kernel_rfl) | refine r _ _ _ ?_ | omega | (simp [maxLen, F2] <;> omega)
  refine WK [(0, Lz v0), (11, AV.bool (decide (64 < (v0.length : Int))))] [] 0 (by simp [F2]) (by simp [F2]) ?_
  by_cases h2 : 64 < (v0.length : Int)
  ·replace hF := ite_t h2 hF
   have h2_ := h2
   try simp at h2_
   have F3 := And.intro F2 (And.intro h2 h2_)
   refine CT (by simp [F3] <;> omega) ?_
   refine SQ [] [none] fun _ _ g r => ?_
   try simp [F3]
   and_intros <;> first | exact g _ (by kernel_rfl) | refine r _ _ _ ?_ | omega | (simp [maxLen, F3] <;> omega)
   refine WK [(2, AV.bool false)] [] 0 (by simp [F3]) (by simp [F3]) ?_
   simp only [Option.some.injEq] at hF
   subst hF
   refine AW.ret (hQ _ _ _ ?_ (matchO_0 ?_)).1
   ·simp [Try.f90, F3]
   ·simp [F3]
  ·replace hF := ite_f h2 hF
   have h2_ := h2
   try simp at h2_
   have F4 := And.intro F2 (And.intro h2 h2_)
   refine CF (by simp [F4] <;> omega) ?_
   refine AW.skip ?_
   refine hK115 _ _ _ ?_
   refine AW.seq fun K169 hK169 => ?_
   refine SQ [] [none] fun _ _ g r => ?_
   try simp [F4]
   and_intros <;> first | exact g _ (by kernel_rfl) | refine r _ _ _ ?_ | omega | (simp [maxLen, F4] <;> omega)
   refine WK [(0, Lz v0), (3, Iz 0)] [] 0 (by simp [F4]) (by simp [F4]) ?_
   refine AW.block ?_
   refine AW.loopF (α := Int) (fun n v2 => ref24_Valid.L1 k v0 n v2 = some v1) (fun v2 => [(0, Lz v0), (3, Iz v2)]) (fun v2 => []) 0 k (0) hF (by simp [F4]) (by simp [F4]) (by simp) ?_
   rintro (_|n1) v2 hF K206 hK206
   ·try dsimp only at hF
    rw [ref24_Valid.L1] at hF; cases hF
   try dsimp only at hF
   rw [ref24_Valid.L1] at hF
   refine AW.seq fun K208 hK208 => ?_
   refine SQ [] [none, none, none, none] fun _ _ g r => ?_
   try simp [F4]
   and_intros <;> first | exact g _ (by kernel_rfl) | refine r _ _ _ ?_ | omega | (simp [maxLen, F4] <;> omega)
   refine WK [(0, Lz v0), (3, Iz v2), (15, AV.bool (decide (v2 < (v0.length : Int))))] [] 0 (by simp [F4]) (by simp [F4]) ?_
   by_cases h3 : v2 < (v0.length : Int)
   ·replace hF := ite_t h3 hF
    have h3_ := h3
    try simp at h3_
    have F5 := And.intro F4 (And.intro h3 h3_)
    refine CT (by simp [F5] <;> omega) ?_
    refine AW.skip ?_
    refine hK208 _ _ _ ?_
    refine AW.midF (α := Unit) (fun _ => ref24_Valid.J2 k v2 (fun v2_ => ref24_Valid.L1 k v0 n1 v2_) = some v1) (fun _ => [(0, Lz v0), (3, Iz v2)]) (fun _ => []) 0 (fun K215 hK215 => ?_) ?_
    ·refine AW.block ?_
     refine SQ [] [none, none, none, none, none, none, some (23, false), some (23, false), some (23, false), some (23, false), some (23, false), none, none, some (30, false), some (30, false), some (30, false), some (33, true), some (33, true), some (33, true), some (33, true), some (33, true), some (33, true), some (33, true), some (33, true), some (33, true), some (33, true), some (30, false), none] fun _ _ g r => ?_
     obtain ⟨v3, h4, h5, h6, hF⟩ := idx_elim hF
     have h6_ := get_of h6
     try simp at h6_
     have h5_ := h5
     try simp at h5_
     by_cases h7 : v3 < 0
     ·replace hF := ite_t h7 hF
      have h7_ := h7
      try simp at h7_
      have F6 := And.intro F5 (And.intro h4 (And.intro h5 (And.intro h6 (And.intro h6_ (And.intro h5_ (And.intro h7 h7_))))))
      try simp [F6]
      and_intros <;> first | exact g _ (by kernel_rfl) | refine r _ _ _ ?_ | omega | (simp [maxLen, F6] <;> omega)
      refine WK [(0, Lz v0), (3, Iz v2), (45, AV.bool true)] [] 0 (by simp [F6]) (by simp [F6]) ?_
      refine CT (by simp [F6]) ?_
      refine SQ [] [none] fun _ _ g r => ?_
      try simp [F6]
      and_intros <;> first | exact g _ (by kernel_rfl) | refine r _ _ _ ?_ | omega | (simp [maxLen, F6] <;> omega)
      refine WK [(2, AV.bool false)] [] 0 (by simp [F6]) (by simp [F6]) ?_
      simp only [Option.some.injEq] at hF
      subst hF
      refine AW.ret (hQ _ _ _ ?_ (matchO_0 ?_)).1
      ·simp [Try.f90, F6]
      ·simp [F6]
     ·replace hF := ite_f h7 hF
      have h7_ := h7
      try simp at h7_
      by_cases h8 : 64 ≤ v3
      ·replace hF := ite_t h8 hF
       have h8_ := h8
       try simp at h8_
       have F7 := And.intro F5 (And.intro h4 (And.intro h5 (And.intro h6 (And.intro h6_ (And.intro h5_ (And.intro h7 (And.intro h7_ (And.intro h8 h8_))))))))
       try simp [F7]
       and_intros <;> first | exact g _ (by kernel_rfl) | refine r _ _ _ ?_ | omega | (simp [maxLen, F7] <;> omega)
       refine WK [(0, Lz v0), (3, Iz v2), (45, AV.bool true)] [] 0 (by simp [F7]) (by simp [F7]) ?_
       refine CT (by simp [F7]) ?_
       refine SQ [] [none] fun _ _ g r => ?_
       try simp [F7]
       and_intros <;> first | exact g _ (by kernel_rfl) | refine r _ _ _ ?_ | omega | (simp [maxLen, F7] <;> omega)
       refine WK [(2, AV.bool false)] [] 0 (by simp [F7]) (by simp [F7]) ?_
       simp only [Option.some.injEq] at hF
       subst hF
       refine AW.ret (hQ _ _ _ ?_ (matchO_0 ?_)).1
       ·simp [Try.f90, F7]
       ·simp [F7]
      ·replace hF := ite_f h8 hF
       have h8_ := h8
       try simp at h8_
       by_cases h9 : 0 < v2
       ·replace hF := ite_t h9 hF
        have h9_ := h9
        try simp at h9_
        obtain ⟨v4, h10, h11, h12, hF⟩ := idx_elim hF
        have h12_ := get_of h12
        try simp at h12_
        have h11_ := h11
        try simp at h11_
        have F8 := And.intro F5 (And.intro h4 (And.intro h5 (And.intro h6 (And.intro h6_ (And.intro h5_ (And.intro h7 (And.intro h7_ (And.intro h8 (And.intro h8_ (And.intro h9 (And.intro h9_ (And.intro h10 (And.intro h11 (And.intro h12 (And.intro h12_ h11_)))))))))))))))
        try simp [F8]
        and_intros <;> first | exact g _ (by kernel_rfl) | refine r _ _ _ ?_ | omega | (simp [maxLen, F8] <;> omega)
        refine WK [(0, Lz v0), (3, Iz v2), (45, AV.bool (decide (v3 ≤ v4)))] [] 0 (by simp [F8]) (by simp [F8]) ?_
        by_cases h13 : v3 ≤ v4
        ·replace hF := ite_t h13 hF
         have h13_ := h13
         try simp at h13_
         have F9 := And.intro F8 (And.intro h13 h13_)
         refine CT (by simp [F9] <;> omega) ?_
         refine SQ [] [none] fun _ _ g r => ?_
         try simp [F9]
         and_intros <;> first | exact g _ (by kernel_rfl) | refine r _ _ _ ?_ | omega | (simp [maxLen, F9] <;> omega)
         refine WK [(2, AV.bool false)] [] 0 (by simp [F9]) (by simp [F9]) ?_
         simp only [Option.some.injEq] at hF
         subst hF
         refine AW.ret (hQ _ _ _ ?_ (matchO_0 ?_)).1
         ·simp [Try.f90, F9]
         ·simp [F9]
        ·replace hF := ite_f h13 hF
         have h13_ := h13
         try simp at h13_
         have F10 := And.intro F8 (And.intro h13 h13_)
         refine CF (by simp [F10] <;> omega) ?_
         refine AW.skip ?_
         refine hK215 _ _ _ ?_
         exact Can.join (()) hF (by simp [F10]) (by simp [F10]) (by simp)
       ·replace hF := ite_f h9 hF
        have h9_ := h9
        try simp at h9_
        have F11 := And.intro F5 (And.intro h4 (And.intro h5 (And.intro h6 (And.intro h6_ (And.intro h5_ (And.intro h7 (And.intro h7_ (And.intro h8 (And.intro h8_ (And.intro h9 h9_))))))))))
        try simp [F11]
        and_intros <;> first | exact g _ (by kernel_rfl) | refine r _ _ _ ?_ | omega | (simp [maxLen, F11] <;> omega)
        refine WK [(0, Lz v0), (3, Iz v2), (45, AV.bool false)] [] 0 (by simp [F11]) (by simp [F11]) ?_
        refine CF (by simp [F11]) ?_
        refine AW.skip ?_
        refine hK215 _ _ _ ?_
        exact Can.join (()) hF (by simp [F11]) (by simp [F11]) (by simp)
    ·rintro ⟨⟩ hF
     try dsimp only at hF
     unfold ref24_Valid.J2 at hF
     refine RG [] [none, none, none] fun _ _ g r => ?_
     try simp [F5]
     and_intros <;> first | exact g _ (by kernel_rfl) | refine r _ _ _ ?_ | omega | (simp [maxLen, F5] <;> omega)
     refine hK206 _ _ _ ?_
     exact Can.next (k' := n1) (IntKind.wrap .i64 (v2 + 1)) (by omega) hF (by simp [F5]) (by simp [F5]) (by simp)
   ·replace hF := ite_f h3 hF
    have h3_ := h3
    try simp at h3_
    have F12 := And.intro F4 (And.intro h3 h3_)
    refine CF (by simp [F12] <;> omega) ?_
    refine AW.exit ?_
    try simp
    refine hK169 _ _ _ ?_
    refine SQ [] [none] fun _ _ g r => ?_
    try simp [F12]
    and_intros <;> first | exact g _ (by kernel_rfl) | refine r _ _ _ ?_ | omega | (simp [maxLen, F12] <;> omega)
    refine WK [(2, AV.bool true)] [] 0 (by simp [F12]) (by simp [F12]) ?_
    simp only [Option.some.injEq] at hF
    subst hF
    refine AW.ret (hQ _ _ _ ?_ (matchO_0 ?_)).1
    ·simp [Try.f90, F12]
    ·simp [F12]
theorem w_ref34_Valid (k : Nat) (v0 : Int) (v1 : Int) (v2 : (List Int)) (v3 : Bool) (hF : ref34_Valid k v0 v1 v2 = some v3) :
  FCall Try.prog 76 [AV.agg [AV.int .i64 v0, AV.int .i64 v1, AV.lst false false (List.map (AV.int .i64) v2)]] [] (AV.bool v3) [] := by
 unfold ref34_Valid at hF
 refine EN Try.func76 ?_
 intro c0 w0 Q h0 hQ
 refine WK [(0, AV.agg [Iz v0, Iz v1, Lz v2])] [] 0 (by simp) (by simp) ?_
 refine SQ [] [none, none] fun _ _ g r => ?_
 try simp
 and_intros <;> first | exact g _ (by kernel_rfl) | refine r _ _ _ ?_ | omega | (simp [maxLen] <;> omega)
 refine WK [(1, AV.ptr 0 0)] [(0, .cells [Iz v0, Iz v1, Lz v2])] 1 (by simp) (by simp) ?_
 refine SQ [] [none, none, none, none, some (6, true), some (6, true), some (6, true), none, none, some (11, true), some (11, true), some (11, true), some (11, true), none, none, some (17, true), some (17, true), some (17, true), none, none, some (22, true), some (22, true), some (22, true), some (22, true), some (22, true), some (22, true), none, none, some (30, true), some (30, true), some (30, true), none, none, some (35, true), some (35, true), some (35, true), some (35, true), some (35, true), some (35, true), none, none] fun _ _ g r => ?_
 by_cases h1 : 0 ≤ v0
 ·replace hF := ite_t h1 hF
  have h1_ := h1
  try simp at h1_
  by_cases h2 : v0 < 64
  ·replace hF := ite_t h2 hF
   have h2_ := h2
   try simp at h2_
   by_cases h3 : (v2.length : Int) ≤ 12
   ·replace hF := ite_t h3 hF
    have h3_ := h3
    try simp at h3_
    have F1 := And.intro h1 (And.intro h1_ (And.intro h2 (And.intro h2_ (And.intro h3 h3_))))
    try simp [F1]
    and_intros
    try any_goals first | omega | (simp [maxLen, F1] <;> omega)
    obtain ⟨v4, h4, hF⟩ := bnd1_elim hF
    refine AC (w_ref24_Valid k _ _ h4) (.cons (.same (by simp [F1])) .nil) ?_
    by_cases h5 : v4 = true
    ·replace hF := ite_t h5 hF
     have h5_ := h5
     try simp at h5_
     have F2 := And.intro F1 (And.intro h5 h5_)
     try simp [F2]
     and_intros
     try any_goals first | omega | (simp [maxLen, F2] <;> omega)
     obtain ⟨v5, h6, hF⟩ := bnd1_elim hF
     refine AC (w_ref24_Has k _ _ _ h6) (.cons (.same (by simp [F2])) (.cons (.same (by simp [F2])) .nil)) ?_
     by_cases h7 : (!v5) = true
     ·replace hF := ite_t h7 hF
      have h7_ := h7
      try simp at h7_
      by_cases h8 : 1 ≤ v1
      ·replace hF := ite_t h8 hF
       have h8_ := h8
       try simp at h8_
       have F3 := And.intro F2 (And.intro h7 (And.intro h7_ (And.intro h8 h8_)))
       try simp [F3]
       and_intros <;> first | exact g _ (by kernel_rfl) | refine r _ _ _ ?_ | omega | (simp [maxLen, F3] <;> omega)
       refine WK [(2, AV.bool (decide (v1 ≤ (v2.length : Int))))] [] 1 (by simp [F3]) (by simp [F3]) ?_
       simp only [Option.some.injEq] at hF
       subst hF
       refine AW.ret (hQ _ _ _ ?_ (matchO_0 ?_)).1
       ·simp [Try.f76, F3]
       ·simp [F3]
      ·replace hF := ite_f h8 hF
       have h8_ := h8
       try simp at h8_
       have F4 := And.intro F2 (And.intro h7 (And.intro h7_ (And.intro h8 h8_)))
       try simp [F4]
       and_intros <;> first | exact g _ (by kernel_rfl) | refine r _ _ _ ?_ | omega | (simp [maxLen, F4] <;> omega)
       refine WK [(2, AV.bool false)] [] 1 (by simp [F4]) (by simp [F4]) ?_
       simp only [Option.some.injEq] at hF
       subst hF
       refine AW.ret (hQ _ _ _ ?_ (matchO_0 ?_)).1
       ·simp [Try.f76, F4]
       ·simp [F4]
     ·replace hF := ite_f h7 hF
      have h7_ := h7
      try simp at h7_
      have F5 := And.intro F2 (And.intro h7 h7_)
      try simp [F5]
      and_intros <;> first | exact g _ (by kernel_rfl) | refine r _ _ _ ?_ | omega | (simp [maxLen, F5] <;> omega)
      refine WK [(2, AV.bool false)] [] 1 (by simp [F5]) (by simp [F5]) ?_
      simp only [Option.some.injEq] at hF
      subst hF
      refine AW.ret (hQ _ _ _ ?_ (matchO_0 ?_)).1
      ·simp [Try.f76, F5]
      ·simp [F5]
    ·replace hF := ite_f h5 hF
     have h5_ := h5
     try simp at h5_
     have F6 := And.intro F1 (And.intro h5 h5_)
     try simp [F6]
     and_intros <;> first | exact g _ (by kernel_rfl) | refine r _ _ _ ?_ | omega | (simp [maxLen, F6] <;> omega)
     refine WK [(2, AV.bool false)] [] 1 (by simp [F6]) (by simp [F6]) ?_
     simp only [Option.some.injEq] at hF
     subst hF
     refine AW.ret (hQ _ _ _ ?_ (matchO_0 ?_)).1
     ·simp [Try.f76, F6]
     ·simp [F6]
   ·replace hF := ite_f h3 hF
    have h3_ := h3
    try simp at h3_
    have F7 := And.intro h1 (And.intro h1_ (And.intro h2 (And.intro h2_ (And.intro h3 h3_))))
    try simp [F7]
    and_intros <;> first | exact g _ (by kernel_rfl) | refine r _ _ _ ?_ | omega | (simp [maxLen, F7] <;> omega)
    refine WK [(2, AV.bool false)] [] 1 (by simp [F7]) (by simp [F7]) ?_
    simp only [Option.some.injEq] at hF
    subst hF
    refine AW.ret (hQ _ _ _ ?_ (matchO_0 ?_)).1
    ·simp [Try.f76, F7]
    ·simp [F7]
  ·replace hF := ite_f h2 hF
   have h2_ := h2
   try simp at h2_
   have F8 := And.intro h1 (And.intro h1_ (And.intro h2 h2_))
   try simp [F8]
   and_intros <;> first | exact g _ (by kernel_rfl) | refine r _ _ _ ?_ | omega | (simp [maxLen, F8] <;> omega)
   refine WK [(2, AV.bool false)] [] 1 (by simp [F8]) (by simp [F8]) ?_
   simp only [Option.some.injEq] at hF
   subst hF
   refine AW.ret (hQ _ _ _ ?_ (matchO_0 ?_)).1
   ·simp [Try.f76, F8]
   ·simp [F8]
 ·replace hF := ite_f h1 hF
  have h1_ := h1
  try simp at h1_
  try simp [h1, h1_]
  and_intros <;> first | exact g _ (by kernel_rfl) | refine r _ _ _ ?_ | omega | (simp [h1, h1_, maxLen] <;> omega)
  refine WK [(2, AV.bool false)] [] 1 (by simp [h1, h1_]) (by simp [h1, h1_]) ?_
  simp only [Option.some.injEq] at hF
  subst hF
  refine AW.ret (hQ _ _ _ ?_ (matchO_0 ?_)).1
  ·simp [Try.f76, h1, h1_]
  ·simp [h1, h1_]
abbrev c_ref34_Of (v0 : Int) (v1 : Int) (v2 : ByteArray) (v3 : Int) (v4 : Int) (v5 : Int) (v6 : Int) (v7 : Int) (v8 : (List Int)) (v9 : (List api_Pin)) (v10 : ByteArray) (v11 : Int) (v12 : ByteArray) : AObj := .cells [Iz v0, Iz v1, AV.str v2, Iz v3, Iz v4, Iz v5, Iz v6, Iz v7, Lz v8, AV.lst false false (List.map api_Pin.av v9), AV.str v10, Iz v11, AV.str v12]
theorem w_ref34_Of (k : Nat) (v0 : Int) (v1 : Int) (v2 : ByteArray) (v3 : Int) (v4 : Int) (v5 : Int) (v6 : Int) (v7 : Int) (v8 : (List Int)) (v9 : (List api_Pin)) (v10 : ByteArray) (v11 : Int) (v12 : ByteArray) (v13 : Int) (v14 : Int) (v15 : (List Int)) (v16 : Int) (hF : ref34_Of k v0 v1 v2 v3 v4 v5 v6 v7 v8 v9 v10 v11 v12 = some (v13, v14, v15, v16)) :
  FCall Try.prog 27 [AV.agg [AV.int .i64 v0, AV.int .i64 v1, AV.str v2, AV.int .i64 v3, AV.int .i64 v4, AV.int .i64 v5, AV.int .i64 v6, AV.int .i64 v7, AV.lst false false (List.map (AV.int .i64) v8), AV.lst false false (List.map api_Pin.av v9), AV.str v10, AV.int .i64 v11, AV.str v12]] [] (AV.tup [AV.agg [AV.int .i64 v13, AV.int .i64 v14, AV.lst false false (List.map (AV.int .i64) v15)], AV.int .i64 v16]) [] := by
 unfold ref34_Of at hF
 refine EN Try.func27 ?_
 intro c0 w0 Q h0 hQ
 refine WK [(0, AV.agg [Iz v0, Iz v1, AV.str v2, Iz v3, Iz v4, Iz v5, Iz v6, Iz v7, Lz v8, AV.lst false false (List.map api_Pin.av v9), AV.str v10, Iz v11, AV.str v12])] [] 0 (by simp) (by simp) ?_
 refine SQ [] [none, none, none] fun _ _ g r => ?_
 try simp
 and_intros <;> first | exact g _ (by kernel_rfl) | refine r _ _ _ ?_ | omega | (simp [maxLen] <;> omega)
 refine WK [(1, AV.ptr 0 0), (2, AV.ptr 1 0)] [(0, c_ref34_Of v0 v1 v2 v3 v4 v5 v6 v7 v8 v9 v10 v11 v12), (1, .cells [Iz 0, Iz 0, AV.lst true true (List.map (AV.int .i64) ([] : List Int))])] 2 (by simp) (by simp) ?_
 refine AW.seq fun K32 hK32 => ?_
 refine SQ [] [none, none, none] fun _ _ g r => ?_
 try simp
 and_intros
 try any_goals first | omega | (simp [maxLen] <;> omega)
 obtain ⟨v17, h1, hF⟩ := bnd1_elim hF
 refine AC (w_ref03_Check k _ _ _ _ _ _ _ _ _ _ _ _ _ _ h1) (.cons (.same (by simp)) .nil) ?_
 try simp
 and_intros <;> first | exact g _ (by kernel_rfl) | refine r _ _ _ ?_ | omega | (simp [maxLen] <;> omega)
 refine WK [(1, AV.ptr 0 0), (2, AV.ptr 1 0), (4, Iz v17)] [(0, c_ref34_Of v0 v1 v2 v3 v4 v5 v6 v7 v8 v9 v10 v11 v12), (1, .cells [Iz 0, Iz 0, AV.lst true true (List.map (AV.int .i64) ([] : List Int))])] 2 (by simp) (by simp) ?_
 refine SQ [] [none, none] fun _ _ g r => ?_
 try simp
 and_intros <;> first | exact g _ (by kernel_rfl) | refine r _ _ _ ?_ | omega | (simp [maxLen] <;> omega)
 refine WK [(1, AV.ptr 0 0), (2, AV.ptr 1 0), (4, Iz v17), (9, AV.bool (v17 != 0))] [(0, c_ref34_Of v0 v1 v2 v3 v4 v5 v6 v7 v8 v9 v10 v11 v12), (1, .cells [Iz 0, Iz 0, AV.lst true true (List.map (AV.int .i64) ([] : List Int))])] 2 (by simp) (by simp) ?_
 by_cases h2 : v17 ≠ 0
 ·replace hF := ite_t h2 hF
  have h2_ := eqb_f h2
  have h2__ := neb_t h2
  have F1 := And.intro h2 (And.intro h2_ h2__)
  refine CT (by simp [F1] <;> omega) ?_
  refine SQ [] [none, none, none, none] fun _ _ g r => ?_
  try simp [F1]
  and_intros <;> first | exact g _ (by kernel_rfl) | refine r _ _ _ ?_ | omega | (simp [maxLen, F1] <;> omega)
  refine RM h0 [(0, 1)] [(2, AV.ptr 0 0), (3, Iz v17)] [(0, .cells [Iz 0, Iz 0, AV.lst true true (List.map (AV.int .i64) ([] : List Int))])] 1 (by simp [F1]) (by simp [F1]) ?_
  refine AW.flg [] [(0, .cells [Iz 0, Iz 0, AV.lst false false (List.map (AV.int .i64) ([] : List Int))])] trivial ⟨⟨AObj.cells [Iz 0, Iz 0, AV.lst true true (List.map (AV.int .i64) ([] : List Int))], by simp [F1], (.mk (.cons (.same _) (.cons (.same _) (.cons (.lst (by simp)) .nil))))⟩, trivial⟩ (by simp) ?_
  simp only [Option.some.injEq, Prod.mk.injEq] at hF
  obtain ⟨e0, e1, e2, e3⟩ := hF
  subst e0 e1 e2 e3
  refine AW.ret (hQ _ _ _ ?_ (matchO_0 ?_)).1
  ·simp [Try.f27, F1]
  ·simp [F1]
 ·replace hF := ite_f h2 hF
  have h2q : v17 = 0 := Classical.not_not.1 h2
  have h2_ := eqb_t h2q
  have h2__ := neb_f h2q
  refine CF (by simp [h2_, h2__, h2q] <;> omega) ?_
  refine AW.skip ?_
  refine hK32 _ _ _ ?_
  refine SQ [19] [none, none, none, none, none, none, none, none, none, none, none] fun _ _ g r => ?_
  obtain ⟨h3, hF⟩ := chk_elim hF
  have h3_ := h3
  try simp at h3_
  have F2 := And.intro h2_ (And.intro h2__ (And.intro h2q h3))
  try simp [F2]
  and_intros <;> first | exact g _ (by kernel_rfl) | refine r _ _ _ ?_ | omega | (simp [maxLen, F2] <;> omega)
  refine WK [(1, AV.ptr 0 0), (2, AV.ptr 1 0), (5, AV.ptr 3 0)] [(0, c_ref34_Of v0 v1 v2 v3 v4 v5 v6 v7 v8 v9 v10 v11 v12), (1, .cells [Iz 0, Iz 0, AV.lst true true (List.map (AV.int .i64) ([] : List Int))]), (2, .grow (List.map (AV.int .i64) v8)), (3, .cells [Iz v0, Iz v5, AV.slc 2 0 1 v8.length false])] 4 (by simp [F2]) (by simp [F2]) ?_
  refine AW.frz 2 (o := .grow (List.map (AV.int .i64) v8)) (by simp [F2]) rfl [] [(3, .cells [Iz v0, Iz v5, Lz v8])] trivial ⟨⟨by simp, AObj.cells [Iz v0, Iz v5, AV.slc 2 0 1 v8.length false], by simp [F2], (.mk (.cons (.same _) (.cons (.same _) (.cons (.l (by simp) (by simp) (by simp) (by simp)) .nil))))⟩, trivial⟩ ?_
  refine WK [(1, AV.ptr 0 0), (2, AV.ptr 1 0), (5, AV.ptr 3 0)] [(0, c_ref34_Of v0 v1 v2 v3 v4 v5 v6 v7 v8 v9 v10 v11 v12), (1, .cells [Iz 0, Iz 0, AV.lst true true (List.map (AV.int .i64) ([] : List Int))]), (3, .cells [Iz v0, Iz v5, Lz v8])] 4 (by simp [F2]) (by simp [F2]) ?_
  refine AW.seq fun K45 hK45 => ?_
  refine SQ [] [none, none, none, none, some (24, false), some (24, false), some (24, false), none, none, some (29, false), some (29, false), some (29, false), none, none, some (34, false), some (34, false), some (34, false), none, none, some (39, false), some (39, false), some (39, false), some (39, false), none, none, some (45, false), some (45, false), some (45, false), none, none, some (50, false), some (50, false), some (50, false), none] fun _ _ g r => ?_
  try simp [F2]
  and_intros
  try any_goals first | omega | (simp [maxLen, F2] <;> omega)
  obtain ⟨v18, h4, hF⟩ := bnd1_elim hF
  refine AC (w_ref03_Sealed k _ _ _ _ _ _ _ _ _ _ _ _ _ _ h4) (.cons (.same (by simp [F2])) .nil) ?_
  by_cases h5 : (!v18) = true
  ·replace hF := ite_t h5 hF
   have h5_ := h5
   try simp at h5_
   have F3 := And.intro F2 (And.intro h5 h5_)
   try simp [F3]
   and_intros <;> first | exact g _ (by kernel_rfl) | refine r _ _ _ ?_ | omega | (simp [maxLen, F3] <;> omega)
   refine WK [(2, AV.ptr 1 0), (5, AV.ptr 3 0), (54, AV.bool true)] [(1, .cells [Iz 0, Iz 0, AV.lst true true (List.map (AV.int .i64) ([] : List Int))]), (3, .cells [Iz v0, Iz v5, Lz v8])] 4 (by simp [F3]) (by simp [F3]) ?_
   refine CT (by simp [F3]) ?_
   refine SQ [] [none, none, none] fun _ _ g r => ?_
   try simp [F3]
   and_intros <;> first | exact g _ (by kernel_rfl) | refine r _ _ _ ?_ | omega | (simp [maxLen, F3] <;> omega)
   refine RM h0 [(0, 1)] [(2, AV.ptr 0 0), (3, Iz 47)] [(0, .cells [Iz 0, Iz 0, AV.lst true true (List.map (AV.int .i64) ([] : List Int))])] 1 (by simp [F3]) (by simp [F3]) ?_
   refine AW.flg [] [(0, .cells [Iz 0, Iz 0, AV.lst false false (List.map (AV.int .i64) ([] : List Int))])] trivial ⟨⟨AObj.cells [Iz 0, Iz 0, AV.lst true true (List.map (AV.int .i64) ([] : List Int))], by simp [F3], (.mk (.cons (.same _) (.cons (.same _) (.cons (.lst (by simp)) .nil))))⟩, trivial⟩ (by simp) ?_
   simp only [Option.some.injEq, Prod.mk.injEq] at hF
   obtain ⟨e0, e1, e2, e3⟩ := hF
   subst e0 e1 e2 e3
   refine AW.ret (hQ _ _ _ ?_ (matchO_0 ?_)).1
   ·simp [Try.f27, F3]
   ·simp [F3]
  ·replace hF := ite_f h5 hF
   have h5_ := h5
   try simp at h5_
   by_cases h6 : v4 ≠ 12
   ·replace hF := ite_t h6 hF
    have h6_ := eqb_f h6
    have h6__ := neb_t h6
    have F4 := And.intro F2 (And.intro h5 (And.intro h5_ (And.intro h6 (And.intro h6_ h6__))))
    try simp [F4]
    and_intros <;> first | exact g _ (by kernel_rfl) | refine r _ _ _ ?_ | omega | (simp [maxLen, F4] <;> omega)
    refine WK [(2, AV.ptr 1 0), (5, AV.ptr 3 0), (54, AV.bool true)] [(1, .cells [Iz 0, Iz 0, AV.lst true true (List.map (AV.int .i64) ([] : List Int))]), (3, .cells [Iz v0, Iz v5, Lz v8])] 4 (by simp [F4]) (by simp [F4]) ?_
    refine CT (by simp [F4]) ?_
    refine SQ [] [none, none, none] fun _ _ g r => ?_
    try simp [F4]
    and_intros <;> first | exact g _ (by kernel_rfl) | refine r _ _ _ ?_ | omega | (simp [maxLen, F4] <;> omega)
    refine RM h0 [(0, 1)] [(2, AV.ptr 0 0), (3, Iz 47)] [(0, .cells [Iz 0, Iz 0, AV.lst true true (List.map (AV.int .i64) ([] : List Int))])] 1 (by simp [F4]) (by simp [F4]) ?_
    refine AW.flg [] [(0, .cells [Iz 0, Iz 0, AV.lst false false (List.map (AV.int .i64) ([] : List Int))])] trivial ⟨⟨AObj.cells [Iz 0, Iz 0, AV.lst true true (List.map (AV.int .i64) ([] : List Int))], by simp [F4], (.mk (.cons (.same _) (.cons (.same _) (.cons (.lst (by simp)) .nil))))⟩, trivial⟩ (by simp) ?_
    simp only [Option.some.injEq, Prod.mk.injEq] at hF
    obtain ⟨e0, e1, e2, e3⟩ := hF
    subst e0 e1 e2 e3
    refine AW.ret (hQ _ _ _ ?_ (matchO_0 ?_)).1
    ·simp [Try.f27, F4]
    ·simp [F4]
   ·replace hF := ite_f h6 hF
    have h6q : v4 = 12 := Classical.not_not.1 h6
    have h6_ := eqb_t h6q
    have h6__ := neb_f h6q
    by_cases h7 : v6 ≠ 0
    ·replace hF := ite_t h7 hF
     have h7_ := eqb_f h7
     have h7__ := neb_t h7
     have F5 := And.intro F2 (And.intro h5 (And.intro h5_ (And.intro h6_ (And.intro h6__ (And.intro h6q (And.intro h7 (And.intro h7_ h7__)))))))
     try simp [F5]
     and_intros <;> first | exact g _ (by kernel_rfl) | refine r _ _ _ ?_ | omega | (simp [maxLen, F5] <;> omega)
     refine WK [(2, AV.ptr 1 0), (5, AV.ptr 3 0), (54, AV.bool true)] [(1, .cells [Iz 0, Iz 0, AV.lst true true (List.map (AV.int .i64) ([] : List Int))]), (3, .cells [Iz v0, Iz v5, Lz v8])] 4 (by simp [F5]) (by simp [F5]) ?_
     refine CT (by simp [F5]) ?_
     refine SQ [] [none, none, none] fun _ _ g r => ?_
     try simp [F5]
     and_intros <;> first | exact g _ (by kernel_rfl) | refine r _ _ _ ?_ | omega | (simp [maxLen, F5] <;> omega)
     refine RM h0 [(0, 1)] [(2, AV.ptr 0 0), (3, Iz 47)] [(0, .cells [Iz 0, Iz 0, AV.lst true true (List.map (AV.int .i64) ([] : List Int))])] 1 (by simp [F5]) (by simp [F5]) ?_
     refine AW.flg [] [(0, .cells [Iz 0, Iz 0, AV.lst false false (List.map (AV.int .i64) ([] : List Int))])] trivial ⟨⟨AObj.cells [Iz 0, Iz 0, AV.lst true true (List.map (AV.int .i64) ([] : List Int))], by simp [F5], (.mk (.cons (.same _) (.cons (.same _) (.cons (.lst (by simp)) .nil))))⟩, trivial⟩ (by simp) ?_
     simp only [Option.some.injEq, Prod.mk.injEq] at hF
     obtain ⟨e0, e1, e2, e3⟩ := hF
     subst e0 e1 e2 e3
     refine AW.ret (hQ _ _ _ ?_ (matchO_0 ?_)).1
     ·simp [Try.f27, F5]
     ·simp [F5]
    ·replace hF := ite_f h7 hF
     have h7q : v6 = 0 := Classical.not_not.1 h7
     have h7_ := eqb_t h7q
     have h7__ := neb_f h7q
     by_cases h8 : v7 ≠ 0
     ·replace hF := ite_t h8 hF
      have h8_ := eqb_f h8
      have h8__ := neb_t h8
      have F6 := And.intro F2 (And.intro h5 (And.intro h5_ (And.intro h6_ (And.intro h6__ (And.intro h6q (And.intro h7_ (And.intro h7__ (And.intro h7q (And.intro h8 (And.intro h8_ h8__))))))))))
      try simp [F6]
      and_intros <;> first | exact g _ (by kernel_rfl) | refine r _ _ _ ?_ | omega | (simp [maxLen, F6] <;> omega)
      refine WK [(2, AV.ptr 1 0), (5, AV.ptr 3 0), (54, AV.bool true)] [(1, .cells [Iz 0, Iz 0, AV.lst true true (List.map (AV.int .i64) ([] : List Int))]), (3, .cells [Iz v0, Iz v5, Lz v8])] 4 (by simp [F6]) (by simp [F6]) ?_
      refine CT (by simp [F6]) ?_
      refine SQ [] [none, none, none] fun _ _ g r => ?_
      try simp [F6]
      and_intros <;> first | exact g _ (by kernel_rfl) | refine r _ _ _ ?_ | omega | (simp [maxLen, F6] <;> omega)
      refine RM h0 [(0, 1)] [(2, AV.ptr 0 0), (3, Iz 47)] [(0, .cells [Iz 0, Iz 0, AV.lst true true (List.map (AV.int .i64) ([] : List Int))])] 1 (by simp [F6]) (by simp [F6]) ?_
      refine AW.flg [] [(0, .cells [Iz 0, Iz 0, AV.lst false false (List.map (AV.int .i64) ([] : List Int))])] trivial ⟨⟨AObj.cells [Iz 0, Iz 0, AV.lst true true (List.map (AV.int .i64) ([] : List Int))], by simp [F6], (.mk (.cons (.same _) (.cons (.same _) (.cons (.lst (by simp)) .nil))))⟩, trivial⟩ (by simp) ?_
      simp only [Option.some.injEq, Prod.mk.injEq] at hF
      obtain ⟨e0, e1, e2, e3⟩ := hF
      subst e0 e1 e2 e3
      refine AW.ret (hQ _ _ _ ?_ (matchO_0 ?_)).1
      ·simp [Try.f27, F6]
      ·simp [F6]
     ·replace hF := ite_f h8 hF
      have h8q : v7 = 0 := Classical.not_not.1 h8
      have h8_ := eqb_t h8q
      have h8__ := neb_f h8q
      by_cases h9 : (v9.length : Int) ≠ 0
      ·replace hF := ite_t h9 hF
       have h9_ := eqb_f h9
       have h9__ := neb_t h9
       have F7 := And.intro F2 (And.intro h5 (And.intro h5_ (And.intro h6_ (And.intro h6__ (And.intro h6q (And.intro h7_ (And.intro h7__ (And.intro h7q (And.intro h8_ (And.intro h8__ (And.intro h8q (And.intro h9 (And.intro h9_ h9__)))))))))))))
       try simp [F7]
       and_intros <;> first | exact g _ (by kernel_rfl) | refine r _ _ _ ?_ | omega | (simp [maxLen, F7] <;> omega)
       refine WK [(2, AV.ptr 1 0), (5, AV.ptr 3 0), (54, AV.bool true)] [(1, .cells [Iz 0, Iz 0, AV.lst true true (List.map (AV.int .i64) ([] : List Int))]), (3, .cells [Iz v0, Iz v5, Lz v8])] 4 (by simp [F7]) (by simp [F7]) ?_
       refine CT (by simp [F7]) ?_
       refine SQ [] [none, none, none] fun _ _ g r => ?_
       try simp [F7]
       and_intros <;> first | exact g _ (by kernel_rfl) | refine r _ _ _ ?_ | omega | (simp [maxLen, F7] <;> omega)
       refine RM h0 [(0, 1)] [(2, AV.ptr 0 0), (3, Iz 47)] [(0, .cells [Iz 0, Iz 0, AV.lst true true (List.map (AV.int .i64) ([] : List Int))])] 1 (by simp [F7]) (by simp [F7]) ?_
       refine AW.flg [] [(0, .cells [Iz 0, Iz 0, AV.lst false false (List.map (AV.int .i64) ([] : List Int))])] trivial ⟨⟨AObj.cells [Iz 0, Iz 0, AV.lst true true (List.map (AV.int .i64) ([] : List Int))], by simp [F7], (.mk (.cons (.same _) (.cons (.same _) (.cons (.lst (by simp)) .nil))))⟩, trivial⟩ (by simp) ?_
       simp only [Option.some.injEq, Prod.mk.injEq] at hF
       obtain ⟨e0, e1, e2, e3⟩ := hF
       subst e0 e1 e2 e3
       refine AW.ret (hQ _ _ _ ?_ (matchO_0 ?_)).1
       ·simp [Try.f27, F7]
       ·simp [F7]
      ·replace hF := ite_f h9 hF
       have h9q : (v9.length : Int) = 0 := Classical.not_not.1 h9
       have h9_ := eqb_t h9q
       have h9__ := neb_f h9q
       by_cases h10 : (!strEq v10 (ByteArray.mk #[])) = true
       ·replace hF := ite_t h10 hF
        have h10_ := h10
        try simp at h10_
        have F8 := And.intro F2 (And.intro h5 (And.intro h5_ (And.intro h6_ (And.intro h6__ (And.intro h6q (And.intro h7_ (And.intro h7__ (And.intro h7q (And.intro h8_ (And.intro h8__ (And.intro h8q (And.intro h9_ (And.intro h9__ (And.intro h9q (And.intro h10 h10_)))))))))))))))
        try simp [F8]
        and_intros <;> first | exact g _ (by kernel_rfl) | refine r _ _ _ ?_ | omega | (simp [maxLen, F8] <;> omega)
        refine WK [(2, AV.ptr 1 0), (5, AV.ptr 3 0), (54, AV.bool true)] [(1, .cells [Iz 0, Iz 0, AV.lst true true (List.map (AV.int .i64) ([] : List Int))]), (3, .cells [Iz v0, Iz v5, Lz v8])] 4 (by simp [F8]) (by simp [F8]) ?_
        refine CT (by simp [F8]) ?_
        refine SQ [] [none, none, none] fun _ _ g r => ?_
        try simp [F8]
        and_intros <;> first | exact g _ (by kernel_rfl) | refine r _ _ _ ?_ | omega | (simp [maxLen, F8] <;> omega)
        refine RM h0 [(0, 1)] [(2, AV.ptr 0 0), (3, Iz 47)] [(0, .cells [Iz 0, Iz 0, AV.lst true true (List.map (AV.int .i64) ([] : List Int))])] 1 (by simp [F8]) (by simp [F8]) ?_
        refine AW.flg [] [(0, .cells [Iz 0, Iz 0, AV.lst false false (List.map (AV.int .i64) ([] : List Int))])] trivial ⟨⟨AObj.cells [Iz 0, Iz 0, AV.lst true true (List.map (AV.int .i64) ([] : List Int))], by simp [F8], (.mk (.cons (.same _) (.cons (.same _) (.cons (.lst (by simp)) .nil))))⟩, trivial⟩ (by simp) ?_
        simp only [Option.some.injEq, Prod.mk.injEq] at hF
        obtain ⟨e0, e1, e2, e3⟩ := hF
        subst e0 e1 e2 e3
        refine AW.ret (hQ _ _ _ ?_ (matchO_0 ?_)).1
        ·simp [Try.f27, F8]
        ·simp [F8]
       ·replace hF := ite_f h10 hF
        have h10_ := h10
        try simp at h10_
        have F9 := And.intro F2 (And.intro h5 (And.intro h5_ (And.intro h6_ (And.intro h6__ (And.intro h6q (And.intro h7_ (And.intro h7__ (And.intro h7q (And.intro h8_ (And.intro h8__ (And.intro h8q (And.intro h9_ (And.intro h9__ (And.intro h9q (And.intro h10 h10_)))))))))))))))
        try simp [F9]
        and_intros
        try any_goals first | omega | (simp [maxLen, F9] <;> omega)
        obtain ⟨v19, h11, hF⟩ := bnd1_elim hF
        refine AC (w_ref34_Valid k _ _ _ _ h11) (.cons (.same (by simp [F9])) .nil) ?_
        try simp [F9]
        and_intros <;> first | exact g _ (by kernel_rfl) | refine r _ _ _ ?_ | omega | (simp [maxLen, F9] <;> omega)
        refine WK [(2, AV.ptr 1 0), (5, AV.ptr 3 0), (54, AV.bool (!v19))] [(1, .cells [Iz 0, Iz 0, AV.lst true true (List.map (AV.int .i64) ([] : List Int))]), (3, .cells [Iz v0, Iz v5, Lz v8])] 4 (by simp [F9]) (by simp [F9]) ?_
        by_cases h12 : (!v19) = true
        ·replace hF := ite_t h12 hF
         have h12_ := h12
         try simp at h12_
         have F10 := And.intro F9 (And.intro h12 h12_)
         refine CT (by simp [F10] <;> omega) ?_
         refine SQ [] [none, none, none] fun _ _ g r => ?_
         try simp [F10]
         and_intros <;> first | exact g _ (by kernel_rfl) | refine r _ _ _ ?_ | omega | (simp [maxLen, F10] <;> omega)
         refine RM h0 [(0, 1)] [(2, AV.ptr 0 0), (3, Iz 47)] [(0, .cells [Iz 0, Iz 0, AV.lst true true (List.map (AV.int .i64) ([] : List Int))])] 1 (by simp [F10]) (by simp [F10]) ?_
         refine AW.flg [] [(0, .cells [Iz 0, Iz 0, AV.lst false false (List.map (AV.int .i64) ([] : List Int))])] trivial ⟨⟨AObj.cells [Iz 0, Iz 0, AV.lst true true (List.map (AV.int .i64) ([] : List Int))], by simp [F10], (.mk (.cons (.same _) (.cons (.same _) (.cons (.lst (by simp)) .nil))))⟩, trivial⟩ (by simp) ?_
         simp only [Option.some.injEq, Prod.mk.injEq] at hF
         obtain ⟨e0, e1, e2, e3⟩ := hF
         subst e0 e1 e2 e3
         refine AW.ret (hQ _ _ _ ?_ (matchO_0 ?_)).1
         ·simp [Try.f27, F10]
         ·simp [F10]
        ·replace hF := ite_f h12 hF
         have h12_ := h12
         try simp at h12_
         have F11 := And.intro F9 (And.intro h12 h12_)
         refine CF (by simp [F11] <;> omega) ?_
         refine AW.skip ?_
         refine hK45 _ _ _ ?_
         refine SQ [] [none, none, none] fun _ _ g r => ?_
         try simp [F11]
         and_intros <;> first | exact g _ (by kernel_rfl) | refine r _ _ _ ?_ | omega | (simp [maxLen, F11] <;> omega)
         refine RM h0 [(0, 1)] [(2, AV.ptr 0 0), (3, Iz 0)] [(0, .cells [Iz v0, Iz v5, Lz v8])] 1 (by simp [F11]) (by simp [F11]) ?_
         simp only [Option.some.injEq, Prod.mk.injEq] at hF
         obtain ⟨e0, e1, e2, e3⟩ := hF
         subst e0 e1 e2 e3
         refine AW.ret (hQ _ _ _ ?_ (matchO_0 ?_)).1
         ·simp [Try.f27, F11]
         ·simp [F11]
theorem w_ref23_SameInts (k : Nat) (v0 : (List Int)) (v1 : (List Int)) (v2 : Bool) (hF : ref23_SameInts k v0 v1 = some v2) :
  FCall Try.prog 32 [AV.lst false false (List.map (AV.int .i64) v0), AV.lst false false (List.map (AV.int .i64) v1)] [] (AV.bool v2) [] := by
 unfold ref23_SameInts at hF
 refine EN Try.func32 ?_
 intro c0 w0 Q h0 hQ
 refine WK [(0, Lz v0), (1, Lz v1)] [] 0 (by simp) (by simp) ?_
 refine SQ [] [none] fun _ _ g r => ?_
 try simp
 and_intros <;> first | exact g _ (by kernel_rfl) | refine r _ _ _ ?_ | omega | (simp [maxLen] <;> omega)
 refine WK [(0, Lz v0), (1, Lz v1)] [] 0 (by simp) (by simp) ?_
 refine AW.seq fun K88 hK88 => ?_
 refine SQ [] [none, none, none, none, none] fun _ _ g r => ?_
 try simp
 and_intros <;> first | exact g _ (by kernel_rfl) | refine r _ _ _ ?_ | omega | (simp [maxLen] <;> omega)
 refine WK [(0, Lz v0), (1, Lz v1), (10, AV.bool ((v0.length : Int) != (v1.length : Int)))] [] 0 (by simp) (by simp) ?_
 by_cases h1 : (v0.length : Int) ≠ (v1.length : Int)
 ·replace hF := ite_t h1 hF
  have h1_ := eqb_f h1
  have h1__ := neb_t h1
  have F1 := And.intro h1 (And.intro h1_ h1__)
  refine CT (by simp [F1] <;> omega) ?_
  refine SQ [] [none] fun _ _ g r => ?_
  try simp [F1]
  and_intros <;> first | exact g _ (by kernel_rfl) | refine r _ _ _ ?_ | omega | (simp [maxLen, F1] <;> omega)
  refine WK [(4, AV.bool false)] [] 0 (by simp [F1]) (by simp [F1]) ?_
  simp only [Option.some.injEq] at hF
  subst hF
  refine AW.ret (hQ _ _ _ ?_ (matchO_0 ?_)).1
  ·simp [Try.f32, F1]
  ·simp [F1]
 ·replace hF := ite_f h1 hF
  have h1q : (v0.length : Int) = (v1.length : Int) := Classical.not_not.1 h1
  have h1_ := eqb_t h1q
  have h1__ := neb_f h1q
  refine CF (by simp [h1_, h1__] <;> omega) ?_
  refine AW.skip ?_
  refine hK88 _ _ _ ?_
  refine AW.seq fun K129 hK129 => ?_
  refine SQ [] [none] fun _ _ g r => ?_
  try simp [h1_, h1__]
  and_intros <;> first | exact g _ (by kernel_rfl) | refine r _ _ _ ?_ | omega | (simp [h1_, h1__, maxLen] <;> omega)
  refine WK [(0, Lz v0), (1, Lz v1), (5, Iz 0)] [] 0 (by simp [h1_, h1__]) (by simp [h1_, h1__]) ?_
  refine AW.block ?_
  refine AW.loopF (α := Int) (fun n v3 => ref23_SameInts.L1 k v0 v1 n v3 = some v2) (fun v3 => [(0, Lz v0), (1, Lz v1), (5, Iz v3)]) (fun v3 => []) 0 k (0) hF (by simp [h1_, h1__]) (by simp [h1_, h1__]) (by simp) ?_
  rintro (_|n1) v3 hF K158 hK158
  ·try dsimp only at hF
   rw [ref23_SameInts.L1] at hF; cases hF
  try dsimp only at hF
  rw [ref23_SameInts.L1] at hF
  refine AW.seq fun K160 hK160 => ?_
  refine SQ [] [none, none, none, none] fun _ _ g r => ?_
  try simp [h1_, h1__]
  and_intros <;> first | exact g _ (by kernel_rfl) | refine r _ _ _ ?_ | omega | (simp [h1_, h1__, maxLen] <;> omega)
  refine WK [(0, Lz v0), (1, Lz v1), (5, Iz v3), (14, AV.bool (decide (v3 < (v0.length : Int))))] [] 0 (by simp [h1_, h1__]) (by simp [h1_, h1__]) ?_
  by_cases h2 : v3 < (v0.length : Int)
  ·replace hF := ite_t h2 hF
   have h2_ := h2
   try simp at h2_
   have F2 := And.intro h1_ (And.intro h1__ (And.intro h2 h2_))
   refine CT (by simp [F2] <;> omega) ?_
   refine AW.skip ?_
   refine hK160 _ _ _ ?_
   refine AW.seq fun K164 hK164 => ?_
   refine AW.block ?_
   refine SQ [] [none, none, none, none, none, none, none, none, none] fun _ _ g r => ?_
   obtain ⟨v4, h3, h4, h5, hF⟩ := idx_elim hF
   have h5_ := get_of h5
   try simp at h5_
   have h4_ := h4
   try simp at h4_
   obtain ⟨v5, h6, h7, h8, hF⟩ := idx_elim hF
   have h8_ := get_of h8
   try simp at h8_
   have h7_ := h7
   try simp at h7_
   have F3 := And.intro F2 (And.intro h3 (And.intro h4 (And.intro h5 (And.intro h5_ (And.intro h4_ (And.intro h6 (And.intro h7 (And.intro h8 (And.intro h8_ h7_)))))))))
   try simp [F3]
   and_intros <;> first | exact g _ (by kernel_rfl) | refine r _ _ _ ?_ | omega | (simp [maxLen, F3] <;> omega)
   refine WK [(0, Lz v0), (1, Lz v1), (5, Iz v3), (25, AV.bool (v4 != v5))] [] 0 (by simp [F3]) (by simp [F3]) ?_
   by_cases h9 : v4 ≠ v5
   ·replace hF := ite_t h9 hF
    have h9_ := eqb_f h9
    have h9__ := neb_t h9
    have F4 := And.intro F3 (And.intro h9 (And.intro h9_ h9__))
    refine CT (by simp [F4] <;> omega) ?_
    refine SQ [] [none] fun _ _ g r => ?_
    try simp [F4]
    and_intros <;> first | exact g _ (by kernel_rfl) | refine r _ _ _ ?_ | omega | (simp [maxLen, F4] <;> omega)
    refine WK [(4, AV.bool false)] [] 0 (by simp [F4]) (by simp [F4]) ?_
    simp only [Option.some.injEq] at hF
    subst hF
    refine AW.ret (hQ _ _ _ ?_ (matchO_0 ?_)).1
    ·simp [Try.f32, F4]
    ·simp [F4]
   ·replace hF := ite_f h9 hF
    have h9q : v4 = v5 := Classical.not_not.1 h9
    have h9_ := eqb_t h9q
    have h9__ := neb_f h9q
    have F5 := And.intro F3 (And.intro h9_ h9__)
    refine CF (by simp [F5] <;> omega) ?_
    refine AW.skip ?_
    refine hK164 _ _ _ ?_
    refine RG [] [none, none, none] fun _ _ g r => ?_
    try simp [F5]
    and_intros <;> first | exact g _ (by kernel_rfl) | refine r _ _ _ ?_ | omega | (simp [maxLen, F5] <;> omega)
    refine hK158 _ _ _ ?_
    exact Can.next (k' := n1) (IntKind.wrap .i64 (v3 + 1)) (by omega) hF (by simp [F5]) (by simp [F5]) (by simp)
  ·replace hF := ite_f h2 hF
   have h2_ := h2
   try simp at h2_
   have F6 := And.intro h1_ (And.intro h1__ (And.intro h2 h2_))
   refine CF (by simp [F6] <;> omega) ?_
   refine AW.exit ?_
   try simp
   refine hK129 _ _ _ ?_
   refine SQ [] [none] fun _ _ g r => ?_
   try simp [F6]
   and_intros <;> first | exact g _ (by kernel_rfl) | refine r _ _ _ ?_ | omega | (simp [maxLen, F6] <;> omega)
   refine WK [(4, AV.bool true)] [] 0 (by simp [F6]) (by simp [F6]) ?_
   simp only [Option.some.injEq] at hF
   subst hF
   refine AW.ret (hQ _ _ _ ?_ (matchO_0 ?_)).1
   ·simp [Try.f32, F6]
   ·simp [F6]
end Go.TF
