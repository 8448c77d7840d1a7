/- Walks: the Go text computes the Lean functions (printed by a program of our own). -/
import Derived.Test.YteclncnknklkfaaGaPu
import Derived.Test.YteclncnknklkfaaGaAbsT
import Derived.Test.YteclncnknklkfaaGaWa0
set_option linter.unusedVariables false
set_option linter.unusedSimpArgs false
set_option maxRecDepth 100000
set_option maxHeartbeats 4000000
namespace Go.TF
open Go Go.Abs Go.Proofs Go.Proofs.YteclncnknklkfaaGaT
theorem w_mill_Light (k : Nat) (v0 : (List Int)) (v1 : Bool) (hF : mill_Light k v0 = some v1) :
  FCall Try.prog 9 [AV.lst false false (List.map (AV.int .i64) v0)] [] (AV.bool v1) [] := by
 unfold mill_Light at hF
 refine EN Try.func9 ?_
 intro c0 w0 Q h0 hQ
 refine WK [(0, Lz v0)] [] 0 (by simp) (by simp) ?_
 refine SQ [] [none] fun _ _ g r => ?_
 try simp
 and_intros <;> first | exact g _ (by kernel_rfl) | refine r _ _ _ ?_ | omega | (simp [maxLen] <;> omega)
 refine WK [(0, Lz v0)] [] 0 (by simp) (by simp) ?_
 refine SQ [] [none, none, none, none] fun _ _ g r => ?_
 try simp
 and_intros <;> first | exact g _ (by kernel_rfl) | refine r _ _ _ ?_ | omega | (simp [maxLen] <;> omega)
 refine WK [(2, AV.bool (decide ((v0.length : Int) ≤ 400)))] [] 0 (by simp) (by simp) ?_
 simp only [Option.some.injEq] at hF
 subst hF
 refine AW.ret (hQ _ _ _ ?_ (matchO_0 ?_)).1
 ·simp [Try.f9]
 ·simp
theorem w_cases_Valid (k : Nat) (v0 : Int) (v1 : Int) (v2 : Int) (v3 : Int) (v4 : Bool) (hF : cases_Valid k v0 v1 v2 v3 = some v4) :
  FCall Try.prog 24 [AV.agg [AV.int .i64 v0, AV.int .i64 v1, AV.int .i64 v2, AV.int .i64 v3]] [] (AV.bool v4) [] := by
 unfold cases_Valid at hF
 refine EN Try.func24 ?_
 intro c0 w0 Q h0 hQ
 refine WK [(0, AV.agg [Iz v0, Iz v1, Iz v2, Iz v3])] [] 0 (by simp) (by simp) ?_
 refine SQ [] [none, none] fun _ _ g r => ?_
 try simp
 and_intros <;> first | exact g _ (by kernel_rfl) | refine r _ _ _ ?_ | omega | (simp [maxLen] <;> omega)
 refine WK [(1, AV.ptr 0 0)] [(0, .cells [Iz v0, Iz v1, Iz v2, Iz v3])] 1 (by simp) (by simp) ?_
 refine AW.seq fun K45 hK45 => ?_
 refine SQ [] [none, none, none, none, some (6, false), some (6, false), some (6, false), none, none, some (11, false), some (11, false), some (11, false), none, none, some (16, false), some (16, false), some (16, false), none, none, some (21, false), some (21, false), some (21, false), none, none, some (26, false), some (26, false), some (26, false), none] fun _ _ g r => ?_
 by_cases h1 : v0 < 0
 ·replace hF := ite_t h1 hF
  have h1_ := h1
  try simp at h1_
  try simp [h1, h1_]
  and_intros <;> first | exact g _ (by kernel_rfl) | refine r _ _ _ ?_ | omega | (simp [h1, h1_, maxLen] <;> omega)
  refine WK [(1, AV.ptr 0 0), (30, AV.bool true)] [(0, .cells [Iz v0, Iz v1, Iz v2, Iz v3])] 1 (by simp [h1, h1_]) (by simp [h1, h1_]) ?_
  refine CT (by simp [h1, h1_]) ?_
  refine SQ [] [none] fun _ _ g r => ?_
  try simp [h1, h1_]
  and_intros <;> first | exact g _ (by kernel_rfl) | refine r _ _ _ ?_ | omega | (simp [h1, h1_, maxLen] <;> omega)
  refine WK [(2, AV.bool false)] [] 1 (by simp [h1, h1_]) (by simp [h1, h1_]) ?_
  simp only [Option.some.injEq] at hF
  subst hF
  refine AW.ret (hQ _ _ _ ?_ (matchO_0 ?_)).1
  ·simp [Try.f24, h1, h1_]
  ·simp [h1, h1_]
 ·replace hF := ite_f h1 hF
  have h1_ := h1
  try simp at h1_
  by_cases h2 : 40 ≤ v0
  ·replace hF := ite_t h2 hF
   have h2_ := h2
   try simp at h2_
   have F1 := And.intro h1 (And.intro h1_ (And.intro h2 h2_))
   try simp [F1]
   and_intros <;> first | exact g _ (by kernel_rfl) | refine r _ _ _ ?_ | omega | (simp [maxLen, F1] <;> omega)
   refine WK [(1, AV.ptr 0 0), (30, AV.bool true)] [(0, .cells [Iz v0, Iz v1, Iz v2, Iz v3])] 1 (by simp [F1]) (by simp [F1]) ?_
   refine CT (by simp [F1]) ?_
   refine SQ [] [none] fun _ _ g r => ?_
   try simp [F1]
   and_intros <;> first | exact g _ (by kernel_rfl) | refine r _ _ _ ?_ | omega | (simp [maxLen, F1] <;> omega)
   refine WK [(2, AV.bool false)] [] 1 (by simp [F1]) (by simp [F1]) ?_
   simp only [Option.some.injEq] at hF
   subst hF
   refine AW.ret (hQ _ _ _ ?_ (matchO_0 ?_)).1
   ·simp [Try.f24, F1]
   ·simp [F1]
  ·replace hF := ite_f h2 hF
   have h2_ := h2
   try simp at h2_
   by_cases h3 : v2 < 0
   ·replace hF := ite_t h3 hF
    have h3_ := h3
    try simp at h3_
    have F2 := And.intro h1 (And.intro h1_ (And.intro h2 (And.intro h2_ (And.intro h3 h3_))))
    try simp [F2]
    and_intros <;> first | exact g _ (by kernel_rfl) | refine r _ _ _ ?_ | omega | (simp [maxLen, F2] <;> omega)
    refine WK [(1, AV.ptr 0 0), (30, AV.bool true)] [(0, .cells [Iz v0, Iz v1, Iz v2, Iz v3])] 1 (by simp [F2]) (by simp [F2]) ?_
    refine CT (by simp [F2]) ?_
    refine SQ [] [none] fun _ _ g r => ?_
    try simp [F2]
    and_intros <;> first | exact g _ (by kernel_rfl) | refine r _ _ _ ?_ | omega | (simp [maxLen, F2] <;> omega)
    refine WK [(2, AV.bool false)] [] 1 (by simp [F2]) (by simp [F2]) ?_
    simp only [Option.some.injEq] at hF
    subst hF
    refine AW.ret (hQ _ _ _ ?_ (matchO_0 ?_)).1
    ·simp [Try.f24, F2]
    ·simp [F2]
   ·replace hF := ite_f h3 hF
    have h3_ := h3
    try simp at h3_
    by_cases h4 : 64 ≤ v2
    ·replace hF := ite_t h4 hF
     have h4_ := h4
     try simp at h4_
     have F3 := And.intro h1 (And.intro h1_ (And.intro h2 (And.intro h2_ (And.intro h3 (And.intro h3_ (And.intro h4 h4_))))))
     try simp [F3]
     and_intros <;> first | exact g _ (by kernel_rfl) | refine r _ _ _ ?_ | omega | (simp [maxLen, F3] <;> omega)
     refine WK [(1, AV.ptr 0 0), (30, AV.bool true)] [(0, .cells [Iz v0, Iz v1, Iz v2, Iz v3])] 1 (by simp [F3]) (by simp [F3]) ?_
     refine CT (by simp [F3]) ?_
     refine SQ [] [none] fun _ _ g r => ?_
     try simp [F3]
     and_intros <;> first | exact g _ (by kernel_rfl) | refine r _ _ _ ?_ | omega | (simp [maxLen, F3] <;> omega)
     refine WK [(2, AV.bool false)] [] 1 (by simp [F3]) (by simp [F3]) ?_
     simp only [Option.some.injEq] at hF
     subst hF
     refine AW.ret (hQ _ _ _ ?_ (matchO_0 ?_)).1
     ·simp [Try.f24, F3]
     ·simp [F3]
    ·replace hF := ite_f h4 hF
     have h4_ := h4
     try simp at h4_
     by_cases h5 : v3 < 0
     ·replace hF := ite_t h5 hF
      have h5_ := h5
      try simp at h5_
      have F4 := And.intro h1 (And.intro h1_ (And.intro h2 (And.intro h2_ (And.intro h3 (And.intro h3_ (And.intro h4 (And.intro h4_ (And.intro h5 h5_))))))))
      try simp [F4]
      and_intros <;> first | exact g _ (by kernel_rfl) | refine r _ _ _ ?_ | omega | (simp [maxLen, F4] <;> omega)
      refine WK [(1, AV.ptr 0 0), (30, AV.bool true)] [(0, .cells [Iz v0, Iz v1, Iz v2, Iz v3])] 1 (by simp [F4]) (by simp [F4]) ?_
      refine CT (by simp [F4]) ?_
      refine SQ [] [none] fun _ _ g r => ?_
      try simp [F4]
      and_intros <;> first | exact g _ (by kernel_rfl) | refine r _ _ _ ?_ | omega | (simp [maxLen, F4] <;> omega)
      refine WK [(2, AV.bool false)] [] 1 (by simp [F4]) (by simp [F4]) ?_
      simp only [Option.some.injEq] at hF
      subst hF
      refine AW.ret (hQ _ _ _ ?_ (matchO_0 ?_)).1
      ·simp [Try.f24, F4]
      ·simp [F4]
     ·replace hF := ite_f h5 hF
      have h5_ := h5
      try simp at h5_
      have F5 := And.intro h1 (And.intro h1_ (And.intro h2 (And.intro h2_ (And.intro h3 (And.intro h3_ (And.intro h4 (And.intro h4_ (And.intro h5 h5_))))))))
      try simp [F5]
      and_intros <;> first | exact g _ (by kernel_rfl) | refine r _ _ _ ?_ | omega | (simp [maxLen, F5] <;> omega)
      refine WK [(1, AV.ptr 0 0), (30, AV.bool (decide (1 < v3)))] [(0, .cells [Iz v0, Iz v1, Iz v2, Iz v3])] 1 (by simp [F5]) (by simp [F5]) ?_
      by_cases h6 : 1 < v3
      ·replace hF := ite_t h6 hF
       have h6_ := h6
       try simp at h6_
       have F6 := And.intro F5 (And.intro h6 h6_)
       refine CT (by simp [F6] <;> omega) ?_
       refine SQ [] [none] fun _ _ g r => ?_
       try simp [F6]
       and_intros <;> first | exact g _ (by kernel_rfl) | refine r _ _ _ ?_ | omega | (simp [maxLen, F6] <;> omega)
       refine WK [(2, AV.bool false)] [] 1 (by simp [F6]) (by simp [F6]) ?_
       simp only [Option.some.injEq] at hF
       subst hF
       refine AW.ret (hQ _ _ _ ?_ (matchO_0 ?_)).1
       ·simp [Try.f24, F6]
       ·simp [F6]
      ·replace hF := ite_f h6 hF
       have h6_ := h6
       try simp at h6_
       have F7 := And.intro F5 (And.intro h6 h6_)
       refine CF (by simp [F7] <;> omega) ?_
       refine AW.skip ?_
       refine hK45 _ _ _ ?_
       refine AW.seq fun K62 hK62 => ?_
       refine SQ [] [none, none] fun _ _ g r => ?_
       try simp [F7]
       and_intros <;> first | exact g _ (by kernel_rfl) | refine r _ _ _ ?_ | omega | (simp [maxLen, F7] <;> omega)
       refine WK [(1, AV.ptr 0 0), (32, Iz v1)] [(0, .cells [Iz v0, Iz v1, Iz v2, Iz v3])] 1 (by simp [F7]) (by simp [F7]) ?_
       refine AW.block ?_
       refine SQ [] [none, none] fun _ _ g r => ?_
       try simp [F7]
       and_intros <;> first | exact g _ (by kernel_rfl) | refine r _ _ _ ?_ | omega | (simp [maxLen, F7] <;> omega)
       refine WK [(1, AV.ptr 0 0), (32, Iz v1), (33, AV.bool (v1 == 1))] [(0, .cells [Iz v0, Iz v1, Iz v2, Iz v3])] 1 (by simp [F7]) (by simp [F7]) ?_
       by_cases h7 : v1 = 1
       ·replace hF := ite_t h7 hF
        have h7q : v1 = 1 := h7
        have h7_ := eqb_t h7q
        have h7__ := neb_f h7q
        refine CT (by simp [F7, h7_, h7__, h7q] <;> omega) ?_
        refine SQ [] [none, none, none, none, some (38, true), some (38, true), some (38, true), none, none] fun _ _ g r => ?_
        by_cases h8 : v2 = 0
        ·replace hF := ite_t h8 hF
         have h8q : v2 = 0 := h8
         have h8_ := eqb_t h8q
         have h8__ := neb_f h8q
         have F8 := And.intro F7 (And.intro h7_ (And.intro h7__ (And.intro h7q (And.intro h8_ (And.intro h8__ h8q)))))
         try simp [F8]
         and_intros <;> first | exact g _ (by kernel_rfl) | refine r _ _ _ ?_ | omega | (simp [maxLen, F8] <;> omega)
         refine WK [(2, AV.bool (v3 == 0))] [] 1 (by simp [F8]) (by simp [F8]) ?_
         simp only [Option.some.injEq] at hF
         subst hF
         refine AW.ret (hQ _ _ _ ?_ (matchO_0 ?_)).1
         ·simp [Try.f24, F8]
         ·simp [F8]
        ·replace hF := ite_f h8 hF
         have h8_ := eqb_f h8
         have h8__ := neb_t h8
         have F9 := And.intro F7 (And.intro h7_ (And.intro h7__ (And.intro h7q (And.intro h8 (And.intro h8_ h8__)))))
         try simp [F9]
         and_intros <;> first | exact g _ (by kernel_rfl) | refine r _ _ _ ?_ | omega | (simp [maxLen, F9] <;> omega)
         refine WK [(2, AV.bool false)] [] 1 (by simp [F9]) (by simp [F9]) ?_
         simp only [Option.some.injEq] at hF
         subst hF
         refine AW.ret (hQ _ _ _ ?_ (matchO_0 ?_)).1
         ·simp [Try.f24, F9]
         ·simp [F9]
       ·replace hF := ite_f h7 hF
        have h7_ := eqb_f h7
        have h7__ := neb_t h7
        have F10 := And.intro F7 (And.intro h7 (And.intro h7_ h7__))
        refine CF (by simp [F10] <;> omega) ?_
        refine AW.midF (α := Bool) (fun v5 => cases_Valid.J1 k v5 = some v4) (fun v5 => [(43, AV.bool v5)]) (fun v5 => []) 0 (fun K70 hK70 => ?_) ?_
        ·refine SQ [] [none, none] fun _ _ g r => ?_
         try simp [F10]
         and_intros <;> first | exact g _ (by kernel_rfl) | refine r _ _ _ ?_ | omega | (simp [maxLen, F10] <;> omega)
         refine WK [(32, Iz v1), (43, AV.bool (v1 == 2))] [] 1 (by simp [F10]) (by simp [F10]) ?_
         by_cases h10 : v1 = 2
         ·replace hF := ite_t h10 hF
          have h10q : v1 = 2 := h10
          have h10_ := eqb_t h10q
          have h10__ := neb_f h10q
          have F11 := And.intro F10 (And.intro h10_ (And.intro h10__ h10q))
          refine CT (by simp [F11] <;> omega) ?_
          refine AW.skip ?_
          refine hK70 _ _ _ ?_
          refine RN h0 [] [(43, AV.bool true)] [] 0 (by simp [F11]) (by simp [F11]) ?_
          exact JN (true) hF (by simp [F11]) (by simp [F11])
         ·replace hF := ite_f h10 hF
          have h10_ := eqb_f h10
          have h10__ := neb_t h10
          have F12 := And.intro F10 (And.intro h10 (And.intro h10_ h10__))
          refine CF (by simp [F12] <;> omega) ?_
          refine RG [] [none, none] fun _ _ g r => ?_
          try simp [F12]
          and_intros <;> first | exact g _ (by kernel_rfl) | refine r _ _ _ ?_ | omega | (simp [maxLen, F12] <;> omega)
          refine hK70 _ _ _ ?_
          refine RN h0 [] [(43, AV.bool (v1 == 3))] [] 0 (by simp [F12]) (by simp [F12]) ?_
          exact JN ((v1 == 3)) hF (by simp [F12]) (by simp [F12])
        ·rintro v5 hF
         try dsimp only at hF
         unfold cases_Valid.J1 at hF
         by_cases h9 : v5 = true
         ·replace hF := ite_t h9 hF
          have h9_ := h9
          try simp at h9_
          have F13 := And.intro F10 (And.intro h9 h9_)
          refine CT (by simp [F13] <;> omega) ?_
          refine SQ [] [none] fun _ _ g r => ?_
          try simp [F13]
          and_intros <;> first | exact g _ (by kernel_rfl) | refine r _ _ _ ?_ | omega | (simp [maxLen, F13] <;> omega)
          refine WK [(2, AV.bool true)] [] 0 (by simp [F13]) (by simp [F13]) ?_
          simp only [Option.some.injEq] at hF
          subst hF
          refine AW.ret (hQ _ _ _ ?_ (matchO_0 ?_)).1
          ·simp [Try.f24, F13]
          ·simp [F13]
         ·replace hF := ite_f h9 hF
          have h9_ := h9
          try simp at h9_
          have F14 := And.intro F10 (And.intro h9 h9_)
          refine CF (by simp [F14] <;> omega) ?_
          refine AW.skip ?_
          refine hK62 _ _ _ ?_
          refine SQ [] [none] fun _ _ g r => ?_
          try simp [F14]
          and_intros <;> first | exact g _ (by kernel_rfl) | refine r _ _ _ ?_ | omega | (simp [maxLen, F14] <;> omega)
          refine WK [(2, AV.bool false)] [] 0 (by simp [F14]) (by simp [F14]) ?_
          simp only [Option.some.injEq] at hF
          subst hF
          refine AW.ret (hQ _ _ _ ?_ (matchO_0 ?_)).1
          ·simp [Try.f24, F14]
          ·simp [F14]
theorem w_lists_In (k : Nat) (v0 : Int) (v1 : Int) (v2 : Int) (v3 : Bool) (hF : lists_In k v0 v1 v2 = some v3) :
  FCall Try.prog 51 [AV.int .i64 v0, AV.int .i64 v1, AV.int .i64 v2] [] (AV.bool v3) [] := by
 unfold lists_In at hF
 refine EN Try.func51 ?_
 intro c0 w0 Q h0 hQ
 refine WK [(0, Iz v0), (1, Iz v1), (2, Iz v2)] [] 0 (by simp) (by simp) ?_
 refine SQ [] [none] fun _ _ g r => ?_
 try simp
 and_intros <;> first | exact g _ (by kernel_rfl) | refine r _ _ _ ?_ | omega | (simp [maxLen] <;> omega)
 refine WK [(0, Iz v0), (1, Iz v1), (2, Iz v2)] [] 0 (by simp) (by simp) ?_
 refine SQ [] [none, none, none, none, some (10, true), some (10, true), some (10, true), none, none] fun _ _ g r => ?_
 by_cases h1 : v1 ≤ v0
 ·replace hF := ite_t h1 hF
  have h1_ := h1
  try simp at h1_
  try simp [h1, h1_]
  and_intros <;> first | exact g _ (by kernel_rfl) | refine r _ _ _ ?_ | omega | (simp [h1, h1_, maxLen] <;> omega)
  refine WK [(6, AV.bool (decide (v0 ≤ v2)))] [] 0 (by simp [h1, h1_]) (by simp [h1, h1_]) ?_
  simp only [Option.some.injEq] at hF
  subst hF
  refine AW.ret (hQ _ _ _ ?_ (matchO_0 ?_)).1
  ·simp [Try.f51, h1, h1_]
  ·simp [h1, h1_]
 ·replace hF := ite_f h1 hF
  have h1_ := h1
  try simp at h1_
  try simp [h1, h1_]
  and_intros <;> first | exact g _ (by kernel_rfl) | refine r _ _ _ ?_ | omega | (simp [h1, h1_, maxLen] <;> omega)
  refine WK [(6, AV.bool false)] [] 0 (by simp [h1, h1_]) (by simp [h1, h1_]) ?_
  simp only [Option.some.injEq] at hF
  subst hF
  refine AW.ret (hQ _ _ _ ?_ (matchO_0 ?_)).1
  ·simp [Try.f51, h1, h1_]
  ·simp [h1, h1_]
theorem w_statement_value (k : Nat) (v0 : Int) (v1 : Bool) (hF : statement_value k v0 = some v1) :
  FCall Try.prog 52 [AV.int .i64 v0] [] (AV.bool v1) [] := by
 unfold statement_value at hF
 refine EN Try.func52 ?_
 intro c0 w0 Q h0 hQ
 refine WK [(0, Iz v0)] [] 0 (by simp) (by simp) ?_
 refine SQ [] [none] fun _ _ g r => ?_
 try simp
 and_intros <;> first | exact g _ (by kernel_rfl) | refine r _ _ _ ?_ | omega | (simp [maxLen] <;> omega)
 refine WK [(0, Iz v0)] [] 0 (by simp) (by simp) ?_
 refine SQ [] [none, none, none] fun _ _ g r => ?_
 try simp
 and_intros
 try any_goals first | omega | (simp [maxLen] <;> omega)
 obtain ⟨v2, h1, hF⟩ := bnd1_elim hF
 refine AC (w_lists_In k _ _ _ _ h1) (.cons (.same (by simp)) (.cons (.same (by simp)) (.cons (.same (by simp)) .nil))) ?_
 try simp
 and_intros <;> first | exact g _ (by kernel_rfl) | refine r _ _ _ ?_ | omega | (simp [maxLen] <;> omega)
 refine WK [(2, AV.bool v2)] [] 0 (by simp) (by simp) ?_
 simp only [Option.some.injEq] at hF
 subst hF
 refine AW.ret (hQ _ _ _ ?_ (matchO_0 ?_)).1
 ·simp [Try.f52]
 ·simp
abbrev c_statement_meant (v0 : Int) (v1 : Int) (v2 : ByteArray) (v3 : Int) (v4 : Int) (v5 : Int) (v6 : Int) (v7 : Int) (v8 : (List Int)) (v9 : (List api_Pin)) (v10 : ByteArray) (v11 : Int) (v12 : ByteArray) : AObj := .cells [Iz v0, Iz v1, AV.str v2, Iz v3, Iz v4, Iz v5, Iz v6, Iz v7, Lz v8, AV.lst false false (List.map api_Pin.av v9), AV.str v10, Iz v11, AV.str v12]
theorem w_statement_meant (k : Nat) (v0 : Int) (v1 : Int) (v2 : ByteArray) (v3 : Int) (v4 : Int) (v5 : Int) (v6 : Int) (v7 : Int) (v8 : (List Int)) (v9 : (List api_Pin)) (v10 : ByteArray) (v11 : Int) (v12 : ByteArray) (v13 : Bool) (hF : statement_meant k v0 v1 v2 v3 v4 v5 v6 v7 v8 v9 v10 v11 v12 = some v13) :
  FCall Try.prog 53 [AV.agg [AV.int .i64 v0, AV.int .i64 v1, AV.str v2, AV.int .i64 v3, AV.int .i64 v4, AV.int .i64 v5, AV.int .i64 v6, AV.int .i64 v7, AV.lst false false (List.map (AV.int .i64) v8), AV.lst false false (List.map api_Pin.av v9), AV.str v10, AV.int .i64 v11, AV.str v12]] [] (AV.bool v13) [] := by
 unfold statement_meant at hF
 refine EN Try.func53 ?_
 intro c0 w0 Q h0 hQ
 refine WK [(0, AV.agg [Iz v0, Iz v1, AV.str v2, Iz v3, Iz v4, Iz v5, Iz v6, Iz v7, Lz v8, AV.lst false false (List.map api_Pin.av v9), AV.str v10, Iz v11, AV.str v12])] [] 0 (by simp) (by simp) ?_
 refine SQ [] [none, none] fun _ _ g r => ?_
 try simp
 and_intros <;> first | exact g _ (by kernel_rfl) | refine r _ _ _ ?_ | omega | (simp [maxLen] <;> omega)
 refine WK [(1, AV.ptr 0 0)] [(0, c_statement_meant v0 v1 v2 v3 v4 v5 v6 v7 v8 v9 v10 v11 v12)] 1 (by simp) (by simp) ?_
 refine AW.seq fun K26 hK26 => ?_
 refine SQ [] [none, none] fun _ _ g r => ?_
 try simp
 and_intros <;> first | exact g _ (by kernel_rfl) | refine r _ _ _ ?_ | omega | (simp [maxLen] <;> omega)
 refine WK [(1, AV.ptr 0 0), (4, Iz v4)] [(0, c_statement_meant v0 v1 v2 v3 v4 v5 v6 v7 v8 v9 v10 v11 v12)] 1 (by simp) (by simp) ?_
 refine AW.block ?_
 refine SQ [] [none, none] fun _ _ g r => ?_
 try simp
 and_intros <;> first | exact g _ (by kernel_rfl) | refine r _ _ _ ?_ | omega | (simp [maxLen] <;> omega)
 refine WK [(1, AV.ptr 0 0), (4, Iz v4), (5, AV.bool (v4 == 1))] [(0, c_statement_meant v0 v1 v2 v3 v4 v5 v6 v7 v8 v9 v10 v11 v12)] 1 (by simp) (by simp) ?_
 by_cases h1 : v4 = 1
 ·replace hF := ite_t h1 hF
  have h1q : v4 = 1 := h1
  have h1_ := eqb_t h1q
  have h1__ := neb_f h1q
  have F1 := And.intro h1_ (And.intro h1__ h1q)
  refine CT (by simp [F1] <;> omega) ?_
  refine SQ [] [none, none, none, none, some (10, true), some (10, true), some (10, true), some (10, true), some (10, true), none, none, some (17, true), some (17, true), some (17, true), none, none, some (22, true), some (22, true), some (22, true), some (22, true), some (22, true), none, none] fun _ _ g r => ?_
  try simp [F1]
  and_intros
  try any_goals first | omega | (simp [maxLen, F1] <;> omega)
  obtain ⟨v14, h2, hF⟩ := bnd1_elim hF
  refine AC (w_lists_In k _ _ _ _ h2) (.cons (.same (by simp [F1])) (.cons (.same (by simp [F1])) (.cons (.same (by simp [F1])) .nil))) ?_
  by_cases h3 : v14 = true
  ·replace hF := ite_t h3 hF
   have h3_ := h3
   try simp at h3_
   by_cases h4 : v5 ≠ v0
   ·replace hF := ite_t h4 hF
    have h4_ := eqb_f h4
    have h4__ := neb_t h4
    have F2 := And.intro F1 (And.intro h3 (And.intro h3_ (And.intro h4 (And.intro h4_ h4__))))
    try simp [F2]
    and_intros
    try any_goals first | omega | (simp [maxLen, F2] <;> omega)
    obtain ⟨v15, h5, hF⟩ := bnd1_elim hF
    refine AC (w_lists_In k _ _ _ _ h5) (.cons (.same (by simp [F2])) (.cons (.same (by simp [F2])) (.cons (.same (by simp [F2])) .nil))) ?_
    by_cases h6 : v15 = true
    ·replace hF := ite_t h6 hF
     have h6_ := h6
     try simp at h6_
     have F3 := And.intro F2 (And.intro h6 h6_)
     try simp [F3]
     and_intros
     try any_goals first | omega | (simp [maxLen, F3] <;> omega)
     obtain ⟨v16, h7, hF⟩ := bnd1_elim hF
     refine AC (w_lists_In k _ _ _ _ h7) (.cons (.same (by simp [F3])) (.cons (.same (by simp [F3])) (.cons (.same (by simp [F3])) .nil))) ?_
     try simp [F3]
     and_intros <;> first | exact g _ (by kernel_rfl) | refine r _ _ _ ?_ | omega | (simp [maxLen, F3] <;> omega)
     refine WK [(2, AV.bool v16)] [] 1 (by simp [F3]) (by simp [F3]) ?_
     simp only [Option.some.injEq] at hF
     subst hF
     refine AW.ret (hQ _ _ _ ?_ (matchO_0 ?_)).1
     ·simp [Try.f53, F3]
     ·simp [F3]
    ·replace hF := ite_f h6 hF
     have h6_ := h6
     try simp at h6_
     have F4 := And.intro F2 (And.intro h6 h6_)
     try simp [F4]
     and_intros <;> first | exact g _ (by kernel_rfl) | refine r _ _ _ ?_ | omega | (simp [maxLen, F4] <;> omega)
     refine WK [(2, AV.bool false)] [] 1 (by simp [F4]) (by simp [F4]) ?_
     simp only [Option.some.injEq] at hF
     subst hF
     refine AW.ret (hQ _ _ _ ?_ (matchO_0 ?_)).1
     ·simp [Try.f53, F4]
     ·simp [F4]
   ·replace hF := ite_f h4 hF
    have h4q : v5 = v0 := Classical.not_not.1 h4
    have h4_ := eqb_t h4q
    have h4__ := neb_f h4q
    have F5 := And.intro F1 (And.intro h3 (And.intro h3_ (And.intro h4_ h4__)))
    try simp [F5]
    and_intros <;> first | exact g _ (by kernel_rfl) | refine r _ _ _ ?_ | omega | (simp [maxLen, F5] <;> omega)
    refine WK [(2, AV.bool false)] [] 1 (by simp [F5]) (by simp [F5]) ?_
    simp only [Option.some.injEq] at hF
    subst hF
    refine AW.ret (hQ _ _ _ ?_ (matchO_0 ?_)).1
    ·simp [Try.f53, F5]
    ·simp [F5]
  ·replace hF := ite_f h3 hF
   have h3_ := h3
   try simp at h3_
   have F6 := And.intro F1 (And.intro h3 h3_)
   try simp [F6]
   and_intros <;> first | exact g _ (by kernel_rfl) | refine r _ _ _ ?_ | omega | (simp [maxLen, F6] <;> omega)
   refine WK [(2, AV.bool false)] [] 1 (by simp [F6]) (by simp [F6]) ?_
   simp only [Option.some.injEq] at hF
   subst hF
   refine AW.ret (hQ _ _ _ ?_ (matchO_0 ?_)).1
   ·simp [Try.f53, F6]
   ·simp [F6]
 ·replace hF := ite_f h1 hF
  have h1_ := eqb_f h1
  have h1__ := neb_t h1
  have F7 := And.intro h1 (And.intro h1_ h1__)
  refine CF (by simp [F7] <;> omega) ?_
  refine SQ [] [none, none] fun _ _ g r => ?_
  try simp [F7]
  and_intros <;> first | exact g _ (by kernel_rfl) | refine r _ _ _ ?_ | omega | (simp [maxLen, F7] <;> omega)
  refine WK [(1, AV.ptr 0 0), (4, Iz v4), (29, AV.bool (v4 == 2))] [(0, c_statement_meant v0 v1 v2 v3 v4 v5 v6 v7 v8 v9 v10 v11 v12)] 1 (by simp [F7]) (by simp [F7]) ?_
  by_cases h8 : v4 = 2
  ·replace hF := ite_t h8 hF
   have h8q : v4 = 2 := h8
   have h8_ := eqb_t h8q
   have h8__ := neb_f h8q
   have F8 := And.intro F7 (And.intro h8_ (And.intro h8__ h8q))
   refine CT (by simp [F8] <;> omega) ?_
   refine SQ [] [none, none, none, none, some (34, true), some (34, true), some (34, true), none, none, some (39, true), some (39, true), some (39, true), none, none] fun _ _ g r => ?_
   try simp [F8]
   and_intros
   try any_goals first | omega | (simp [maxLen, F8] <;> omega)
   obtain ⟨v17, h9, hF⟩ := bnd1_elim hF
   refine AC (w_lists_In k _ _ _ _ h9) (.cons (.same (by simp [F8])) (.cons (.same (by simp [F8])) (.cons (.same (by simp [F8])) .nil))) ?_
   by_cases h10 : v17 = true
   ·replace hF := ite_t h10 hF
    have h10_ := h10
    try simp at h10_
    by_cases h11 : v6 = 0
    ·replace hF := ite_t h11 hF
     have h11q : v6 = 0 := h11
     have h11_ := eqb_t h11q
     have h11__ := neb_f h11q
     have F9 := And.intro F8 (And.intro h10 (And.intro h10_ (And.intro h11_ (And.intro h11__ h11q))))
     try simp [F9]
     and_intros <;> first | exact g _ (by kernel_rfl) | refine r _ _ _ ?_ | omega | (simp [maxLen, F9] <;> omega)
     refine WK [(2, AV.bool (v7 == 0))] [] 1 (by simp [F9]) (by simp [F9]) ?_
     simp only [Option.some.injEq] at hF
     subst hF
     refine AW.ret (hQ _ _ _ ?_ (matchO_0 ?_)).1
     ·simp [Try.f53, F9]
     ·simp [F9]
    ·replace hF := ite_f h11 hF
     have h11_ := eqb_f h11
     have h11__ := neb_t h11
     have F10 := And.intro F8 (And.intro h10 (And.intro h10_ (And.intro h11 (And.intro h11_ h11__))))
     try simp [F10]
     and_intros <;> first | exact g _ (by kernel_rfl) | refine r _ _ _ ?_ | omega | (simp [maxLen, F10] <;> omega)
     refine WK [(2, AV.bool false)] [] 1 (by simp [F10]) (by simp [F10]) ?_
     simp only [Option.some.injEq] at hF
     subst hF
     refine AW.ret (hQ _ _ _ ?_ (matchO_0 ?_)).1
     ·simp [Try.f53, F10]
     ·simp [F10]
   ·replace hF := ite_f h10 hF
    have h10_ := h10
    try simp at h10_
    have F11 := And.intro F8 (And.intro h10 h10_)
    try simp [F11]
    and_intros <;> first | exact g _ (by kernel_rfl) | refine r _ _ _ ?_ | omega | (simp [maxLen, F11] <;> omega)
    refine WK [(2, AV.bool false)] [] 1 (by simp [F11]) (by simp [F11]) ?_
    simp only [Option.some.injEq] at hF
    subst hF
    refine AW.ret (hQ _ _ _ ?_ (matchO_0 ?_)).1
    ·simp [Try.f53, F11]
    ·simp [F11]
  ·replace hF := ite_f h8 hF
   have h8_ := eqb_f h8
   have h8__ := neb_t h8
   have F12 := And.intro F7 (And.intro h8 (And.intro h8_ h8__))
   refine CF (by simp [F12] <;> omega) ?_
   refine SQ [] [none, none] fun _ _ g r => ?_
   try simp [F12]
   and_intros <;> first | exact g _ (by kernel_rfl) | refine r _ _ _ ?_ | omega | (simp [maxLen, F12] <;> omega)
   refine WK [(1, AV.ptr 0 0), (44, AV.bool (v4 == 3))] [(0, c_statement_meant v0 v1 v2 v3 v4 v5 v6 v7 v8 v9 v10 v11 v12)] 1 (by simp [F12]) (by simp [F12]) ?_
   by_cases h12 : v4 = 3
   ·replace hF := ite_t h12 hF
    have h12q : v4 = 3 := h12
    have h12_ := eqb_t h12q
    have h12__ := neb_f h12q
    refine CT (by simp [F12, h12_, h12__, h12q] <;> omega) ?_
    refine SQ [] [none, none, none, none, some (49, true), some (49, true), some (49, true), none, none, some (54, true), some (54, true), some (54, true), none, none] fun _ _ g r => ?_
    by_cases h13 : v5 = 0
    ·replace hF := ite_t h13 hF
     have h13q : v5 = 0 := h13
     have h13_ := eqb_t h13q
     have h13__ := neb_f h13q
     by_cases h14 : v6 = 0
     ·replace hF := ite_t h14 hF
      have h14q : v6 = 0 := h14
      have h14_ := eqb_t h14q
      have h14__ := neb_f h14q
      have F13 := And.intro F12 (And.intro h12_ (And.intro h12__ (And.intro h12q (And.intro h13_ (And.intro h13__ (And.intro h13q (And.intro h14_ (And.intro h14__ h14q))))))))
      try simp [F13]
      and_intros <;> first | exact g _ (by kernel_rfl) | refine r _ _ _ ?_ | omega | (simp [maxLen, F13] <;> omega)
      refine WK [(2, AV.bool (v7 == 0))] [] 1 (by simp [F13]) (by simp [F13]) ?_
      simp only [Option.some.injEq] at hF
      subst hF
      refine AW.ret (hQ _ _ _ ?_ (matchO_0 ?_)).1
      ·simp [Try.f53, F13]
      ·simp [F13]
     ·replace hF := ite_f h14 hF
      have h14_ := eqb_f h14
      have h14__ := neb_t h14
      have F14 := And.intro F12 (And.intro h12_ (And.intro h12__ (And.intro h12q (And.intro h13_ (And.intro h13__ (And.intro h13q (And.intro h14 (And.intro h14_ h14__))))))))
      try simp [F14]
      and_intros <;> first | exact g _ (by kernel_rfl) | refine r _ _ _ ?_ | omega | (simp [maxLen, F14] <;> omega)
      refine WK [(2, AV.bool false)] [] 1 (by simp [F14]) (by simp [F14]) ?_
      simp only [Option.some.injEq] at hF
      subst hF
      refine AW.ret (hQ _ _ _ ?_ (matchO_0 ?_)).1
      ·simp [Try.f53, F14]
      ·simp [F14]
    ·replace hF := ite_f h13 hF
     have h13_ := eqb_f h13
     have h13__ := neb_t h13
     have F15 := And.intro F12 (And.intro h12_ (And.intro h12__ (And.intro h12q (And.intro h13 (And.intro h13_ h13__)))))
     try simp [F15]
     and_intros <;> first | exact g _ (by kernel_rfl) | refine r _ _ _ ?_ | omega | (simp [maxLen, F15] <;> omega)
     refine WK [(2, AV.bool false)] [] 1 (by simp [F15]) (by simp [F15]) ?_
     simp only [Option.some.injEq] at hF
     subst hF
     refine AW.ret (hQ _ _ _ ?_ (matchO_0 ?_)).1
     ·simp [Try.f53, F15]
     ·simp [F15]
   ·replace hF := ite_f h12 hF
    have h12_ := eqb_f h12
    have h12__ := neb_t h12
    have F16 := And.intro F12 (And.intro h12 (And.intro h12_ h12__))
    refine CF (by simp [F16] <;> omega) ?_
    refine AW.skip ?_
    refine hK26 _ _ _ ?_
    refine SQ [] [none] fun _ _ g r => ?_
    try simp [F16]
    and_intros <;> first | exact g _ (by kernel_rfl) | refine r _ _ _ ?_ | omega | (simp [maxLen, F16] <;> omega)
    refine WK [(2, AV.bool true)] [] 1 (by simp [F16]) (by simp [F16]) ?_
    simp only [Option.some.injEq] at hF
    subst hF
    refine AW.ret (hQ _ _ _ ?_ (matchO_0 ?_)).1
    ·simp [Try.f53, F16]
    ·simp [F16]
theorem w_statement_Check_1 (k : Nat) (v0 : Int) (v1 : Bool) (hF : statement_Check_1 k v0 = some v1) :
  FCall Try.prog 55 [AV.int .i64 v0] [] (AV.bool v1) [] := by
 unfold statement_Check_1 at hF
 refine EN Try.func55 ?_
 intro c0 w0 Q h0 hQ
 refine WK [(0, Iz v0)] [] 0 (by simp) (by simp) ?_
 refine SQ [] [none] fun _ _ g r => ?_
 try simp
 and_intros <;> first | exact g _ (by kernel_rfl) | refine r _ _ _ ?_ | omega | (simp [maxLen] <;> omega)
 refine WK [(0, Iz v0)] [] 0 (by simp) (by simp) ?_
 refine SQ [] [none, none, none, none] fun _ _ g r => ?_
 try simp
 and_intros
 try any_goals first | omega | (simp [maxLen] <;> omega)
 obtain ⟨v2, h1, hF⟩ := bnd1_elim hF
 refine AC (w_statement_value k _ _ h1) (.cons (.same (by simp)) .nil) ?_
 try simp
 and_intros <;> first | exact g _ (by kernel_rfl) | refine r _ _ _ ?_ | omega | (simp [maxLen] <;> omega)
 refine WK [(2, AV.bool (!v2))] [] 0 (by simp) (by simp) ?_
 simp only [Option.some.injEq] at hF
 subst hF
 refine AW.ret (hQ _ _ _ ?_ (matchO_0 ?_)).1
 ·simp [Try.f55]
 ·simp
theorem w_slices_IndexFunc_int_int_Check_1 (k : Nat) (v0 : (List Int)) (v1 : Int) (hF : slices_IndexFunc_int_int_Check_1 k v0 = some v1) :
  FCall Try.prog 66 [AV.lst false false (List.map (AV.int .i64) v0), AV.fn 55 []] [] (AV.int .i64 v1) [] := by
 unfold slices_IndexFunc_int_int_Check_1 at hF
 refine EN Try.func66 ?_
 intro c0 w0 Q h0 hQ
 refine WK [(0, Lz v0), (1, AV.fn 55 [])] [] 0 (by simp) (by simp) ?_
 refine SQ [] [none] fun _ _ g r => ?_
 try simp
 and_intros <;> first | exact g _ (by kernel_rfl) | refine r _ _ _ ?_ | omega | (simp [maxLen] <;> omega)
 refine WK [(0, Lz v0), (1, AV.fn 55 [])] [] 0 (by simp) (by simp) ?_
 refine AW.seq fun K131 hK131 => ?_
 refine SQ [] [none, none, none] fun _ _ g r => ?_
 try simp
 and_intros <;> first | exact g _ (by kernel_rfl) | refine r _ _ _ ?_ | omega | (simp [maxLen] <;> omega)
 refine WK [(0, Lz v0), (1, AV.fn 55 []), (7, Iz (v0.length : Int)), (8, Iz 0)] [] 0 (by simp) (by simp) ?_
 refine AW.block ?_
 refine AW.loopF (α := Int) (fun n v2 => slices_IndexFunc_int_int_Check_1.L1 k v0 n v2 = some v1) (fun v2 => [(0, Lz v0), (1, AV.fn 55 []), (7, Iz (v0.length : Int)), (8, Iz v2)]) (fun v2 => []) 0 k (0) hF (by simp) (by simp) (by simp) ?_
 rintro (_|n1) v2 hF K163 hK163
 ·try dsimp only at hF
  rw [slices_IndexFunc_int_int_Check_1.L1] at hF; cases hF
 try dsimp only at hF
 rw [slices_IndexFunc_int_int_Check_1.L1] at hF
 refine SQ [] [none] fun _ _ g r => ?_
 try simp
 and_intros <;> first | exact g _ (by kernel_rfl) | refine r _ _ _ ?_ | omega | (simp [maxLen] <;> omega)
 refine WK [(0, Lz v0), (1, AV.fn 55 []), (7, Iz (v0.length : Int)), (8, Iz v2), (9, AV.bool (decide (v2 < (v0.length : Int))))] [] 0 (by simp) (by simp) ?_
 refine AW.seq fun K165 hK165 => ?_
 by_cases h1 : v2 < (v0.length : Int)
 ·replace hF := ite_t h1 hF
  have h1_ := h1
  try simp at h1_
  refine CT (by simp [h1, h1_] <;> omega) ?_
  refine AW.skip ?_
  refine hK165 _ _ _ ?_
  refine AW.seq fun K169 hK169 => ?_
  refine AW.block ?_
  refine SQ [] [none, none] fun _ _ g r => ?_
  try simp [h1, h1_]
  and_intros <;> first | exact g _ (by kernel_rfl) | refine r _ _ _ ?_ | omega | (simp [h1, h1_, maxLen] <;> omega)
  refine WK [(0, Lz v0), (1, AV.fn 55 []), (5, Iz v2), (7, Iz (v0.length : Int)), (8, Iz v2)] [] 0 (by simp [h1, h1_]) (by simp [h1, h1_]) ?_
  refine SQ [] [none, none, none, none, none, none] fun _ _ g r => ?_
  obtain ⟨v3, h2, h3, h4, hF⟩ := idx_elim hF
  have h4_ := get_of h4
  try simp at h4_
  have h3_ := h3
  try simp at h3_
  have F1 := And.intro h1 (And.intro h1_ (And.intro h2 (And.intro h3 (And.intro h4 (And.intro h4_ h3_)))))
  try simp [F1]
  and_intros
  try any_goals first | omega | (simp [maxLen, F1] <;> omega)
  obtain ⟨v4, h5, hF⟩ := bnd1_elim hF
  refine AC (w_statement_Check_1 k _ _ h5) (.cons (.same (by simp [F1])) .nil) ?_
  try simp [F1]
  and_intros <;> first | exact g _ (by kernel_rfl) | refine r _ _ _ ?_ | omega | (simp [maxLen, F1] <;> omega)
  refine WK [(0, Lz v0), (1, AV.fn 55 []), (5, Iz v2), (7, Iz (v0.length : Int)), (8, Iz v2), (16, AV.bool v4)] [] 0 (by simp [F1]) (by simp [F1]) ?_
  by_cases h6 : v4 = true
  ·replace hF := ite_t h6 hF
   have h6_ := h6
   try simp at h6_
   have F2 := And.intro F1 (And.intro h6 h6_)
   refine CT (by simp [F2] <;> omega) ?_
   refine SQ [] [none, none] fun _ _ g r => ?_
   try simp [F2]
   and_intros <;> first | exact g _ (by kernel_rfl) | refine r _ _ _ ?_ | omega | (simp [maxLen, F2] <;> omega)
   refine WK [(4, Iz v2)] [] 0 (by simp [F2]) (by simp [F2]) ?_
   simp only [Option.some.injEq] at hF
   subst hF
   refine AW.ret (hQ _ _ _ ?_ (matchO_0 ?_)).1
   ·simp [Try.f66, F2]
   ·simp [F2]
  ·replace hF := ite_f h6 hF
   have h6_ := h6
   try simp at h6_
   have F3 := And.intro F1 (And.intro h6 h6_)
   refine CF (by simp [F3] <;> omega) ?_
   refine AW.skip ?_
   refine hK169 _ _ _ ?_
   refine RG [] [none, none] fun _ _ g r => ?_
   try simp [F3]
   and_intros <;> first | exact g _ (by kernel_rfl) | refine r _ _ _ ?_ | omega | (simp [maxLen, F3] <;> omega)
   refine hK163 _ _ _ ?_
   exact NX (k' := n1) (IntKind.wrap .i64 (v2 + 1)) hF (by simp [F3]) (by simp [F3])
 ·replace hF := ite_f h1 hF
  have h1_ := h1
  try simp at h1_
  refine CF (by simp [h1, h1_] <;> omega) ?_
  refine AW.exit ?_
  try simp
  refine hK131 _ _ _ ?_
  refine SQ [] [none] fun _ _ g r => ?_
  try simp [h1, h1_]
  and_intros <;> first | exact g _ (by kernel_rfl) | refine r _ _ _ ?_ | omega | (simp [h1, h1_, maxLen] <;> omega)
  refine WK [(4, Iz (-1))] [] 0 (by simp [h1, h1_]) (by simp [h1, h1_]) ?_
  simp only [Option.some.injEq] at hF
  subst hF
  refine AW.ret (hQ _ _ _ ?_ (matchO_0 ?_)).1
  ·simp [Try.f66, h1, h1_]
  ·simp [h1, h1_]
theorem w_slices_ContainsFunc_int_int_Check_1 (k : Nat) (v0 : (List Int)) (v1 : Bool) (hF : slices_ContainsFunc_int_int_Check_1 k v0 = some v1) :
  FCall Try.prog 54 [AV.lst false false (List.map (AV.int .i64) v0), AV.fn 55 []] [] (AV.bool v1) [] := by
 unfold slices_ContainsFunc_int_int_Check_1 at hF
 refine EN Try.func54 ?_
 intro c0 w0 Q h0 hQ
 refine WK [(0, Lz v0), (1, AV.fn 55 [])] [] 0 (by simp) (by simp) ?_
 refine SQ [] [none] fun _ _ g r => ?_
 try simp
 and_intros <;> first | exact g _ (by kernel_rfl) | refine r _ _ _ ?_ | omega | (simp [maxLen] <;> omega)
 refine WK [(0, Lz v0), (1, AV.fn 55 [])] [] 0 (by simp) (by simp) ?_
 refine SQ [] [none, none, none, none, none] fun _ _ g r => ?_
 try simp
 and_intros
 try any_goals first | omega | (simp [maxLen] <;> omega)
 obtain ⟨v2, h1, hF⟩ := bnd1_elim hF
 refine AC (w_slices_IndexFunc_int_int_Check_1 k _ _ h1) (.cons (.same (by simp)) (.cons (.same (by simp)) .nil)) ?_
 try simp
 and_intros <;> first | exact g _ (by kernel_rfl) | refine r _ _ _ ?_ | omega | (simp [maxLen] <;> omega)
 refine WK [(4, AV.bool (decide (0 ≤ v2)))] [] 0 (by simp) (by simp) ?_
 simp only [Option.some.injEq] at hF
 subst hF
 refine AW.ret (hQ _ _ _ ?_ (matchO_0 ?_)).1
 ·simp [Try.f54]
 ·simp
theorem w_statement_pinned (k : Nat) (v0 : (List api_Pin)) (v1 : Bool) (hF : statement_pinned k v0 = some v1) :
  FCall Try.prog 56 [AV.lst false false (List.map api_Pin.av v0)] [] (AV.bool v1) [] := by
 unfold statement_pinned at hF
 refine EN Try.func56 ?_
 intro c0 w0 Q h0 hQ
 refine WK [(0, AV.lst false false (List.map api_Pin.av v0))] [] 0 (by simp) (by simp) ?_
 refine SQ [] [none] fun _ _ g r => ?_
 try simp
 and_intros <;> first | exact g _ (by kernel_rfl) | refine r _ _ _ ?_ | omega | (simp [maxLen] <;> omega)
 refine WK [(0, AV.lst false false (List.map api_Pin.av v0))] [] 0 (by simp) (by simp) ?_
 refine AW.seq fun K167 hK167 => ?_
 refine SQ [] [none, none, none] fun _ _ g r => ?_
 try simp
 and_intros <;> first | exact g _ (by kernel_rfl) | refine r _ _ _ ?_ | omega | (simp [maxLen] <;> omega)
 refine WK [(0, AV.lst false false (List.map api_Pin.av v0)), (5, AV.lst false false (List.map api_Pin.av v0)), (6, Iz (v0.length : Int)), (7, Iz 0)] [] 0 (by simp) (by simp) ?_
 refine AW.block ?_
 refine AW.loopF (α := Int) (fun n v2 => statement_pinned.L1 k v0 n v2 = some v1) (fun v2 => [(0, AV.lst false false (List.map api_Pin.av v0)), (5, AV.lst false false (List.map api_Pin.av v0)), (6, Iz (v0.length : Int)), (7, Iz v2)]) (fun v2 => []) 0 k (0) hF (by simp) (by simp) (by simp) ?_
 rintro (_|n1) v2 hF K209 hK209
 ·try dsimp only at hF
  rw [statement_pinned.L1] at hF; cases hF
 try dsimp only at hF
 rw [statement_pinned.L1] at hF
 refine SQ [] [none] fun _ _ g r => ?_
 try simp
 and_intros <;> first | exact g _ (by kernel_rfl) | refine r _ _ _ ?_ | omega | (simp [maxLen] <;> omega)
 refine WK [(0, AV.lst false false (List.map api_Pin.av v0)), (5, AV.lst false false (List.map api_Pin.av v0)), (6, Iz (v0.length : Int)), (7, Iz v2), (8, AV.bool (decide (v2 < (v0.length : Int))))] [] 0 (by simp) (by simp) ?_
 refine AW.seq fun K211 hK211 => ?_
 by_cases h1 : v2 < (v0.length : Int)
 ·replace hF := ite_t h1 hF
  have h1_ := h1
  try simp at h1_
  refine CT (by simp [h1, h1_] <;> omega) ?_
  refine AW.skip ?_
  refine hK211 _ _ _ ?_
  refine AW.seq fun K216 hK216 => ?_
  refine AW.block ?_
  refine SQ [] [none, none, none, none, none, none] fun _ _ g r => ?_
  obtain ⟨v3, h2, h3, h4, hF⟩ := idx_elim hF
  have h4_ := get_of h4
  try simp at h4_
  have h3_ := h3
  try simp at h3_
  have F1 := And.intro h1 (And.intro h1_ (And.intro h2 (And.intro h3 (And.intro h4 (And.intro h4_ h3_)))))
  try simp [F1]
  and_intros <;> first | exact g _ (by kernel_rfl) | refine r _ _ _ ?_ | omega | (simp [maxLen, F1] <;> omega)
  refine WK [(0, AV.lst false false (List.map api_Pin.av v0)), (3, Iz v2), (4, AV.ptr 0 0), (5, AV.lst false false (List.map api_Pin.av v0)), (6, Iz (v0.length : Int)), (7, Iz v2)] [(0, .cells [Iz v3.Author, Iz v3.Height, AV.str v3.Digest])] 1 (by simp [F1]) (by simp [F1]) ?_
  refine AW.midF (α := Bool) (fun v4 => statement_pinned.J2 k v2 (fun v2_ => statement_pinned.L1 k v0 n1 v2_) v4 = some v1) (fun v4 => [(0, AV.lst false false (List.map api_Pin.av v0)), (5, AV.lst false false (List.map api_Pin.av v0)), (6, Iz (v0.length : Int)), (7, Iz v2), (42, AV.bool v4)]) (fun v4 => []) 0 (fun K221 hK221 => ?_) ?_
  ·refine RG [] [none, none, none, none, none, some (16, false), some (16, false), some (16, false), some (19, true), some (19, true), some (19, true), some (19, true), some (19, true), some (19, true), some (19, true), some (19, true), some (19, true), some (16, false), none, none, some (31, false), some (31, false), some (31, false), some (31, false), none, none, some (37, false), some (37, false), some (37, false), some (37, false), none] fun _ _ g r => ?_
   try simp [F1]
   and_intros
   try any_goals first | omega | (simp [maxLen, F1] <;> omega)
   obtain ⟨v5, h6, hF⟩ := bnd1_elim hF
   refine AC (w_lists_In k _ _ _ _ h6) (.cons (.same (by simp [F1])) (.cons (.same (by simp [F1])) (.cons (.same (by simp [F1])) .nil))) ?_
   by_cases h7 : (!v5) = true
   ·replace hF := ite_t h7 hF
    have h7_ := h7
    try simp at h7_
    have F2 := And.intro F1 (And.intro h7 h7_)
    try simp [F2]
    and_intros <;> first | exact g _ (by kernel_rfl) | refine r _ _ _ ?_ | omega | (simp [maxLen, F2] <;> omega)
    refine hK221 _ _ _ ?_
    refine RN h0 [] [(0, AV.lst false false (List.map api_Pin.av v0)), (5, AV.lst false false (List.map api_Pin.av v0)), (6, Iz (v0.length : Int)), (7, Iz v2), (42, AV.bool true)] [] 0 (by simp [F2]) (by simp [F2]) ?_
    exact JN (true) hF (by simp [F2]) (by simp [F2])
   ·replace hF := ite_f h7 hF
    have h7_ := h7
    try simp at h7_
    by_cases h8 : 0 < v2
    ·replace hF := ite_t h8 hF
     have h8_ := h8
     try simp at h8_
     obtain ⟨v6, h9, h10, h11, hF⟩ := idx_elim hF
     have h11_ := get_of h11
     try simp at h11_
     have h10_ := h10
     try simp at h10_
     by_cases h12 : v3.Author ≤ v6.Author
     ·replace hF := ite_t h12 hF
      have h12_ := h12
      try simp at h12_
      have F3 := And.intro F1 (And.intro h7 (And.intro h7_ (And.intro h8 (And.intro h8_ (And.intro h9 (And.intro h10 (And.intro h11 (And.intro h11_ (And.intro h10_ (And.intro h12 h12_))))))))))
      try simp [F3]
      and_intros <;> first | exact g _ (by kernel_rfl) | refine r _ _ _ ?_ | omega | (simp [maxLen, F3] <;> omega)
      refine hK221 _ _ _ ?_
      refine RN h0 [] [(0, AV.lst false false (List.map api_Pin.av v0)), (5, AV.lst false false (List.map api_Pin.av v0)), (6, Iz (v0.length : Int)), (7, Iz v2), (42, AV.bool true)] [] 0 (by simp [F3]) (by simp [F3]) ?_
      exact JN (true) hF (by simp [F3]) (by simp [F3])
     ·replace hF := ite_f h12 hF
      have h12_ := h12
      try simp at h12_
      have F4 := And.intro F1 (And.intro h7 (And.intro h7_ (And.intro h8 (And.intro h8_ (And.intro h9 (And.intro h10 (And.intro h11 (And.intro h11_ (And.intro h10_ (And.intro h12 h12_))))))))))
      try simp [F4]
      and_intros
      try any_goals first | omega | (simp [maxLen, F4] <;> omega)
      obtain ⟨v7, h13, hF⟩ := bnd1_elim hF
      refine AC (w_lists_In k _ _ _ _ h13) (.cons (.same (by simp [F4])) (.cons (.same (by simp [F4])) (.cons (.same (by simp [F4])) .nil))) ?_
      by_cases h14 : (!v7) = true
      ·replace hF := ite_t h14 hF
       have h14_ := h14
       try simp at h14_
       have F5 := And.intro F4 (And.intro h14 h14_)
       try simp [F5]
       and_intros <;> first | exact g _ (by kernel_rfl) | refine r _ _ _ ?_ | omega | (simp [maxLen, F5] <;> omega)
       refine hK221 _ _ _ ?_
       refine RN h0 [] [(0, AV.lst false false (List.map api_Pin.av v0)), (5, AV.lst false false (List.map api_Pin.av v0)), (6, Iz (v0.length : Int)), (7, Iz v2), (42, AV.bool true)] [] 0 (by simp [F5]) (by simp [F5]) ?_
       exact JN (true) hF (by simp [F5]) (by simp [F5])
      ·replace hF := ite_f h14 hF
       have h14_ := h14
       try simp at h14_
       have F6 := And.intro F4 (And.intro h14 h14_)
       try simp [F6]
       and_intros <;> first | exact g _ (by kernel_rfl) | refine r _ _ _ ?_ | omega | (simp [maxLen, F6] <;> omega)
       refine hK221 _ _ _ ?_
       refine RN h0 [] [(0, AV.lst false false (List.map api_Pin.av v0)), (5, AV.lst false false (List.map api_Pin.av v0)), (6, Iz (v0.length : Int)), (7, Iz v2), (42, AV.bool ((v3.Digest.size : Int) != 32))] [] 0 (by simp [F6]) (by simp [F6]) ?_
       exact JN (((v3.Digest.size : Int) != 32)) hF (by simp [F6]) (by simp [F6])
    ·replace hF := ite_f h8 hF
     have h8_ := h8
     try simp at h8_
     have F7 := And.intro F1 (And.intro h7 (And.intro h7_ (And.intro h8 h8_)))
     try simp [F7]
     and_intros
     try any_goals first | omega | (simp [maxLen, F7] <;> omega)
     obtain ⟨v8, h15, hF⟩ := bnd1_elim hF
     refine AC (w_lists_In k _ _ _ _ h15) (.cons (.same (by simp [F7])) (.cons (.same (by simp [F7])) (.cons (.same (by simp [F7])) .nil))) ?_
     by_cases h16 : (!v8) = true
     ·replace hF := ite_t h16 hF
      have h16_ := h16
      try simp at h16_
      have F8 := And.intro F7 (And.intro h16 h16_)
      try simp [F8]
      and_intros <;> first | exact g _ (by kernel_rfl) | refine r _ _ _ ?_ | omega | (simp [maxLen, F8] <;> omega)
      refine hK221 _ _ _ ?_
      refine RN h0 [] [(0, AV.lst false false (List.map api_Pin.av v0)), (5, AV.lst false false (List.map api_Pin.av v0)), (6, Iz (v0.length : Int)), (7, Iz v2), (42, AV.bool true)] [] 0 (by simp [F8]) (by simp [F8]) ?_
      exact JN (true) hF (by simp [F8]) (by simp [F8])
     ·replace hF := ite_f h16 hF
      have h16_ := h16
      try simp at h16_
      have F9 := And.intro F7 (And.intro h16 h16_)
      try simp [F9]
      and_intros <;> first | exact g _ (by kernel_rfl) | refine r _ _ _ ?_ | omega | (simp [maxLen, F9] <;> omega)
      refine hK221 _ _ _ ?_
      refine RN h0 [] [(0, AV.lst false false (List.map api_Pin.av v0)), (5, AV.lst false false (List.map api_Pin.av v0)), (6, Iz (v0.length : Int)), (7, Iz v2), (42, AV.bool ((v3.Digest.size : Int) != 32))] [] 0 (by simp [F9]) (by simp [F9]) ?_
      exact JN (((v3.Digest.size : Int) != 32)) hF (by simp [F9]) (by simp [F9])
  ·rintro v4 hF
   try dsimp only at hF
   unfold statement_pinned.J2 at hF
   by_cases h5 : v4 = true
   ·replace hF := ite_t h5 hF
    have h5_ := h5
    try simp at h5_
    have F10 := And.intro F1 (And.intro h5 h5_)
    refine CT (by simp [F10] <;> omega) ?_
    refine SQ [] [none] fun _ _ g r => ?_
    try simp [F10]
    and_intros <;> first | exact g _ (by kernel_rfl) | refine r _ _ _ ?_ | omega | (simp [maxLen, F10] <;> omega)
    refine WK [(2, AV.bool false)] [] 0 (by simp [F10]) (by simp [F10]) ?_
    simp only [Option.some.injEq] at hF
    subst hF
    refine AW.ret (hQ _ _ _ ?_ (matchO_0 ?_)).1
    ·simp [Try.f56, F10]
    ·simp [F10]
   ·replace hF := ite_f h5 hF
    have h5_ := h5
    try simp at h5_
    have F11 := And.intro F1 (And.intro h5 h5_)
    refine CF (by simp [F11] <;> omega) ?_
    refine AW.skip ?_
    refine hK216 _ _ _ ?_
    refine RG [] [none, none] fun _ _ g r => ?_
    try simp [F11]
    and_intros <;> first | exact g _ (by kernel_rfl) | refine r _ _ _ ?_ | omega | (simp [maxLen, F11] <;> omega)
    refine hK209 _ _ _ ?_
    exact NX (k' := n1) (IntKind.wrap .i64 (v2 + 1)) hF (by simp [F11]) (by simp [F11])
 ·replace hF := ite_f h1 hF
  have h1_ := h1
  try simp at h1_
  refine CF (by simp [h1, h1_] <;> omega) ?_
  refine AW.exit ?_
  try simp
  refine hK167 _ _ _ ?_
  refine SQ [] [none] fun _ _ g r => ?_
  try simp [h1, h1_]
  and_intros <;> first | exact g _ (by kernel_rfl) | refine r _ _ _ ?_ | omega | (simp [h1, h1_, maxLen] <;> omega)
  refine WK [(2, AV.bool true)] [] 0 (by simp [h1, h1_]) (by simp [h1, h1_]) ?_
  simp only [Option.some.injEq] at hF
  subst hF
  refine AW.ret (hQ _ _ _ ?_ (matchO_0 ?_)).1
  ·simp [Try.f56, h1, h1_]
  ·simp [h1, h1_]
abbrev c_statement_Check (v0 : Int) (v1 : Int) (v2 : ByteArray) (v3 : Int) (v4 : Int) (v5 : Int) (v6 : Int) (v7 : Int) (v8 : (List Int)) (v9 : (List api_Pin)) (v10 : ByteArray) (v11 : Int) (v12 : ByteArray) : AObj := .cells [Iz v0, Iz v1, AV.str v2, Iz v3, Iz v4, Iz v5, Iz v6, Iz v7, Lz v8, AV.lst false false (List.map api_Pin.av v9), AV.str v10, Iz v11, AV.str v12]
theorem w_statement_Check (k : Nat) (v0 : Int) (v1 : Int) (v2 : ByteArray) (v3 : Int) (v4 : Int) (v5 : Int) (v6 : Int) (v7 : Int) (v8 : (List Int)) (v9 : (List api_Pin)) (v10 : ByteArray) (v11 : Int) (v12 : ByteArray) (v13 : Int) (hF : statement_Check k v0 v1 v2 v3 v4 v5 v6 v7 v8 v9 v10 v11 v12 = some v13) :
  FCall Try.prog 39 [AV.agg [AV.int .i64 v0, AV.int .i64 v1, AV.str v2, AV.int .i64 v3, AV.int .i64 v4, AV.int .i64 v5, AV.int .i64 v6, AV.int .i64 v7, AV.lst false false (List.map (AV.int .i64) v8), AV.lst false false (List.map api_Pin.av v9), AV.str v10, AV.int .i64 v11, AV.str v12]] [] (AV.int .i64 v13) [] := by
 unfold statement_Check at hF
 refine EN Try.func39 ?_
 intro c0 w0 Q h0 hQ
 refine WK [(0, AV.agg [Iz v0, Iz v1, AV.str v2, Iz v3, Iz v4, Iz v5, Iz v6, Iz v7, Lz v8, AV.lst false false (List.map api_Pin.av v9), AV.str v10, Iz v11, AV.str v12])] [] 0 (by simp) (by simp) ?_
 refine SQ [] [none, none] fun _ _ g r => ?_
 try simp
 and_intros <;> first | exact g _ (by kernel_rfl) | refine r _ _ _ ?_ | omega | (simp [maxLen] <;> omega)
 refine WK [(1, AV.ptr 0 0)] [(0, c_statement_Check v0 v1 v2 v3 v4 v5 v6 v7 v8 v9 v10 v11 v12)] 1 (by simp) (by simp) ?_
 refine SQ [] [none, none, none, none] fun _ _ g r => ?_
 try simp
 and_intros <;> first | exact g _ (by kernel_rfl) | refine r _ _ _ ?_ | omega | (simp [maxLen] <;> omega)
 refine WK [(1, AV.ptr 0 0), (3, AV.bool (decide (v4 ≤ 3)))] [(0, c_statement_Check v0 v1 v2 v3 v4 v5 v6 v7 v8 v9 v10 v11 v12)] 1 (by simp) (by simp) ?_
 refine AW.midF (α := Unit) (fun _ => statement_Check.J1 k = some v13) (fun _ => []) (fun _ => []) 0 (fun K116 hK116 => ?_) ?_
 ·refine AW.block ?_
  refine SQ [] [none, none, none, none, none] fun _ _ g r => ?_
  try simp
  and_intros
  try any_goals first | omega | (simp [maxLen] <;> omega)
  obtain ⟨v14, h1, hF⟩ := bnd1_elim hF
  refine AC (w_lists_In k _ _ _ _ h1) (.cons (.same (by simp)) (.cons (.same (by simp)) (.cons (.same (by simp)) .nil))) ?_
  try simp
  and_intros <;> first | exact g _ (by kernel_rfl) | refine r _ _ _ ?_ | omega | (simp [maxLen] <;> omega)
  refine WK [(1, AV.ptr 0 0), (3, AV.bool (decide (v4 ≤ 3))), (7, AV.bool (!v14))] [(0, c_statement_Check v0 v1 v2 v3 v4 v5 v6 v7 v8 v9 v10 v11 v12)] 1 (by simp) (by simp) ?_
  by_cases h2 : (!v14) = true
  ·replace hF := ite_t h2 hF
   have h2_ := h2
   try simp at h2_
   refine CT (by simp [h2, h2_] <;> omega) ?_
   refine SQ [] [none] fun _ _ g r => ?_
   try simp [h2, h2_]
   and_intros <;> first | exact g _ (by kernel_rfl) | refine r _ _ _ ?_ | omega | (simp [h2, h2_, maxLen] <;> omega)
   refine WK [(2, Iz 4)] [] 1 (by simp [h2, h2_]) (by simp [h2, h2_]) ?_
   simp only [Option.some.injEq] at hF
   subst hF
   refine AW.ret (hQ _ _ _ ?_ (matchO_0 ?_)).1
   ·simp [Try.f39, h2, h2_]
   ·simp [h2, h2_]
  ·replace hF := ite_f h2 hF
   have h2_ := h2
   try simp at h2_
   refine CF (by simp [h2, h2_] <;> omega) ?_
   refine SQ [] [none, none, none, none, none, some (17, true), some (17, true), some (17, true), some (17, true), none, none] fun _ _ g r => ?_
   try simp [h2, h2_]
   and_intros
   try any_goals first | omega | (simp [h2, h2_, maxLen] <;> omega)
   obtain ⟨v15, h3, hF⟩ := bnd1_elim hF
   refine AC (w_lists_In k _ _ _ _ h3) (.cons (.same (by simp [h2, h2_])) (.cons (.same (by simp [h2, h2_])) (.cons (.same (by simp [h2, h2_])) .nil))) ?_
   by_cases h4 : (!v15) = true
   ·replace hF := ite_t h4 hF
    have h4_ := h4
    try simp at h4_
    have F1 := And.intro h2 (And.intro h2_ (And.intro h4 h4_))
    try simp [F1]
    and_intros
    try any_goals first | omega | (simp [maxLen, F1] <;> omega)
    obtain ⟨v16, h5, hF⟩ := bnd1_elim hF
    refine AC (w_lists_In k _ _ _ _ h5) (.cons (.same (by simp [F1])) (.cons (.same (by simp [F1])) (.cons (.same (by simp [F1])) .nil))) ?_
    try simp [F1]
    and_intros <;> first | exact g _ (by kernel_rfl) | refine r _ _ _ ?_ | omega | (simp [maxLen, F1] <;> omega)
    refine WK [(1, AV.ptr 0 0), (3, AV.bool (decide (v4 ≤ 3))), (12, AV.bool (!v16))] [(0, c_statement_Check v0 v1 v2 v3 v4 v5 v6 v7 v8 v9 v10 v11 v12)] 1 (by simp [F1]) (by simp [F1]) ?_
    by_cases h6 : (!v16) = true
    ·replace hF := ite_t h6 hF
     have h6_ := h6
     try simp at h6_
     have F2 := And.intro F1 (And.intro h6 h6_)
     refine CT (by simp [F2] <;> omega) ?_
     refine SQ [] [none] fun _ _ g r => ?_
     try simp [F2]
     and_intros <;> first | exact g _ (by kernel_rfl) | refine r _ _ _ ?_ | omega | (simp [maxLen, F2] <;> omega)
     refine WK [(2, Iz 5)] [] 1 (by simp [F2]) (by simp [F2]) ?_
     simp only [Option.some.injEq] at hF
     subst hF
     refine AW.ret (hQ _ _ _ ?_ (matchO_0 ?_)).1
     ·simp [Try.f39, F2]
     ·simp [F2]
    ·replace hF := ite_f h6 hF
     have h6_ := h6
     try simp at h6_
     have F3 := And.intro F1 (And.intro h6 h6_)
     refine CF (by simp [F3] <;> omega) ?_
     refine SQ [] [none, none, none, none, none] fun _ _ g r => ?_
     try simp [F3]
     and_intros
     try any_goals first | omega | (simp [maxLen, F3] <;> omega)
     obtain ⟨v17, h7, hF⟩ := bnd1_elim hF
     refine AC (w_lists_In k _ _ _ _ h7) (.cons (.same (by simp [F3])) (.cons (.same (by simp [F3])) (.cons (.same (by simp [F3])) .nil))) ?_
     try simp [F3]
     and_intros <;> first | exact g _ (by kernel_rfl) | refine r _ _ _ ?_ | omega | (simp [maxLen, F3] <;> omega)
     refine WK [(1, AV.ptr 0 0), (3, AV.bool (decide (v4 ≤ 3))), (23, AV.bool (!v17))] [(0, c_statement_Check v0 v1 v2 v3 v4 v5 v6 v7 v8 v9 v10 v11 v12)] 1 (by simp [F3]) (by simp [F3]) ?_
     by_cases h8 : (!v17) = true
     ·replace hF := ite_t h8 hF
      have h8_ := h8
      try simp at h8_
      have F4 := And.intro F3 (And.intro h8 h8_)
      refine CT (by simp [F4] <;> omega) ?_
      refine SQ [] [none] fun _ _ g r => ?_
      try simp [F4]
      and_intros <;> first | exact g _ (by kernel_rfl) | refine r _ _ _ ?_ | omega | (simp [maxLen, F4] <;> omega)
      refine WK [(2, Iz 9)] [] 1 (by simp [F4]) (by simp [F4]) ?_
      simp only [Option.some.injEq] at hF
      subst hF
      refine AW.ret (hQ _ _ _ ?_ (matchO_0 ?_)).1
      ·simp [Try.f39, F4]
      ·simp [F4]
     ·replace hF := ite_f h8 hF
      have h8_ := h8
      try simp at h8_
      have F5 := And.intro F3 (And.intro h8 h8_)
      refine CF (by simp [F5] <;> omega) ?_
      refine SQ [] [none, none, none, none, none, some (33, false), some (33, false), some (33, false), some (33, false), none, none, some (39, false), some (39, false), some (39, false), some (39, false), none, none, some (45, false), some (45, false), some (45, false), some (45, false), none, none, some (51, false), some (51, false), some (51, false), none, none, some (56, false), some (56, false), some (56, false), none, none] fun _ _ g r => ?_
      try simp [F5]
      and_intros
      try any_goals first | omega | (simp [maxLen, F5] <;> omega)
      obtain ⟨v18, h9, hF⟩ := bnd1_elim hF
      refine AC (w_lists_In k _ _ _ _ h9) (.cons (.same (by simp [F5])) (.cons (.same (by simp [F5])) (.cons (.same (by simp [F5])) .nil))) ?_
      by_cases h10 : (!v18) = true
      ·replace hF := ite_t h10 hF
       have h10_ := h10
       try simp at h10_
       have F6 := And.intro F5 (And.intro h10 h10_)
       try simp [F6]
       and_intros <;> first | exact g _ (by kernel_rfl) | refine r _ _ _ ?_ | omega | (simp [maxLen, F6] <;> omega)
       refine WK [(1, AV.ptr 0 0), (3, AV.bool (decide (v4 ≤ 3))), (28, AV.bool true)] [(0, c_statement_Check v0 v1 v2 v3 v4 v5 v6 v7 v8 v9 v10 v11 v12)] 1 (by simp [F6]) (by simp [F6]) ?_
       refine CT (by simp [F6]) ?_
       refine SQ [] [none] fun _ _ g r => ?_
       try simp [F6]
       and_intros <;> first | exact g _ (by kernel_rfl) | refine r _ _ _ ?_ | omega | (simp [maxLen, F6] <;> omega)
       refine WK [(2, Iz 2)] [] 1 (by simp [F6]) (by simp [F6]) ?_
       simp only [Option.some.injEq] at hF
       subst hF
       refine AW.ret (hQ _ _ _ ?_ (matchO_0 ?_)).1
       ·simp [Try.f39, F6]
       ·simp [F6]
      ·replace hF := ite_f h10 hF
       have h10_ := h10
       try simp at h10_
       have F7 := And.intro F5 (And.intro h10 h10_)
       try simp [F7]
       and_intros
       try any_goals first | omega | (simp [maxLen, F7] <;> omega)
       obtain ⟨v19, h11, hF⟩ := bnd1_elim hF
       refine AC (w_statement_value k _ _ h11) (.cons (.same (by simp [F7])) .nil) ?_
       by_cases h12 : (!v19) = true
       ·replace hF := ite_t h12 hF
        have h12_ := h12
        try simp at h12_
        have F8 := And.intro F7 (And.intro h12 h12_)
        try simp [F8]
        and_intros <;> first | exact g _ (by kernel_rfl) | refine r _ _ _ ?_ | omega | (simp [maxLen, F8] <;> omega)
        refine WK [(1, AV.ptr 0 0), (3, AV.bool (decide (v4 ≤ 3))), (28, AV.bool true)] [(0, c_statement_Check v0 v1 v2 v3 v4 v5 v6 v7 v8 v9 v10 v11 v12)] 1 (by simp [F8]) (by simp [F8]) ?_
        refine CT (by simp [F8]) ?_
        refine SQ [] [none] fun _ _ g r => ?_
        try simp [F8]
        and_intros <;> first | exact g _ (by kernel_rfl) | refine r _ _ _ ?_ | omega | (simp [maxLen, F8] <;> omega)
        refine WK [(2, Iz 2)] [] 1 (by simp [F8]) (by simp [F8]) ?_
        simp only [Option.some.injEq] at hF
        subst hF
        refine AW.ret (hQ _ _ _ ?_ (matchO_0 ?_)).1
        ·simp [Try.f39, F8]
        ·simp [F8]
       ·replace hF := ite_f h12 hF
        have h12_ := h12
        try simp at h12_
        have F9 := And.intro F7 (And.intro h12 h12_)
        try simp [F9]
        and_intros
        try any_goals first | omega | (simp [maxLen, F9] <;> omega)
        obtain ⟨v20, h13, hF⟩ := bnd1_elim hF
        refine AC (w_statement_value k _ _ h13) (.cons (.same (by simp [F9])) .nil) ?_
        by_cases h14 : (!v20) = true
        ·replace hF := ite_t h14 hF
         have h14_ := h14
         try simp at h14_
         have F10 := And.intro F9 (And.intro h14 h14_)
         try simp [F10]
         and_intros <;> first | exact g _ (by kernel_rfl) | refine r _ _ _ ?_ | omega | (simp [maxLen, F10] <;> omega)
         refine WK [(1, AV.ptr 0 0), (3, AV.bool (decide (v4 ≤ 3))), (28, AV.bool true)] [(0, c_statement_Check v0 v1 v2 v3 v4 v5 v6 v7 v8 v9 v10 v11 v12)] 1 (by simp [F10]) (by simp [F10]) ?_
         refine CT (by simp [F10]) ?_
         refine SQ [] [none] fun _ _ g r => ?_
         try simp [F10]
         and_intros <;> first | exact g _ (by kernel_rfl) | refine r _ _ _ ?_ | omega | (simp [maxLen, F10] <;> omega)
         refine WK [(2, Iz 2)] [] 1 (by simp [F10]) (by simp [F10]) ?_
         simp only [Option.some.injEq] at hF
         subst hF
         refine AW.ret (hQ _ _ _ ?_ (matchO_0 ?_)).1
         ·simp [Try.f39, F10]
         ·simp [F10]
        ·replace hF := ite_f h14 hF
         have h14_ := h14
         try simp at h14_
         have F11 := And.intro F9 (And.intro h14 h14_)
         try simp [F11]
         and_intros
         try any_goals first | omega | (simp [maxLen, F11] <;> omega)
         obtain ⟨v21, h15, hF⟩ := bnd1_elim hF
         refine AC (w_statement_value k _ _ h15) (.cons (.same (by simp [F11])) .nil) ?_
         by_cases h16 : (!v21) = true
         ·replace hF := ite_t h16 hF
          have h16_ := h16
          try simp at h16_
          have F12 := And.intro F11 (And.intro h16 h16_)
          try simp [F12]
          and_intros <;> first | exact g _ (by kernel_rfl) | refine r _ _ _ ?_ | omega | (simp [maxLen, F12] <;> omega)
          refine WK [(1, AV.ptr 0 0), (3, AV.bool (decide (v4 ≤ 3))), (28, AV.bool true)] [(0, c_statement_Check v0 v1 v2 v3 v4 v5 v6 v7 v8 v9 v10 v11 v12)] 1 (by simp [F12]) (by simp [F12]) ?_
          refine CT (by simp [F12]) ?_
          refine SQ [] [none] fun _ _ g r => ?_
          try simp [F12]
          and_intros <;> first | exact g _ (by kernel_rfl) | refine r _ _ _ ?_ | omega | (simp [maxLen, F12] <;> omega)
          refine WK [(2, Iz 2)] [] 1 (by simp [F12]) (by simp [F12]) ?_
          simp only [Option.some.injEq] at hF
          subst hF
          refine AW.ret (hQ _ _ _ ?_ (matchO_0 ?_)).1
          ·simp [Try.f39, F12]
          ·simp [F12]
         ·replace hF := ite_f h16 hF
          have h16_ := h16
          try simp at h16_
          have F13 := And.intro F11 (And.intro h16 h16_)
          try simp [F13]
          and_intros
          try any_goals first | omega | (simp [maxLen, F13] <;> omega)
          obtain ⟨v22, h17, hF⟩ := bnd1_elim hF
          refine AC (w_statement_meant k _ _ _ _ _ _ _ _ _ _ _ _ _ _ h17) (.cons (.same (by simp [F13])) .nil) ?_
          by_cases h18 : (!v22) = true
          ·replace hF := ite_t h18 hF
           have h18_ := h18
           try simp at h18_
           have F14 := And.intro F13 (And.intro h18 h18_)
           try simp [F14]
           and_intros <;> first | exact g _ (by kernel_rfl) | refine r _ _ _ ?_ | omega | (simp [maxLen, F14] <;> omega)
           refine WK [(1, AV.ptr 0 0), (3, AV.bool (decide (v4 ≤ 3))), (28, AV.bool true)] [(0, c_statement_Check v0 v1 v2 v3 v4 v5 v6 v7 v8 v9 v10 v11 v12)] 1 (by simp [F14]) (by simp [F14]) ?_
           refine CT (by simp [F14]) ?_
           refine SQ [] [none] fun _ _ g r => ?_
           try simp [F14]
           and_intros <;> first | exact g _ (by kernel_rfl) | refine r _ _ _ ?_ | omega | (simp [maxLen, F14] <;> omega)
           refine WK [(2, Iz 2)] [] 1 (by simp [F14]) (by simp [F14]) ?_
           simp only [Option.some.injEq] at hF
           subst hF
           refine AW.ret (hQ _ _ _ ?_ (matchO_0 ?_)).1
           ·simp [Try.f39, F14]
           ·simp [F14]
          ·replace hF := ite_f h18 hF
           have h18_ := h18
           try simp at h18_
           have F15 := And.intro F13 (And.intro h18 h18_)
           try simp [F15]
           and_intros
           try any_goals first | omega | (simp [maxLen, F15] <;> omega)
           obtain ⟨v23, h19, hF⟩ := bnd1_elim hF
           refine AC (w_slices_ContainsFunc_int_int_Check_1 k _ _ h19) (.cons (.same (by simp [F15])) (.cons (.same (by simp [F15])) .nil)) ?_
           try simp [F15]
           and_intros <;> first | exact g _ (by kernel_rfl) | refine r _ _ _ ?_ | omega | (simp [maxLen, F15] <;> omega)
           refine WK [(1, AV.ptr 0 0), (3, AV.bool (decide (v4 ≤ 3))), (28, AV.bool v23)] [(0, c_statement_Check v0 v1 v2 v3 v4 v5 v6 v7 v8 v9 v10 v11 v12)] 1 (by simp [F15]) (by simp [F15]) ?_
           by_cases h20 : v23 = true
           ·replace hF := ite_t h20 hF
            have h20_ := h20
            try simp at h20_
            have F16 := And.intro F15 (And.intro h20 h20_)
            refine CT (by simp [F16] <;> omega) ?_
            refine SQ [] [none] fun _ _ g r => ?_
            try simp [F16]
            and_intros <;> first | exact g _ (by kernel_rfl) | refine r _ _ _ ?_ | omega | (simp [maxLen, F16] <;> omega)
            refine WK [(2, Iz 2)] [] 1 (by simp [F16]) (by simp [F16]) ?_
            simp only [Option.some.injEq] at hF
            subst hF
            refine AW.ret (hQ _ _ _ ?_ (matchO_0 ?_)).1
            ·simp [Try.f39, F16]
            ·simp [F16]
           ·replace hF := ite_f h20 hF
            have h20_ := h20
            try simp at h20_
            have F17 := And.intro F15 (And.intro h20 h20_)
            refine CF (by simp [F17] <;> omega) ?_
            refine SQ [] [none, none, none, none, none, some (66, false), some (66, false), some (66, false), some (66, false), none, none, some (72, false), some (72, false), some (72, false), some (72, false), none, none] fun _ _ g r => ?_
            by_cases h21 : 64 < (v8.length : Int)
            ·replace hF := ite_t h21 hF
             have h21_ := h21
             try simp at h21_
             have F18 := And.intro F17 (And.intro h21 h21_)
             try simp [F18]
             and_intros <;> first | exact g _ (by kernel_rfl) | refine r _ _ _ ?_ | omega | (simp [maxLen, F18] <;> omega)
             refine WK [(1, AV.ptr 0 0), (3, AV.bool (decide (v4 ≤ 3))), (61, AV.bool true)] [(0, c_statement_Check v0 v1 v2 v3 v4 v5 v6 v7 v8 v9 v10 v11 v12)] 1 (by simp [F18]) (by simp [F18]) ?_
             refine CT (by simp [F18]) ?_
             refine SQ [] [none] fun _ _ g r => ?_
             try simp [F18]
             and_intros <;> first | exact g _ (by kernel_rfl) | refine r _ _ _ ?_ | omega | (simp [maxLen, F18] <;> omega)
             refine WK [(2, Iz 3)] [] 1 (by simp [F18]) (by simp [F18]) ?_
             simp only [Option.some.injEq] at hF
             subst hF
             refine AW.ret (hQ _ _ _ ?_ (matchO_0 ?_)).1
             ·simp [Try.f39, F18]
             ·simp [F18]
            ·replace hF := ite_f h21 hF
             have h21_ := h21
             try simp at h21_
             by_cases h22 : 64 < (v9.length : Int)
             ·replace hF := ite_t h22 hF
              have h22_ := h22
              try simp at h22_
              have F19 := And.intro F17 (And.intro h21 (And.intro h21_ (And.intro h22 h22_)))
              try simp [F19]
              and_intros <;> first | exact g _ (by kernel_rfl) | refine r _ _ _ ?_ | omega | (simp [maxLen, F19] <;> omega)
              refine WK [(1, AV.ptr 0 0), (3, AV.bool (decide (v4 ≤ 3))), (61, AV.bool true)] [(0, c_statement_Check v0 v1 v2 v3 v4 v5 v6 v7 v8 v9 v10 v11 v12)] 1 (by simp [F19]) (by simp [F19]) ?_
              refine CT (by simp [F19]) ?_
              refine SQ [] [none] fun _ _ g r => ?_
              try simp [F19]
              and_intros <;> first | exact g _ (by kernel_rfl) | refine r _ _ _ ?_ | omega | (simp [maxLen, F19] <;> omega)
              refine WK [(2, Iz 3)] [] 1 (by simp [F19]) (by simp [F19]) ?_
              simp only [Option.some.injEq] at hF
              subst hF
              refine AW.ret (hQ _ _ _ ?_ (matchO_0 ?_)).1
              ·simp [Try.f39, F19]
              ·simp [F19]
             ·replace hF := ite_f h22 hF
              have h22_ := h22
              try simp at h22_
              have F20 := And.intro F17 (And.intro h21 (And.intro h21_ (And.intro h22 h22_)))
              try simp [F20]
              and_intros <;> first | exact g _ (by kernel_rfl) | refine r _ _ _ ?_ | omega | (simp [maxLen, F20] <;> omega)
              refine WK [(1, AV.ptr 0 0), (3, AV.bool (decide (v4 ≤ 3))), (61, AV.bool (decide (4096 < (v10.size : Int))))] [(0, c_statement_Check v0 v1 v2 v3 v4 v5 v6 v7 v8 v9 v10 v11 v12)] 1 (by simp [F20]) (by simp [F20]) ?_
              by_cases h23 : 4096 < (v10.size : Int)
              ·replace hF := ite_t h23 hF
               have h23_ := h23
               try simp at h23_
               have F21 := And.intro F20 (And.intro h23 h23_)
               refine CT (by simp [F21] <;> omega) ?_
               refine SQ [] [none] fun _ _ g r => ?_
               try simp [F21]
               and_intros <;> first | exact g _ (by kernel_rfl) | refine r _ _ _ ?_ | omega | (simp [maxLen, F21] <;> omega)
               refine WK [(2, Iz 3)] [] 1 (by simp [F21]) (by simp [F21]) ?_
               simp only [Option.some.injEq] at hF
               subst hF
               refine AW.ret (hQ _ _ _ ?_ (matchO_0 ?_)).1
               ·simp [Try.f39, F21]
               ·simp [F21]
              ·replace hF := ite_f h23 hF
               have h23_ := h23
               try simp at h23_
               have F22 := And.intro F20 (And.intro h23 h23_)
               refine CF (by simp [F22] <;> omega) ?_
               refine AW.midF (α := Bool) (fun v24 => statement_Check.J2 k v24 = some v13) (fun v24 => [(78, AV.bool v24)]) (fun v24 => []) 0 (fun K136 hK136 => ?_) ?_
               ·refine RG [] [none, none, none, none, some (82, true), some (82, true), some (82, true), none, none, some (87, false), some (87, false), some (87, false), some (87, false), some (91, true), some (91, true), some (91, true), some (91, true), some (87, false), none, none, some (98, false), some (98, false), some (98, false), some (98, false), none, none, some (104, false), some (104, false), some (106, true), some (106, true), some (106, true), some (106, true), some (106, true), some (106, true), some (106, true), some (106, true), some (106, true), some (106, true), some (106, true), some (106, true), some (104, false), none, none] fun _ _ g r => ?_
                by_cases h25 : v1 = 0
                ·replace hF := ite_t h25 hF
                 have h25q : v1 = 0 := h25
                 have h25_ := eqb_t h25q
                 have h25__ := neb_f h25q
                 by_cases h26 : (!strEq v2 (ByteArray.mk #[])) = true
                 ·replace hF := ite_t h26 hF
                  have h26_ := h26
                  try simp at h26_
                  have F23 := And.intro F22 (And.intro h25_ (And.intro h25__ (And.intro h25q (And.intro h26 h26_))))
                  try simp [F23]
                  and_intros <;> first | exact g _ (by kernel_rfl) | refine r _ _ _ ?_ | omega | (simp [maxLen, F23] <;> omega)
                  refine hK136 _ _ _ ?_
                  refine RN h0 [] [(78, AV.bool true)] [] 0 (by simp [F23]) (by simp [F23]) ?_
                  exact JN (true) hF (by simp [F23]) (by simp [F23])
                 ·replace hF := ite_f h26 hF
                  have h26_ := h26
                  try simp at h26_
                  by_cases h27 : 0 < v1
                  ·replace hF := ite_t h27 hF
                   have h27_ := h27
                   try simp at h27_
                   cases hF
                  ·replace hF := ite_f h27 hF
                   have h27_ := h27
                   try simp at h27_
                   have F24 := And.intro F22 (And.intro h25_ (And.intro h25__ (And.intro h25q (And.intro h26 (And.intro h26_ (And.intro h27 h27_))))))
                   try simp [F24]
                   and_intros
                   try any_goals first | omega | (simp [maxLen, F24] <;> omega)
                   obtain ⟨v25, h28, hF⟩ := bnd1_elim hF
                   refine AC (w_statement_pinned k _ _ h28) (.cons (.same (by simp [F24])) .nil) ?_
                   by_cases h29 : (!v25) = true
                   ·replace hF := ite_t h29 hF
                    have h29_ := h29
                    try simp at h29_
                    have F25 := And.intro F24 (And.intro h29 h29_)
                    try simp [F25]
                    and_intros <;> first | exact g _ (by kernel_rfl) | refine r _ _ _ ?_ | omega | (simp [maxLen, F25] <;> omega)
                    refine hK136 _ _ _ ?_
                    refine RN h0 [] [(78, AV.bool true)] [] 0 (by simp [F25]) (by simp [F25]) ?_
                    exact JN (true) hF (by simp [F25]) (by simp [F25])
                   ·replace hF := ite_f h29 hF
                    have h29_ := h29
                    try simp at h29_
                    by_cases h30 : v4 ≤ 3
                    ·replace hF := ite_t h30 hF
                     have h30_ := h30
                     try simp at h30_
                     have F26 := And.intro F24 (And.intro h29 (And.intro h29_ (And.intro h30 h30_)))
                     try simp [F26]
                     and_intros <;> first | exact g _ (by kernel_rfl) | refine r _ _ _ ?_ | omega | (simp [maxLen, F26] <;> omega)
                     refine hK136 _ _ _ ?_
                     refine RN h0 [] [(78, AV.bool (decide (0 < IntKind.wrap .i64 (IntKind.wrap .i64 ((v8.length : Int) + (v9.length : Int)) + (v10.size : Int)))))] [] 0 (by simp [F26]) (by simp [F26]) ?_
                     exact JN ((decide (0 < IntKind.wrap .i64 (IntKind.wrap .i64 ((v8.length : Int) + (v9.length : Int)) + (v10.size : Int))))) hF (by simp [F26]) (by simp [F26])
                    ·replace hF := ite_f h30 hF
                     have h30_ := h30
                     try simp at h30_
                     have F27 := And.intro F24 (And.intro h29 (And.intro h29_ (And.intro h30 h30_)))
                     try simp [F27]
                     and_intros <;> first | exact g _ (by kernel_rfl) | refine r _ _ _ ?_ | omega | (simp [maxLen, F27] <;> omega)
                     refine hK136 _ _ _ ?_
                     refine RN h0 [] [(78, AV.bool false)] [] 0 (by simp [F27]) (by simp [F27]) ?_
                     exact JN (false) hF (by simp [F27]) (by simp [F27])
                ·replace hF := ite_f h25 hF
                 have h25_ := eqb_f h25
                 have h25__ := neb_t h25
                 by_cases h31 : 0 < v1
                 ·replace hF := ite_t h31 hF
                  have h31_ := h31
                  try simp at h31_
                  by_cases h32 : (v2.size : Int) ≠ 32
                  ·replace hF := ite_t h32 hF
                   have h32_ := eqb_f h32
                   have h32__ := neb_t h32
                   have F28 := And.intro F22 (And.intro h25 (And.intro h25_ (And.intro h25__ (And.intro h31 (And.intro h31_ (And.intro h32 (And.intro h32_ h32__)))))))
                   try simp [F28]
                   and_intros <;> first | exact g _ (by kernel_rfl) | refine r _ _ _ ?_ | omega | (simp [maxLen, F28] <;> omega)
                   refine hK136 _ _ _ ?_
                   refine RN h0 [] [(78, AV.bool true)] [] 0 (by simp [F28]) (by simp [F28]) ?_
                   exact JN (true) hF (by simp [F28]) (by simp [F28])
                  ·replace hF := ite_f h32 hF
                   have h32q : (v2.size : Int) = 32 := Classical.not_not.1 h32
                   have h32_ := eqb_t h32q
                   have h32__ := neb_f h32q
                   have F29 := And.intro F22 (And.intro h25 (And.intro h25_ (And.intro h25__ (And.intro h31 (And.intro h31_ (And.intro h32_ (And.intro h32__ h32q)))))))
                   try simp [F29]
                   and_intros
                   try any_goals first | omega | (simp [maxLen, F29] <;> omega)
                   obtain ⟨v26, h33, hF⟩ := bnd1_elim hF
                   refine AC (w_statement_pinned k _ _ h33) (.cons (.same (by simp [F29])) .nil) ?_
                   by_cases h34 : (!v26) = true
                   ·replace hF := ite_t h34 hF
                    have h34_ := h34
                    try simp at h34_
                    have F30 := And.intro F29 (And.intro h34 h34_)
                    try simp [F30]
                    and_intros <;> first | exact g _ (by kernel_rfl) | refine r _ _ _ ?_ | omega | (simp [maxLen, F30] <;> omega)
                    refine hK136 _ _ _ ?_
                    refine RN h0 [] [(78, AV.bool true)] [] 0 (by simp [F30]) (by simp [F30]) ?_
                    exact JN (true) hF (by simp [F30]) (by simp [F30])
                   ·replace hF := ite_f h34 hF
                    have h34_ := h34
                    try simp at h34_
                    by_cases h35 : v4 ≤ 3
                    ·replace hF := ite_t h35 hF
                     have h35_ := h35
                     try simp at h35_
                     have F31 := And.intro F29 (And.intro h34 (And.intro h34_ (And.intro h35 h35_)))
                     try simp [F31]
                     and_intros <;> first | exact g _ (by kernel_rfl) | refine r _ _ _ ?_ | omega | (simp [maxLen, F31] <;> omega)
                     refine hK136 _ _ _ ?_
                     refine RN h0 [] [(78, AV.bool (decide (0 < IntKind.wrap .i64 (IntKind.wrap .i64 ((v8.length : Int) + (v9.length : Int)) + (v10.size : Int)))))] [] 0 (by simp [F31]) (by simp [F31]) ?_
                     exact JN ((decide (0 < IntKind.wrap .i64 (IntKind.wrap .i64 ((v8.length : Int) + (v9.length : Int)) + (v10.size : Int))))) hF (by simp [F31]) (by simp [F31])
                    ·replace hF := ite_f h35 hF
                     have h35_ := h35
                     try simp at h35_
                     have F32 := And.intro F29 (And.intro h34 (And.intro h34_ (And.intro h35 h35_)))
                     try simp [F32]
                     and_intros <;> first | exact g _ (by kernel_rfl) | refine r _ _ _ ?_ | omega | (simp [maxLen, F32] <;> omega)
                     refine hK136 _ _ _ ?_
                     refine RN h0 [] [(78, AV.bool false)] [] 0 (by simp [F32]) (by simp [F32]) ?_
                     exact JN (false) hF (by simp [F32]) (by simp [F32])
                 ·replace hF := ite_f h31 hF
                  have h31_ := h31
                  try simp at h31_
                  have F33 := And.intro F22 (And.intro h25 (And.intro h25_ (And.intro h25__ (And.intro h31 h31_))))
                  try simp [F33]
                  and_intros
                  try any_goals first | omega | (simp [maxLen, F33] <;> omega)
                  obtain ⟨v27, h36, hF⟩ := bnd1_elim hF
                  refine AC (w_statement_pinned k _ _ h36) (.cons (.same (by simp [F33])) .nil) ?_
                  by_cases h37 : (!v27) = true
                  ·replace hF := ite_t h37 hF
                   have h37_ := h37
                   try simp at h37_
                   have F34 := And.intro F33 (And.intro h37 h37_)
                   try simp [F34]
                   and_intros <;> first | exact g _ (by kernel_rfl) | refine r _ _ _ ?_ | omega | (simp [maxLen, F34] <;> omega)
                   refine hK136 _ _ _ ?_
                   refine RN h0 [] [(78, AV.bool true)] [] 0 (by simp [F34]) (by simp [F34]) ?_
                   exact JN (true) hF (by simp [F34]) (by simp [F34])
                  ·replace hF := ite_f h37 hF
                   have h37_ := h37
                   try simp at h37_
                   by_cases h38 : v4 ≤ 3
                   ·replace hF := ite_t h38 hF
                    have h38_ := h38
                    try simp at h38_
                    have F35 := And.intro F33 (And.intro h37 (And.intro h37_ (And.intro h38 h38_)))
                    try simp [F35]
                    and_intros <;> first | exact g _ (by kernel_rfl) | refine r _ _ _ ?_ | omega | (simp [maxLen, F35] <;> omega)
                    refine hK136 _ _ _ ?_
                    refine RN h0 [] [(78, AV.bool (decide (0 < IntKind.wrap .i64 (IntKind.wrap .i64 ((v8.length : Int) + (v9.length : Int)) + (v10.size : Int)))))] [] 0 (by simp [F35]) (by simp [F35]) ?_
                    exact JN ((decide (0 < IntKind.wrap .i64 (IntKind.wrap .i64 ((v8.length : Int) + (v9.length : Int)) + (v10.size : Int))))) hF (by simp [F35]) (by simp [F35])
                   ·replace hF := ite_f h38 hF
                    have h38_ := h38
                    try simp at h38_
                    have F36 := And.intro F33 (And.intro h37 (And.intro h37_ (And.intro h38 h38_)))
                    try simp [F36]
                    and_intros <;> first | exact g _ (by kernel_rfl) | refine r _ _ _ ?_ | omega | (simp [maxLen, F36] <;> omega)
                    refine hK136 _ _ _ ?_
                    refine RN h0 [] [(78, AV.bool false)] [] 0 (by simp [F36]) (by simp [F36]) ?_
                    exact JN (false) hF (by simp [F36]) (by simp [F36])
               ·rintro v24 hF
                try dsimp only at hF
                unfold statement_Check.J2 at hF
                by_cases h24 : v24 = true
                ·replace hF := ite_t h24 hF
                 have h24_ := h24
                 try simp at h24_
                 have F37 := And.intro F22 (And.intro h24 h24_)
                 refine CT (by simp [F37] <;> omega) ?_
                 refine SQ [] [none] fun _ _ g r => ?_
                 try simp [F37]
                 and_intros <;> first | exact g _ (by kernel_rfl) | refine r _ _ _ ?_ | omega | (simp [maxLen, F37] <;> omega)
                 refine WK [(2, Iz 1)] [] 0 (by simp [F37]) (by simp [F37]) ?_
                 simp only [Option.some.injEq] at hF
                 subst hF
                 refine AW.ret (hQ _ _ _ ?_ (matchO_0 ?_)).1
                 ·simp [Try.f39, F37]
                 ·simp [F37]
                ·replace hF := ite_f h24 hF
                 have h24_ := h24
                 try simp at h24_
                 have F38 := And.intro F22 (And.intro h24 h24_)
                 refine CF (by simp [F38] <;> omega) ?_
                 refine AW.skip ?_
                 refine hK116 _ _ _ ?_
                 exact JN (()) hF (by simp [F38]) (by simp [F38])
   ·replace hF := ite_f h4 hF
    have h4_ := h4
    try simp at h4_
    have F39 := And.intro h2 (And.intro h2_ (And.intro h4 h4_))
    try simp [F39]
    and_intros <;> first | exact g _ (by kernel_rfl) | refine r _ _ _ ?_ | omega | (simp [maxLen, F39] <;> omega)
    refine WK [(1, AV.ptr 0 0), (3, AV.bool (decide (v4 ≤ 3))), (12, AV.bool false)] [(0, c_statement_Check v0 v1 v2 v3 v4 v5 v6 v7 v8 v9 v10 v11 v12)] 1 (by simp [F39]) (by simp [F39]) ?_
    refine CF (by simp [F39]) ?_
    refine SQ [] [none, none, none, none, none] fun _ _ g r => ?_
    try simp [F39]
    and_intros
    try any_goals first | omega | (simp [maxLen, F39] <;> omega)
    obtain ⟨v28, h39, hF⟩ := bnd1_elim hF
    refine AC (w_lists_In k _ _ _ _ h39) (.cons (.same (by simp [F39])) (.cons (.same (by simp [F39])) (.cons (.same (by simp [F39])) .nil))) ?_
    try simp [F39]
    and_intros <;> first | exact g _ (by kernel_rfl) | refine r _ _ _ ?_ | omega | (simp [maxLen, F39] <;> omega)
    refine WK [(1, AV.ptr 0 0), (3, AV.bool (decide (v4 ≤ 3))), (23, AV.bool (!v28))] [(0, c_statement_Check v0 v1 v2 v3 v4 v5 v6 v7 v8 v9 v10 v11 v12)] 1 (by simp [F39]) (by simp [F39]) ?_
    by_cases h40 : (!v28) = true
    ·replace hF := ite_t h40 hF
     have h40_ := h40
     try simp at h40_
     have F40 := And.intro F39 (And.intro h40 h40_)
     refine CT (by simp [F40] <;> omega) ?_
     refine SQ [] [none] fun _ _ g r => ?_
     try simp [F40]
     and_intros <;> first | exact g _ (by kernel_rfl) | refine r _ _ _ ?_ | omega | (simp [maxLen, F40] <;> omega)
     refine WK [(2, Iz 9)] [] 1 (by simp [F40]) (by simp [F40]) ?_
     simp only [Option.some.injEq] at hF
     subst hF
     refine AW.ret (hQ _ _ _ ?_ (matchO_0 ?_)).1
     ·simp [Try.f39, F40]
     ·simp [F40]
    ·replace hF := ite_f h40 hF
     have h40_ := h40
     try simp at h40_
     have F41 := And.intro F39 (And.intro h40 h40_)
     refine CF (by simp [F41] <;> omega) ?_
     refine SQ [] [none, none, none, none, none, some (33, false), some (33, false), some (33, false), some (33, false), none, none, some (39, false), some (39, false), some (39, false), some (39, false), none, none, some (45, false), some (45, false), some (45, false), some (45, false), none, none, some (51, false), some (51, false), some (51, false), none, none, some (56, false), some (56, false), some (56, false), none, none] fun _ _ g r => ?_
     try simp [F41]
     and_intros
     try any_goals first | omega | (simp [maxLen, F41] <;> omega)
     obtain ⟨v29, h41, hF⟩ := bnd1_elim hF
     refine AC (w_lists_In k _ _ _ _ h41) (.cons (.same (by simp [F41])) (.cons (.same (by simp [F41])) (.cons (.same (by simp [F41])) .nil))) ?_
     by_cases h42 : (!v29) = true
     ·replace hF := ite_t h42 hF
      have h42_ := h42
      try simp at h42_
      have F42 := And.intro F41 (And.intro h42 h42_)
      try simp [F42]
      and_intros <;> first | exact g _ (by kernel_rfl) | refine r _ _ _ ?_ | omega | (simp [maxLen, F42] <;> omega)
      refine WK [(1, AV.ptr 0 0), (3, AV.bool (decide (v4 ≤ 3))), (28, AV.bool true)] [(0, c_statement_Check v0 v1 v2 v3 v4 v5 v6 v7 v8 v9 v10 v11 v12)] 1 (by simp [F42]) (by simp [F42]) ?_
      refine CT (by simp [F42]) ?_
      refine SQ [] [none] fun _ _ g r => ?_
      try simp [F42]
      and_intros <;> first | exact g _ (by kernel_rfl) | refine r _ _ _ ?_ | omega | (simp [maxLen, F42] <;> omega)
      refine WK [(2, Iz 2)] [] 1 (by simp [F42]) (by simp [F42]) ?_
      simp only [Option.some.injEq] at hF
      subst hF
      refine AW.ret (hQ _ _ _ ?_ (matchO_0 ?_)).1
      ·simp [Try.f39, F42]
      ·simp [F42]
     ·replace hF := ite_f h42 hF
      have h42_ := h42
      try simp at h42_
      have F43 := And.intro F41 (And.intro h42 h42_)
      try simp [F43]
      and_intros
      try any_goals first | omega | (simp [maxLen, F43] <;> omega)
      obtain ⟨v30, h43, hF⟩ := bnd1_elim hF
      refine AC (w_statement_value k _ _ h43) (.cons (.same (by simp [F43])) .nil) ?_
      by_cases h44 : (!v30) = true
      ·replace hF := ite_t h44 hF
       have h44_ := h44
       try simp at h44_
       have F44 := And.intro F43 (And.intro h44 h44_)
       try simp [F44]
       and_intros <;> first | exact g _ (by kernel_rfl) | refine r _ _ _ ?_ | omega | (simp [maxLen, F44] <;> omega)
       refine WK [(1, AV.ptr 0 0), (3, AV.bool (decide (v4 ≤ 3))), (28, AV.bool true)] [(0, c_statement_Check v0 v1 v2 v3 v4 v5 v6 v7 v8 v9 v10 v11 v12)] 1 (by simp [F44]) (by simp [F44]) ?_
       refine CT (by simp [F44]) ?_
       refine SQ [] [none] fun _ _ g r => ?_
       try simp [F44]
       and_intros <;> first | exact g _ (by kernel_rfl) | refine r _ _ _ ?_ | omega | (simp [maxLen, F44] <;> omega)
       refine WK [(2, Iz 2)] [] 1 (by simp [F44]) (by simp [F44]) ?_
       simp only [Option.some.injEq] at hF
       subst hF
       refine AW.ret (hQ _ _ _ ?_ (matchO_0 ?_)).1
       ·simp [Try.f39, F44]
       ·simp [F44]
      ·replace hF := ite_f h44 hF
       have h44_ := h44
       try simp at h44_
       have F45 := And.intro F43 (And.intro h44 h44_)
       try simp [F45]
       and_intros
       try any_goals first | omega | (simp [maxLen, F45] <;> omega)
       obtain ⟨v31, h45, hF⟩ := bnd1_elim hF
       refine AC (w_statement_value k _ _ h45) (.cons (.same (by simp [F45])) .nil) ?_
       by_cases h46 : (!v31) = true
       ·replace hF := ite_t h46 hF
        have h46_ := h46
        try simp at h46_
        have F46 := And.intro F45 (And.intro h46 h46_)
        try simp [F46]
        and_intros <;> first | exact g _ (by kernel_rfl) | refine r _ _ _ ?_ | omega | (simp [maxLen, F46] <;> omega)
        refine WK [(1, AV.ptr 0 0), (3, AV.bool (decide (v4 ≤ 3))), (28, AV.bool true)] [(0, c_statement_Check v0 v1 v2 v3 v4 v5 v6 v7 v8 v9 v10 v11 v12)] 1 (by simp [F46]) (by simp [F46]) ?_
        refine CT (by simp [F46]) ?_
        refine SQ [] [none] fun _ _ g r => ?_
        try simp [F46]
        and_intros <;> first | exact g _ (by kernel_rfl) | refine r _ _ _ ?_ | omega | (simp [maxLen, F46] <;> omega)
        refine WK [(2, Iz 2)] [] 1 (by simp [F46]) (by simp [F46]) ?_
        simp only [Option.some.injEq] at hF
        subst hF
        refine AW.ret (hQ _ _ _ ?_ (matchO_0 ?_)).1
        ·simp [Try.f39, F46]
        ·simp [F46]
       ·replace hF := ite_f h46 hF
        have h46_ := h46
        try simp at h46_
        have F47 := And.intro F45 (And.intro h46 h46_)
        try simp [F47]
        and_intros
        try any_goals first | omega | (simp [maxLen, F47] <;> omega)
        obtain ⟨v32, h47, hF⟩ := bnd1_elim hF
        refine AC (w_statement_value k _ _ h47) (.cons (.same (by simp [F47])) .nil) ?_
        by_cases h48 : (!v32) = true
        ·replace hF := ite_t h48 hF
         have h48_ := h48
         try simp at h48_
         have F48 := And.intro F47 (And.intro h48 h48_)
         try simp [F48]
         and_intros <;> first | exact g _ (by kernel_rfl) | refine r _ _ _ ?_ | omega | (simp [maxLen, F48] <;> omega)
         refine WK [(1, AV.ptr 0 0), (3, AV.bool (decide (v4 ≤ 3))), (28, AV.bool true)] [(0, c_statement_Check v0 v1 v2 v3 v4 v5 v6 v7 v8 v9 v10 v11 v12)] 1 (by simp [F48]) (by simp [F48]) ?_
         refine CT (by simp [F48]) ?_
         refine SQ [] [none] fun _ _ g r => ?_
         try simp [F48]
         and_intros <;> first | exact g _ (by kernel_rfl) | refine r _ _ _ ?_ | omega | (simp [maxLen, F48] <;> omega)
         refine WK [(2, Iz 2)] [] 1 (by simp [F48]) (by simp [F48]) ?_
         simp only [Option.some.injEq] at hF
         subst hF
         refine AW.ret (hQ _ _ _ ?_ (matchO_0 ?_)).1
         ·simp [Try.f39, F48]
         ·simp [F48]
        ·replace hF := ite_f h48 hF
         have h48_ := h48
         try simp at h48_
         have F49 := And.intro F47 (And.intro h48 h48_)
         try simp [F49]
         and_intros
         try any_goals first | omega | (simp [maxLen, F49] <;> omega)
         obtain ⟨v33, h49, hF⟩ := bnd1_elim hF
         refine AC (w_statement_meant k _ _ _ _ _ _ _ _ _ _ _ _ _ _ h49) (.cons (.same (by simp [F49])) .nil) ?_
         by_cases h50 : (!v33) = true
         ·replace hF := ite_t h50 hF
          have h50_ := h50
          try simp at h50_
          have F50 := And.intro F49 (And.intro h50 h50_)
          try simp [F50]
          and_intros <;> first | exact g _ (by kernel_rfl) | refine r _ _ _ ?_ | omega | (simp [maxLen, F50] <;> omega)
          refine WK [(1, AV.ptr 0 0), (3, AV.bool (decide (v4 ≤ 3))), (28, AV.bool true)] [(0, c_statement_Check v0 v1 v2 v3 v4 v5 v6 v7 v8 v9 v10 v11 v12)] 1 (by simp [F50]) (by simp [F50]) ?_
          refine CT (by simp [F50]) ?_
          refine SQ [] [none] fun _ _ g r => ?_
          try simp [F50]
          and_intros <;> first | exact g _ (by kernel_rfl) | refine r _ _ _ ?_ | omega | (simp [maxLen, F50] <;> omega)
          refine WK [(2, Iz 2)] [] 1 (by simp [F50]) (by simp [F50]) ?_
          simp only [Option.some.injEq] at hF
          subst hF
          refine AW.ret (hQ _ _ _ ?_ (matchO_0 ?_)).1
          ·simp [Try.f39, F50]
          ·simp [F50]
         ·replace hF := ite_f h50 hF
          have h50_ := h50
          try simp at h50_
          have F51 := And.intro F49 (And.intro h50 h50_)
          try simp [F51]
          and_intros
          try any_goals first | omega | (simp [maxLen, F51] <;> omega)
          obtain ⟨v34, h51, hF⟩ := bnd1_elim hF
          refine AC (w_slices_ContainsFunc_int_int_Check_1 k _ _ h51) (.cons (.same (by simp [F51])) (.cons (.same (by simp [F51])) .nil)) ?_
          try simp [F51]
          and_intros <;> first | exact g _ (by kernel_rfl) | refine r _ _ _ ?_ | omega | (simp [maxLen, F51] <;> omega)
          refine WK [(1, AV.ptr 0 0), (3, AV.bool (decide (v4 ≤ 3))), (28, AV.bool v34)] [(0, c_statement_Check v0 v1 v2 v3 v4 v5 v6 v7 v8 v9 v10 v11 v12)] 1 (by simp [F51]) (by simp [F51]) ?_
          by_cases h52 : v34 = true
          ·replace hF := ite_t h52 hF
           have h52_ := h52
           try simp at h52_
           have F52 := And.intro F51 (And.intro h52 h52_)
           refine CT (by simp [F52] <;> omega) ?_
           refine SQ [] [none] fun _ _ g r => ?_
           try simp [F52]
           and_intros <;> first | exact g _ (by kernel_rfl) | refine r _ _ _ ?_ | omega | (simp [maxLen, F52] <;> omega)
           refine WK [(2, Iz 2)] [] 1 (by simp [F52]) (by simp [F52]) ?_
           simp only [Option.some.injEq] at hF
           subst hF
           refine AW.ret (hQ _ _ _ ?_ (matchO_0 ?_)).1
           ·simp [Try.f39, F52]
           ·simp [F52]
          ·replace hF := ite_f h52 hF
           have h52_ := h52
           try simp at h52_
           have F53 := And.intro F51 (And.intro h52 h52_)
           refine CF (by simp [F53] <;> omega) ?_
           refine SQ [] [none, none, none, none, none, some (66, false), some (66, false), some (66, false), some (66, false), none, none, some (72, false), some (72, false), some (72, false), some (72, false), none, none] fun _ _ g r => ?_
           by_cases h53 : 64 < (v8.length : Int)
           ·replace hF := ite_t h53 hF
            have h53_ := h53
            try simp at h53_
            have F54 := And.intro F53 (And.intro h53 h53_)
            try simp [F54]
            and_intros <;> first | exact g _ (by kernel_rfl) | refine r _ _ _ ?_ | omega | (simp [maxLen, F54] <;> omega)
            refine WK [(1, AV.ptr 0 0), (3, AV.bool (decide (v4 ≤ 3))), (61, AV.bool true)] [(0, c_statement_Check v0 v1 v2 v3 v4 v5 v6 v7 v8 v9 v10 v11 v12)] 1 (by simp [F54]) (by simp [F54]) ?_
            refine CT (by simp [F54]) ?_
            refine SQ [] [none] fun _ _ g r => ?_
            try simp [F54]
            and_intros <;> first | exact g _ (by kernel_rfl) | refine r _ _ _ ?_ | omega | (simp [maxLen, F54] <;> omega)
            refine WK [(2, Iz 3)] [] 1 (by simp [F54]) (by simp [F54]) ?_
            simp only [Option.some.injEq] at hF
            subst hF
            refine AW.ret (hQ _ _ _ ?_ (matchO_0 ?_)).1
            ·simp [Try.f39, F54]
            ·simp [F54]
           ·replace hF := ite_f h53 hF
            have h53_ := h53
            try simp at h53_
            by_cases h54 : 64 < (v9.length : Int)
            ·replace hF := ite_t h54 hF
             have h54_ := h54
             try simp at h54_
             have F55 := And.intro F53 (And.intro h53 (And.intro h53_ (And.intro h54 h54_)))
             try simp [F55]
             and_intros <;> first | exact g _ (by kernel_rfl) | refine r _ _ _ ?_ | omega | (simp [maxLen, F55] <;> omega)
             refine WK [(1, AV.ptr 0 0), (3, AV.bool (decide (v4 ≤ 3))), (61, AV.bool true)] [(0, c_statement_Check v0 v1 v2 v3 v4 v5 v6 v7 v8 v9 v10 v11 v12)] 1 (by simp [F55]) (by simp [F55]) ?_
             refine CT (by simp [F55]) ?_
             refine SQ [] [none] fun _ _ g r => ?_
             try simp [F55]
             and_intros <;> first | exact g _ (by kernel_rfl) | refine r _ _ _ ?_ | omega | (simp [maxLen, F55] <;> omega)
             refine WK [(2, Iz 3)] [] 1 (by simp [F55]) (by simp [F55]) ?_
             simp only [Option.some.injEq] at hF
             subst hF
             refine AW.ret (hQ _ _ _ ?_ (matchO_0 ?_)).1
             ·simp [Try.f39, F55]
             ·simp [F55]
            ·replace hF := ite_f h54 hF
             have h54_ := h54
             try simp at h54_
             have F56 := And.intro F53 (And.intro h53 (And.intro h53_ (And.intro h54 h54_)))
             try simp [F56]
             and_intros <;> first | exact g _ (by kernel_rfl) | refine r _ _ _ ?_ | omega | (simp [maxLen, F56] <;> omega)
             refine WK [(1, AV.ptr 0 0), (3, AV.bool (decide (v4 ≤ 3))), (61, AV.bool (decide (4096 < (v10.size : Int))))] [(0, c_statement_Check v0 v1 v2 v3 v4 v5 v6 v7 v8 v9 v10 v11 v12)] 1 (by simp [F56]) (by simp [F56]) ?_
             by_cases h55 : 4096 < (v10.size : Int)
             ·replace hF := ite_t h55 hF
              have h55_ := h55
              try simp at h55_
              have F57 := And.intro F56 (And.intro h55 h55_)
              refine CT (by simp [F57] <;> omega) ?_
              refine SQ [] [none] fun _ _ g r => ?_
              try simp [F57]
              and_intros <;> first | exact g _ (by kernel_rfl) | refine r _ _ _ ?_ | omega | (simp [maxLen, F57] <;> omega)
              refine WK [(2, Iz 3)] [] 1 (by simp [F57]) (by simp [F57]) ?_
              simp only [Option.some.injEq] at hF
              subst hF
              refine AW.ret (hQ _ _ _ ?_ (matchO_0 ?_)).1
              ·simp [Try.f39, F57]
              ·simp [F57]
             ·replace hF := ite_f h55 hF
              have h55_ := h55
              try simp at h55_
              have F58 := And.intro F56 (And.intro h55 h55_)
              refine CF (by simp [F58] <;> omega) ?_
              refine AW.midF (α := Bool) (fun v35 => statement_Check.J3 k v35 = some v13) (fun v35 => [(78, AV.bool v35)]) (fun v35 => []) 0 (fun K152 hK152 => ?_) ?_
              ·refine RG [] [none, none, none, none, some (82, true), some (82, true), some (82, true), none, none, some (87, false), some (87, false), some (87, false), some (87, false), some (91, true), some (91, true), some (91, true), some (91, true), some (87, false), none, none, some (98, false), some (98, false), some (98, false), some (98, false), none, none, some (104, false), some (104, false), some (106, true), some (106, true), some (106, true), some (106, true), some (106, true), some (106, true), some (106, true), some (106, true), some (106, true), some (106, true), some (106, true), some (106, true), some (104, false), none, none] fun _ _ g r => ?_
               by_cases h57 : v1 = 0
               ·replace hF := ite_t h57 hF
                have h57q : v1 = 0 := h57
                have h57_ := eqb_t h57q
                have h57__ := neb_f h57q
                by_cases h58 : (!strEq v2 (ByteArray.mk #[])) = true
                ·replace hF := ite_t h58 hF
                 have h58_ := h58
                 try simp at h58_
                 have F59 := And.intro F58 (And.intro h57_ (And.intro h57__ (And.intro h57q (And.intro h58 h58_))))
                 try simp [F59]
                 and_intros <;> first | exact g _ (by kernel_rfl) | refine r _ _ _ ?_ | omega | (simp [maxLen, F59] <;> omega)
                 refine hK152 _ _ _ ?_
                 refine RN h0 [] [(78, AV.bool true)] [] 0 (by simp [F59]) (by simp [F59]) ?_
                 exact JN (true) hF (by simp [F59]) (by simp [F59])
                ·replace hF := ite_f h58 hF
                 have h58_ := h58
                 try simp at h58_
                 by_cases h59 : 0 < v1
                 ·replace hF := ite_t h59 hF
                  have h59_ := h59
                  try simp at h59_
                  cases hF
                 ·replace hF := ite_f h59 hF
                  have h59_ := h59
                  try simp at h59_
                  have F60 := And.intro F58 (And.intro h57_ (And.intro h57__ (And.intro h57q (And.intro h58 (And.intro h58_ (And.intro h59 h59_))))))
                  try simp [F60]
                  and_intros
                  try any_goals first | omega | (simp [maxLen, F60] <;> omega)
                  obtain ⟨v36, h60, hF⟩ := bnd1_elim hF
                  refine AC (w_statement_pinned k _ _ h60) (.cons (.same (by simp [F60])) .nil) ?_
                  by_cases h61 : (!v36) = true
                  ·replace hF := ite_t h61 hF
                   have h61_ := h61
                   try simp at h61_
                   have F61 := And.intro F60 (And.intro h61 h61_)
                   try simp [F61]
                   and_intros <;> first | exact g _ (by kernel_rfl) | refine r _ _ _ ?_ | omega | (simp [maxLen, F61] <;> omega)
                   refine hK152 _ _ _ ?_
                   refine RN h0 [] [(78, AV.bool true)] [] 0 (by simp [F61]) (by simp [F61]) ?_
                   exact JN (true) hF (by simp [F61]) (by simp [F61])
                  ·replace hF := ite_f h61 hF
                   have h61_ := h61
                   try simp at h61_
                   by_cases h62 : v4 ≤ 3
                   ·replace hF := ite_t h62 hF
                    have h62_ := h62
                    try simp at h62_
                    have F62 := And.intro F60 (And.intro h61 (And.intro h61_ (And.intro h62 h62_)))
                    try simp [F62]
                    and_intros <;> first | exact g _ (by kernel_rfl) | refine r _ _ _ ?_ | omega | (simp [maxLen, F62] <;> omega)
                    refine hK152 _ _ _ ?_
                    refine RN h0 [] [(78, AV.bool (decide (0 < IntKind.wrap .i64 (IntKind.wrap .i64 ((v8.length : Int) + (v9.length : Int)) + (v10.size : Int)))))] [] 0 (by simp [F62]) (by simp [F62]) ?_
                    exact JN ((decide (0 < IntKind.wrap .i64 (IntKind.wrap .i64 ((v8.length : Int) + (v9.length : Int)) + (v10.size : Int))))) hF (by simp [F62]) (by simp [F62])
                   ·replace hF := ite_f h62 hF
                    have h62_ := h62
                    try simp at h62_
                    have F63 := And.intro F60 (And.intro h61 (And.intro h61_ (And.intro h62 h62_)))
                    try simp [F63]
                    and_intros <;> first | exact g _ (by kernel_rfl) | refine r _ _ _ ?_ | omega | (simp [maxLen, F63] <;> omega)
                    refine hK152 _ _ _ ?_
                    refine RN h0 [] [(78, AV.bool false)] [] 0 (by simp [F63]) (by simp [F63]) ?_
                    exact JN (false) hF (by simp [F63]) (by simp [F63])
               ·replace hF := ite_f h57 hF
                have h57_ := eqb_f h57
                have h57__ := neb_t h57
                by_cases h63 : 0 < v1
                ·replace hF := ite_t h63 hF
                 have h63_ := h63
                 try simp at h63_
                 by_cases h64 : (v2.size : Int) ≠ 32
                 ·replace hF := ite_t h64 hF
                  have h64_ := eqb_f h64
                  have h64__ := neb_t h64
                  have F64 := And.intro F58 (And.intro h57 (And.intro h57_ (And.intro h57__ (And.intro h63 (And.intro h63_ (And.intro h64 (And.intro h64_ h64__)))))))
                  try simp [F64]
                  and_intros <;> first | exact g _ (by kernel_rfl) | refine r _ _ _ ?_ | omega | (simp [maxLen, F64] <;> omega)
                  refine hK152 _ _ _ ?_
                  refine RN h0 [] [(78, AV.bool true)] [] 0 (by simp [F64]) (by simp [F64]) ?_
                  exact JN (true) hF (by simp [F64]) (by simp [F64])
                 ·replace hF := ite_f h64 hF
                  have h64q : (v2.size : Int) = 32 := Classical.not_not.1 h64
                  have h64_ := eqb_t h64q
                  have h64__ := neb_f h64q
                  have F65 := And.intro F58 (And.intro h57 (And.intro h57_ (And.intro h57__ (And.intro h63 (And.intro h63_ (And.intro h64_ (And.intro h64__ h64q)))))))
                  try simp [F65]
                  and_intros
                  try any_goals first | omega | (simp [maxLen, F65] <;> omega)
                  obtain ⟨v37, h65, hF⟩ := bnd1_elim hF
                  refine AC (w_statement_pinned k _ _ h65) (.cons (.same (by simp [F65])) .nil) ?_
                  by_cases h66 : (!v37) = true
                  ·replace hF := ite_t h66 hF
                   have h66_ := h66
                   try simp at h66_
                   have F66 := And.intro F65 (And.intro h66 h66_)
                   try simp [F66]
                   and_intros <;> first | exact g _ (by kernel_rfl) | refine r _ _ _ ?_ | omega | (simp [maxLen, F66] <;> omega)
                   refine hK152 _ _ _ ?_
                   refine RN h0 [] [(78, AV.bool true)] [] 0 (by simp [F66]) (by simp [F66]) ?_
                   exact JN (true) hF (by simp [F66]) (by simp [F66])
                  ·replace hF := ite_f h66 hF
                   have h66_ := h66
                   try simp at h66_
                   by_cases h67 : v4 ≤ 3
                   ·replace hF := ite_t h67 hF
                    have h67_ := h67
                    try simp at h67_
                    have F67 := And.intro F65 (And.intro h66 (And.intro h66_ (And.intro h67 h67_)))
                    try simp [F67]
                    and_intros <;> first | exact g _ (by kernel_rfl) | refine r _ _ _ ?_ | omega | (simp [maxLen, F67] <;> omega)
                    refine hK152 _ _ _ ?_
                    refine RN h0 [] [(78, AV.bool (decide (0 < IntKind.wrap .i64 (IntKind.wrap .i64 ((v8.length : Int) + (v9.length : Int)) + (v10.size : Int)))))] [] 0 (by simp [F67]) (by simp [F67]) ?_
                    exact JN ((decide (0 < IntKind.wrap .i64 (IntKind.wrap .i64 ((v8.length : Int) + (v9.length : Int)) + (v10.size : Int))))) hF (by simp [F67]) (by simp [F67])
                   ·replace hF := ite_f h67 hF
                    have h67_ := h67
                    try simp at h67_
                    have F68 := And.intro F65 (And.intro h66 (And.intro h66_ (And.intro h67 h67_)))
                    try simp [F68]
                    and_intros <;> first | exact g _ (by kernel_rfl) | refine r _ _ _ ?_ | omega | (simp [maxLen, F68] <;> omega)
                    refine hK152 _ _ _ ?_
                    refine RN h0 [] [(78, AV.bool false)] [] 0 (by simp [F68]) (by simp [F68]) ?_
                    exact JN (false) hF (by simp [F68]) (by simp [F68])
                ·replace hF := ite_f h63 hF
                 have h63_ := h63
                 try simp at h63_
                 have F69 := And.intro F58 (And.intro h57 (And.intro h57_ (And.intro h57__ (And.intro h63 h63_))))
                 try simp [F69]
                 and_intros
                 try any_goals first | omega | (simp [maxLen, F69] <;> omega)
                 obtain ⟨v38, h68, hF⟩ := bnd1_elim hF
                 refine AC (w_statement_pinned k _ _ h68) (.cons (.same (by simp [F69])) .nil) ?_
                 by_cases h69 : (!v38) = true
                 ·replace hF := ite_t h69 hF
                  have h69_ := h69
                  try simp at h69_
                  have F70 := And.intro F69 (And.intro h69 h69_)
                  try simp [F70]
                  and_intros <;> first | exact g _ (by kernel_rfl) | refine r _ _ _ ?_ | omega | (simp [maxLen, F70] <;> omega)
                  refine hK152 _ _ _ ?_
                  refine RN h0 [] [(78, AV.bool true)] [] 0 (by simp [F70]) (by simp [F70]) ?_
                  exact JN (true) hF (by simp [F70]) (by simp [F70])
                 ·replace hF := ite_f h69 hF
                  have h69_ := h69
                  try simp at h69_
                  by_cases h70 : v4 ≤ 3
                  ·replace hF := ite_t h70 hF
                   have h70_ := h70
                   try simp at h70_
                   have F71 := And.intro F69 (And.intro h69 (And.intro h69_ (And.intro h70 h70_)))
                   try simp [F71]
                   and_intros <;> first | exact g _ (by kernel_rfl) | refine r _ _ _ ?_ | omega | (simp [maxLen, F71] <;> omega)
                   refine hK152 _ _ _ ?_
                   refine RN h0 [] [(78, AV.bool (decide (0 < IntKind.wrap .i64 (IntKind.wrap .i64 ((v8.length : Int) + (v9.length : Int)) + (v10.size : Int)))))] [] 0 (by simp [F71]) (by simp [F71]) ?_
                   exact JN ((decide (0 < IntKind.wrap .i64 (IntKind.wrap .i64 ((v8.length : Int) + (v9.length : Int)) + (v10.size : Int))))) hF (by simp [F71]) (by simp [F71])
                  ·replace hF := ite_f h70 hF
                   have h70_ := h70
                   try simp at h70_
                   have F72 := And.intro F69 (And.intro h69 (And.intro h69_ (And.intro h70 h70_)))
                   try simp [F72]
                   and_intros <;> first | exact g _ (by kernel_rfl) | refine r _ _ _ ?_ | omega | (simp [maxLen, F72] <;> omega)
                   refine hK152 _ _ _ ?_
                   refine RN h0 [] [(78, AV.bool false)] [] 0 (by simp [F72]) (by simp [F72]) ?_
                   exact JN (false) hF (by simp [F72]) (by simp [F72])
              ·rintro v35 hF
               try dsimp only at hF
               unfold statement_Check.J3 at hF
               by_cases h56 : v35 = true
               ·replace hF := ite_t h56 hF
                have h56_ := h56
                try simp at h56_
                have F73 := And.intro F58 (And.intro h56 h56_)
                refine CT (by simp [F73] <;> omega) ?_
                refine SQ [] [none] fun _ _ g r => ?_
                try simp [F73]
                and_intros <;> first | exact g _ (by kernel_rfl) | refine r _ _ _ ?_ | omega | (simp [maxLen, F73] <;> omega)
                refine WK [(2, Iz 1)] [] 0 (by simp [F73]) (by simp [F73]) ?_
                simp only [Option.some.injEq] at hF
                subst hF
                refine AW.ret (hQ _ _ _ ?_ (matchO_0 ?_)).1
                ·simp [Try.f39, F73]
                ·simp [F73]
               ·replace hF := ite_f h56 hF
                have h56_ := h56
                try simp at h56_
                have F74 := And.intro F58 (And.intro h56 h56_)
                refine CF (by simp [F74] <;> omega) ?_
                refine AW.skip ?_
                refine hK116 _ _ _ ?_
                exact JN (()) hF (by simp [F74]) (by simp [F74])
 ·rintro ⟨⟩ hF
  try dsimp only at hF
  unfold statement_Check.J1 at hF
  refine SQ [] [none] fun _ _ g r => ?_
  try simp
  and_intros <;> first | exact g _ (by kernel_rfl) | refine r _ _ _ ?_ | omega | (simp [maxLen] <;> omega)
  refine WK [(2, Iz 0)] [] 0 (by simp) (by simp) ?_
  simp only [Option.some.injEq] at hF
  subst hF
  refine AW.ret (hQ _ _ _ ?_ (matchO_0 ?_)).1
  ·simp [Try.f39]
  ·simp
end Go.TF
