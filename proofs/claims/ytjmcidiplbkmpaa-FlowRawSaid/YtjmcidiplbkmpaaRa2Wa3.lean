/- Walks: the Go text computes the Lean functions (printed by a program of our own). -/
import Derived.Test.YtjmcidiplbkmpaaRa2Pu
import Derived.Test.YtjmcidiplbkmpaaRa2AbsT
import Derived.Test.YtjmcidiplbkmpaaRa2Wa0
set_option linter.unusedVariables false
set_option linter.unusedSimpArgs false
set_option maxRecDepth 100000
set_option maxHeartbeats 4000000
namespace Go.TF
open Go Go.Abs Go.Proofs Go.Proofs.YtjmcidiplbkmpaaRa2T
theorem w_ref15_Check (k : Nat) (v0 : Int) (v1 : (List api_Arc)) (v2 : Int) (hF : ref15_Check k v0 v1 = some v2) :
  FCall Try.prog 13 [AV.agg [AV.int .i64 v0, AV.lst false false (List.map api_Arc.av v1)]] [] (AV.int .i64 v2) [] := by
 unfold ref15_Check at hF
 refine EN Try.func13 ?_
 intro c0 w0 Q h0 hQ
 refine WK [(0, AV.agg [Iz v0, AV.lst false false (List.map api_Arc.av v1)])] [] 0 (by simp) (by simp) ?_
 refine SQ [] [none, none] fun _ _ g r => ?_
 try simp
 and_intros <;> first | exact g _ (by kernel_rfl) | refine r _ _ _ ?_ | omega | (simp [maxLen] <;> omega)
 refine WK [(1, AV.ptr 0 0)] [(0, .cells [Iz v0, AV.lst false false (List.map api_Arc.av v1)])] 1 (by simp) (by simp) ?_
 refine AW.seq fun K238 hK238 => ?_
 refine SQ [] [none, none, none, none, some (8, false), some (8, false), some (8, false), none, none, some (13, false), some (13, false), some (13, false), some (13, false), none] fun _ _ g r => ?_
 by_cases h1 : v0 < 2
 ·replace hF := ite_t h1 hF
  have h1_ := h1
  try simp at h1_
  try simp [h1, h1_]
  and_intros <;> first | exact g _ (by kernel_rfl) | refine r _ _ _ ?_ | omega | (simp [h1, h1_, maxLen] <;> omega)
  refine WK [(1, AV.ptr 0 0), (18, AV.bool true)] [(0, .cells [Iz v0, AV.lst false false (List.map api_Arc.av v1)])] 1 (by simp [h1, h1_]) (by simp [h1, h1_]) ?_
  refine CT (by simp [h1, h1_]) ?_
  refine SQ [] [none] fun _ _ g r => ?_
  try simp [h1, h1_]
  and_intros <;> first | exact g _ (by kernel_rfl) | refine r _ _ _ ?_ | omega | (simp [h1, h1_, maxLen] <;> omega)
  refine WK [(2, Iz 16)] [] 1 (by simp [h1, h1_]) (by simp [h1, h1_]) ?_
  simp only [Option.some.injEq] at hF
  subst hF
  refine AW.ret (hQ _ _ _ ?_ (matchO_0 ?_)).1
  ·simp [Try.f13, h1, h1_]
  ·simp [h1, h1_]
 ·replace hF := ite_f h1 hF
  have h1_ := h1
  try simp at h1_
  by_cases h2 : 130 < v0
  ·replace hF := ite_t h2 hF
   have h2_ := h2
   try simp at h2_
   have F1 := And.intro h1 (And.intro h1_ (And.intro h2 h2_))
   try simp [F1]
   and_intros <;> first | exact g _ (by kernel_rfl) | refine r _ _ _ ?_ | omega | (simp [maxLen, F1] <;> omega)
   refine WK [(1, AV.ptr 0 0), (18, AV.bool true)] [(0, .cells [Iz v0, AV.lst false false (List.map api_Arc.av v1)])] 1 (by simp [F1]) (by simp [F1]) ?_
   refine CT (by simp [F1]) ?_
   refine SQ [] [none] fun _ _ g r => ?_
   try simp [F1]
   and_intros <;> first | exact g _ (by kernel_rfl) | refine r _ _ _ ?_ | omega | (simp [maxLen, F1] <;> omega)
   refine WK [(2, Iz 16)] [] 1 (by simp [F1]) (by simp [F1]) ?_
   simp only [Option.some.injEq] at hF
   subst hF
   refine AW.ret (hQ _ _ _ ?_ (matchO_0 ?_)).1
   ·simp [Try.f13, F1]
   ·simp [F1]
  ·replace hF := ite_f h2 hF
   have h2_ := h2
   try simp at h2_
   have F2 := And.intro h1 (And.intro h1_ (And.intro h2 h2_))
   try simp [F2]
   and_intros <;> first | exact g _ (by kernel_rfl) | refine r _ _ _ ?_ | omega | (simp [maxLen, F2] <;> omega)
   refine WK [(1, AV.ptr 0 0), (18, AV.bool (decide (1200 < (v1.length : Int))))] [(0, .cells [Iz v0, AV.lst false false (List.map api_Arc.av v1)])] 1 (by simp [F2]) (by simp [F2]) ?_
   by_cases h3 : 1200 < (v1.length : Int)
   ·replace hF := ite_t h3 hF
    have h3_ := h3
    try simp at h3_
    have F3 := And.intro F2 (And.intro h3 h3_)
    refine CT (by simp [F3] <;> omega) ?_
    refine SQ [] [none] fun _ _ g r => ?_
    try simp [F3]
    and_intros <;> first | exact g _ (by kernel_rfl) | refine r _ _ _ ?_ | omega | (simp [maxLen, F3] <;> omega)
    refine WK [(2, Iz 16)] [] 1 (by simp [F3]) (by simp [F3]) ?_
    simp only [Option.some.injEq] at hF
    subst hF
    refine AW.ret (hQ _ _ _ ?_ (matchO_0 ?_)).1
    ·simp [Try.f13, F3]
    ·simp [F3]
   ·replace hF := ite_f h3 hF
    have h3_ := h3
    try simp at h3_
    have F4 := And.intro F2 (And.intro h3 h3_)
    refine CF (by simp [F4] <;> omega) ?_
    refine AW.skip ?_
    refine hK238 _ _ _ ?_
    refine AW.seq fun K353 hK353 => ?_
    refine SQ [] [none] fun _ _ g r => ?_
    try simp [F4]
    and_intros <;> first | exact g _ (by kernel_rfl) | refine r _ _ _ ?_ | omega | (simp [maxLen, F4] <;> omega)
    refine WK [(1, AV.ptr 0 0), (3, Iz 0)] [(0, .cells [Iz v0, AV.lst false false (List.map api_Arc.av v1)])] 1 (by simp [F4]) (by simp [F4]) ?_
    refine AW.block ?_
    refine AW.loopF (α := Int) (fun n v3 => ref15_Check.L1 k v0 v1 n v3 = some v2) (fun v3 => [(1, AV.ptr 0 0), (3, Iz v3)]) (fun v3 => [(0, .cells [Iz v0, AV.lst false false (List.map api_Arc.av v1)])]) 1 k (0) hF (by simp [F4]) (by simp [F4]) (by simp) ?_
    rintro (_|n1) v3 hF K436 hK436
    ·try dsimp only at hF
     rw [ref15_Check.L1] at hF; cases hF
    try dsimp only at hF
    rw [ref15_Check.L1] at hF
    refine AW.seq fun K438 hK438 => ?_
    refine SQ [] [none, none, none, none, none] fun _ _ g r => ?_
    try simp [F4]
    and_intros <;> first | exact g _ (by kernel_rfl) | refine r _ _ _ ?_ | omega | (simp [maxLen, F4] <;> omega)
    refine WK [(1, AV.ptr 0 0), (3, Iz v3), (23, AV.bool (decide (v3 < (v1.length : Int))))] [(0, .cells [Iz v0, AV.lst false false (List.map api_Arc.av v1)])] 1 (by simp [F4]) (by simp [F4]) ?_
    by_cases h4 : v3 < (v1.length : Int)
    ·replace hF := ite_t h4 hF
     have h4_ := h4
     try simp at h4_
     have F5 := And.intro F4 (And.intro h4 h4_)
     refine CT (by simp [F5] <;> omega) ?_
     refine AW.skip ?_
     refine hK438 _ _ _ ?_
     refine AW.seq fun K451 hK451 => ?_
     refine AW.block ?_
     refine SQ [] [none, none, none, none, none, none, none] fun _ _ g r => ?_
     obtain ⟨v4, h5, h6, h7, hF⟩ := idx_elim hF
     have h7_ := get_of h7
     try simp at h7_
     have h6_ := h6
     try simp at h6_
     have F6 := And.intro F5 (And.intro h5 (And.intro h6 (And.intro h7 (And.intro h7_ h6_))))
     try simp [F6]
     and_intros <;> first | exact g _ (by kernel_rfl) | refine r _ _ _ ?_ | omega | (simp [maxLen, F6] <;> omega)
     refine WK [(1, AV.ptr 0 0), (3, Iz v3), (4, AV.ptr 1 0)] [(0, .cells [Iz v0, AV.lst false false (List.map api_Arc.av v1)]), (1, .cells [Iz v4.From, Iz v4.To, Iz v4.Cap])] 2 (by simp [F6]) (by simp [F6]) ?_
     refine SQ [] [none, none, none, none, some (34, false), some (34, false), some (34, false), some (34, false), some (34, false), none, none, some (41, false), some (41, false), some (41, false), none, none, some (46, false), some (46, false), some (46, false), some (46, false), some (46, false), none, none, some (53, false), some (53, false), some (53, false), some (53, false), some (53, false), none, none, some (60, false), some (60, false), some (60, false), none, none, some (65, false), some (65, false), some (65, false), none, none, some (70, false), some (70, false), some (70, false), none, none, some (75, false), some (75, false), some (75, false), none] fun _ _ g r => ?_
     by_cases h8 : v4.From < 0
     ·replace hF := ite_t h8 hF
      have h8_ := h8
      try simp at h8_
      have F7 := And.intro F6 (And.intro h8 h8_)
      try simp [F7]
      and_intros <;> first | exact g _ (by kernel_rfl) | refine r _ _ _ ?_ | omega | (simp [maxLen, F7] <;> omega)
      refine WK [(1, AV.ptr 0 0), (3, Iz v3), (79, AV.bool true)] [(0, .cells [Iz v0, AV.lst false false (List.map api_Arc.av v1)])] 2 (by simp [F7]) (by simp [F7]) ?_
      refine CT (by simp [F7]) ?_
      refine SQ [] [none] fun _ _ g r => ?_
      try simp [F7]
      and_intros <;> first | exact g _ (by kernel_rfl) | refine r _ _ _ ?_ | omega | (simp [maxLen, F7] <;> omega)
      refine WK [(2, Iz 16)] [] 2 (by simp [F7]) (by simp [F7]) ?_
      simp only [Option.some.injEq] at hF
      subst hF
      refine AW.ret (hQ _ _ _ ?_ (matchO_0 ?_)).1
      ·simp [Try.f13, F7]
      ·simp [F7]
     ·replace hF := ite_f h8 hF
      have h8_ := h8
      try simp at h8_
      by_cases h9 : v0 ≤ v4.From
      ·replace hF := ite_t h9 hF
       have h9_ := h9
       try simp at h9_
       have F8 := And.intro F6 (And.intro h8 (And.intro h8_ (And.intro h9 h9_)))
       try simp [F8]
       and_intros <;> first | exact g _ (by kernel_rfl) | refine r _ _ _ ?_ | omega | (simp [maxLen, F8] <;> omega)
       refine WK [(1, AV.ptr 0 0), (3, Iz v3), (79, AV.bool true)] [(0, .cells [Iz v0, AV.lst false false (List.map api_Arc.av v1)])] 2 (by simp [F8]) (by simp [F8]) ?_
       refine CT (by simp [F8]) ?_
       refine SQ [] [none] fun _ _ g r => ?_
       try simp [F8]
       and_intros <;> first | exact g _ (by kernel_rfl) | refine r _ _ _ ?_ | omega | (simp [maxLen, F8] <;> omega)
       refine WK [(2, Iz 16)] [] 2 (by simp [F8]) (by simp [F8]) ?_
       simp only [Option.some.injEq] at hF
       subst hF
       refine AW.ret (hQ _ _ _ ?_ (matchO_0 ?_)).1
       ·simp [Try.f13, F8]
       ·simp [F8]
      ·replace hF := ite_f h9 hF
       have h9_ := h9
       try simp at h9_
       by_cases h10 : v4.To < 0
       ·replace hF := ite_t h10 hF
        have h10_ := h10
        try simp at h10_
        have F9 := And.intro F6 (And.intro h8 (And.intro h8_ (And.intro h9 (And.intro h9_ (And.intro h10 h10_)))))
        try simp [F9]
        and_intros <;> first | exact g _ (by kernel_rfl) | refine r _ _ _ ?_ | omega | (simp [maxLen, F9] <;> omega)
        refine WK [(1, AV.ptr 0 0), (3, Iz v3), (79, AV.bool true)] [(0, .cells [Iz v0, AV.lst false false (List.map api_Arc.av v1)])] 2 (by simp [F9]) (by simp [F9]) ?_
        refine CT (by simp [F9]) ?_
        refine SQ [] [none] fun _ _ g r => ?_
        try simp [F9]
        and_intros <;> first | exact g _ (by kernel_rfl) | refine r _ _ _ ?_ | omega | (simp [maxLen, F9] <;> omega)
        refine WK [(2, Iz 16)] [] 2 (by simp [F9]) (by simp [F9]) ?_
        simp only [Option.some.injEq] at hF
        subst hF
        refine AW.ret (hQ _ _ _ ?_ (matchO_0 ?_)).1
        ·simp [Try.f13, F9]
        ·simp [F9]
       ·replace hF := ite_f h10 hF
        have h10_ := h10
        try simp at h10_
        by_cases h11 : v0 ≤ v4.To
        ·replace hF := ite_t h11 hF
         have h11_ := h11
         try simp at h11_
         have F10 := And.intro F6 (And.intro h8 (And.intro h8_ (And.intro h9 (And.intro h9_ (And.intro h10 (And.intro h10_ (And.intro h11 h11_)))))))
         try simp [F10]
         and_intros <;> first | exact g _ (by kernel_rfl) | refine r _ _ _ ?_ | omega | (simp [maxLen, F10] <;> omega)
         refine WK [(1, AV.ptr 0 0), (3, Iz v3), (79, AV.bool true)] [(0, .cells [Iz v0, AV.lst false false (List.map api_Arc.av v1)])] 2 (by simp [F10]) (by simp [F10]) ?_
         refine CT (by simp [F10]) ?_
         refine SQ [] [none] fun _ _ g r => ?_
         try simp [F10]
         and_intros <;> first | exact g _ (by kernel_rfl) | refine r _ _ _ ?_ | omega | (simp [maxLen, F10] <;> omega)
         refine WK [(2, Iz 16)] [] 2 (by simp [F10]) (by simp [F10]) ?_
         simp only [Option.some.injEq] at hF
         subst hF
         refine AW.ret (hQ _ _ _ ?_ (matchO_0 ?_)).1
         ·simp [Try.f13, F10]
         ·simp [F10]
        ·replace hF := ite_f h11 hF
         have h11_ := h11
         try simp at h11_
         by_cases h12 : v4.From = v4.To
         ·replace hF := ite_t h12 hF
          have h12q : v4.From = v4.To := h12
          have h12_ := eqb_t h12q
          have h12__ := neb_f h12q
          have F11 := And.intro F6 (And.intro h8 (And.intro h8_ (And.intro h9 (And.intro h9_ (And.intro h10 (And.intro h10_ (And.intro h11 (And.intro h11_ (And.intro h12_ h12__)))))))))
          try simp [F11]
          and_intros <;> first | exact g _ (by kernel_rfl) | refine r _ _ _ ?_ | omega | (simp [maxLen, F11] <;> omega)
          refine WK [(1, AV.ptr 0 0), (3, Iz v3), (79, AV.bool true)] [(0, .cells [Iz v0, AV.lst false false (List.map api_Arc.av v1)])] 2 (by simp [F11]) (by simp [F11]) ?_
          refine CT (by simp [F11]) ?_
          refine SQ [] [none] fun _ _ g r => ?_
          try simp [F11]
          and_intros <;> first | exact g _ (by kernel_rfl) | refine r _ _ _ ?_ | omega | (simp [maxLen, F11] <;> omega)
          refine WK [(2, Iz 16)] [] 2 (by simp [F11]) (by simp [F11]) ?_
          simp only [Option.some.injEq] at hF
          subst hF
          refine AW.ret (hQ _ _ _ ?_ (matchO_0 ?_)).1
          ·simp [Try.f13, F11]
          ·simp [F11]
         ·replace hF := ite_f h12 hF
          have h12_ := eqb_f h12
          have h12__ := neb_t h12
          by_cases h13 : v4.To = 0
          ·replace hF := ite_t h13 hF
           have h13q : v4.To = 0 := h13
           have h13_ := eqb_t h13q
           have h13__ := neb_f h13q
           have h13_h10 := h10
           rw [h13q] at h13_h10
           have h13_h11 := h11
           rw [h13q] at h13_h11
           have h13__h12 := h12_
           rw [h13q] at h13__h12
           have h13___h12 := h12__
           rw [h13q] at h13___h12
           have F12 := And.intro F6 (And.intro h8 (And.intro h8_ (And.intro h9 (And.intro h9_ (And.intro h10 (And.intro h10_ (And.intro h11 (And.intro h11_ (And.intro h12 (And.intro h12_ (And.intro h12__ (And.intro h13_ (And.intro h13__ (And.intro h13q (And.intro h13_h10 (And.intro h13_h11 (And.intro h13__h12 h13___h12)))))))))))))))))
           try simp [F12]
           and_intros <;> first | exact g _ (by kernel_rfl) | refine r _ _ _ ?_ | omega | (simp [maxLen, F12] <;> omega)
           refine WK [(1, AV.ptr 0 0), (3, Iz v3), (79, AV.bool true)] [(0, .cells [Iz v0, AV.lst false false (List.map api_Arc.av v1)])] 2 (by simp [F12]) (by simp [F12]) ?_
           refine CT (by simp [F12]) ?_
           refine SQ [] [none] fun _ _ g r => ?_
           try simp [F12]
           and_intros <;> first | exact g _ (by kernel_rfl) | refine r _ _ _ ?_ | omega | (simp [maxLen, F12] <;> omega)
           refine WK [(2, Iz 16)] [] 2 (by simp [F12]) (by simp [F12]) ?_
           simp only [Option.some.injEq] at hF
           subst hF
           refine AW.ret (hQ _ _ _ ?_ (matchO_0 ?_)).1
           ·simp [Try.f13, F12]
           ·simp [F12]
          ·replace hF := ite_f h13 hF
           have h13_ := eqb_f h13
           have h13__ := neb_t h13
           by_cases h14 : v4.From = 1
           ·replace hF := ite_t h14 hF
            have h14q : v4.From = 1 := h14
            have h14_ := eqb_t h14q
            have h14__ := neb_f h14q
            have h14_h8 := h8
            rw [h14q] at h14_h8
            have h14_h9 := h9
            rw [h14q] at h14_h9
            have h14__h12 := h12_
            rw [h14q] at h14__h12
            have h14___h12 := h12__
            rw [h14q] at h14___h12
            have F13 := And.intro F6 (And.intro h8 (And.intro h8_ (And.intro h9 (And.intro h9_ (And.intro h10 (And.intro h10_ (And.intro h11 (And.intro h11_ (And.intro h12 (And.intro h12_ (And.intro h12__ (And.intro h13 (And.intro h13_ (And.intro h13__ (And.intro h14_ (And.intro h14__ (And.intro h14q (And.intro h14_h8 (And.intro h14_h9 (And.intro h14__h12 h14___h12))))))))))))))))))))
            try simp [F13]
            and_intros <;> first | exact g _ (by kernel_rfl) | refine r _ _ _ ?_ | omega | (simp [maxLen, F13] <;> omega)
            refine WK [(1, AV.ptr 0 0), (3, Iz v3), (79, AV.bool true)] [(0, .cells [Iz v0, AV.lst false false (List.map api_Arc.av v1)])] 2 (by simp [F13]) (by simp [F13]) ?_
            refine CT (by simp [F13]) ?_
            refine SQ [] [none] fun _ _ g r => ?_
            try simp [F13]
            and_intros <;> first | exact g _ (by kernel_rfl) | refine r _ _ _ ?_ | omega | (simp [maxLen, F13] <;> omega)
            refine WK [(2, Iz 16)] [] 2 (by simp [F13]) (by simp [F13]) ?_
            simp only [Option.some.injEq] at hF
            subst hF
            refine AW.ret (hQ _ _ _ ?_ (matchO_0 ?_)).1
            ·simp [Try.f13, F13]
            ·simp [F13]
           ·replace hF := ite_f h14 hF
            have h14_ := eqb_f h14
            have h14__ := neb_t h14
            by_cases h15 : v4.Cap < 0
            ·replace hF := ite_t h15 hF
             have h15_ := h15
             try simp at h15_
             have F14 := And.intro F6 (And.intro h8 (And.intro h8_ (And.intro h9 (And.intro h9_ (And.intro h10 (And.intro h10_ (And.intro h11 (And.intro h11_ (And.intro h12 (And.intro h12_ (And.intro h12__ (And.intro h13 (And.intro h13_ (And.intro h13__ (And.intro h14 (And.intro h14_ (And.intro h14__ (And.intro h15 h15_))))))))))))))))))
             try simp [F14]
             and_intros <;> first | exact g _ (by kernel_rfl) | refine r _ _ _ ?_ | omega | (simp [maxLen, F14] <;> omega)
             refine WK [(1, AV.ptr 0 0), (3, Iz v3), (79, AV.bool true)] [(0, .cells [Iz v0, AV.lst false false (List.map api_Arc.av v1)])] 2 (by simp [F14]) (by simp [F14]) ?_
             refine CT (by simp [F14]) ?_
             refine SQ [] [none] fun _ _ g r => ?_
             try simp [F14]
             and_intros <;> first | exact g _ (by kernel_rfl) | refine r _ _ _ ?_ | omega | (simp [maxLen, F14] <;> omega)
             refine WK [(2, Iz 16)] [] 2 (by simp [F14]) (by simp [F14]) ?_
             simp only [Option.some.injEq] at hF
             subst hF
             refine AW.ret (hQ _ _ _ ?_ (matchO_0 ?_)).1
             ·simp [Try.f13, F14]
             ·simp [F14]
            ·replace hF := ite_f h15 hF
             have h15_ := h15
             try simp at h15_
             have F15 := And.intro F6 (And.intro h8 (And.intro h8_ (And.intro h9 (And.intro h9_ (And.intro h10 (And.intro h10_ (And.intro h11 (And.intro h11_ (And.intro h12 (And.intro h12_ (And.intro h12__ (And.intro h13 (And.intro h13_ (And.intro h13__ (And.intro h14 (And.intro h14_ (And.intro h14__ (And.intro h15 h15_))))))))))))))))))
             try simp [F15]
             and_intros <;> first | exact g _ (by kernel_rfl) | refine r _ _ _ ?_ | omega | (simp [maxLen, F15] <;> omega)
             refine WK [(1, AV.ptr 0 0), (3, Iz v3), (79, AV.bool (decide (1048576 < v4.Cap)))] [(0, .cells [Iz v0, AV.lst false false (List.map api_Arc.av v1)])] 2 (by simp [F15]) (by simp [F15]) ?_
             by_cases h16 : 1048576 < v4.Cap
             ·replace hF := ite_t h16 hF
              have h16_ := h16
              try simp at h16_
              have F16 := And.intro F15 (And.intro h16 h16_)
              refine CT (by simp [F16] <;> omega) ?_
              refine SQ [] [none] fun _ _ g r => ?_
              try simp [F16]
              and_intros <;> first | exact g _ (by kernel_rfl) | refine r _ _ _ ?_ | omega | (simp [maxLen, F16] <;> omega)
              refine WK [(2, Iz 16)] [] 2 (by simp [F16]) (by simp [F16]) ?_
              simp only [Option.some.injEq] at hF
              subst hF
              refine AW.ret (hQ _ _ _ ?_ (matchO_0 ?_)).1
              ·simp [Try.f13, F16]
              ·simp [F16]
             ·replace hF := ite_f h16 hF
              have h16_ := h16
              try simp at h16_
              have F17 := And.intro F15 (And.intro h16 h16_)
              refine CF (by simp [F17] <;> omega) ?_
              refine AW.skip ?_
              refine hK451 _ _ _ ?_
              refine RG [] [none, none, none] fun _ _ g r => ?_
              try simp [F17]
              and_intros <;> first | exact g _ (by kernel_rfl) | refine r _ _ _ ?_ | omega | (simp [maxLen, F17] <;> omega)
              refine hK436 _ _ _ ?_
              refine RN h0 [(0, 0)] [(1, AV.ptr 0 0), (3, Iz (IntKind.wrap .i64 (v3 + 1)))] [(0, .cells [Iz v0, AV.lst false false (List.map api_Arc.av v1)])] 1 (by simp [F17]) (by simp [F17]) ?_
              exact NX (k' := n1) (IntKind.wrap .i64 (v3 + 1)) hF (by simp [F17]) (by simp [F17])
    ·replace hF := ite_f h4 hF
     have h4_ := h4
     try simp at h4_
     have F18 := And.intro F4 (And.intro h4 h4_)
     refine CF (by simp [F18] <;> omega) ?_
     refine AW.exit ?_
     try simp
     refine hK353 _ _ _ ?_
     refine SQ [] [none] fun _ _ g r => ?_
     try simp [F18]
     and_intros <;> first | exact g _ (by kernel_rfl) | refine r _ _ _ ?_ | omega | (simp [maxLen, F18] <;> omega)
     refine WK [(2, Iz 0)] [] 1 (by simp [F18]) (by simp [F18]) ?_
     simp only [Option.some.injEq] at hF
     subst hF
     refine AW.ret (hQ _ _ _ ?_ (matchO_0 ?_)).1
     ·simp [Try.f13, F18]
     ·simp [F18]
theorem w_ref15_Residual (k : Nat) (v0 : Int) (v1 : (List api_Arc)) (v2 : (List Int)) (v3 : (List Int)) (hF : ref15_Residual k v0 v1 v2 = some v3) :
  FCall Try.prog 42 [AV.agg [AV.int .i64 v0, AV.lst false false (List.map api_Arc.av v1)], AV.lst false false (List.map (AV.int .i64) v2)] [] (AV.slc 0 0 1 v3.length false) [some (.cells (List.map (AV.int .i64) v3))] := by
 unfold ref15_Residual at hF
 refine EN Try.func42 ?_
 intro c0 w0 Q h0 hQ
 refine WK [(0, AV.agg [Iz v0, AV.lst false false (List.map api_Arc.av v1)]), (1, Lz v2)] [] 0 (by simp [-List.reduceReplicate, sOf_set, ofI_set, allU8_set]) (by simp [-List.reduceReplicate, sOf_set, ofI_set, allU8_set]) ?_
 refine SQ [] [none, none] fun _ _ g r => ?_
 try simp [-List.reduceReplicate, sOf_set, ofI_set, allU8_set]
 and_intros <;> first | exact g _ (by kernel_rfl) | refine r _ _ _ ?_ | omega | (simp [-List.reduceReplicate, sOf_set, ofI_set, allU8_set, maxLen] <;> omega)
 refine WK [(1, Lz v2), (2, AV.ptr 0 0)] [(0, .cells [Iz v0, AV.lst false false (List.map api_Arc.av v1)])] 1 (by simp [-List.reduceReplicate, sOf_set, ofI_set, allU8_set]) (by simp [-List.reduceReplicate, sOf_set, ofI_set, allU8_set]) ?_
 refine SQ [13] [none, none, none, none] fun _ _ g r => ?_
 obtain ⟨h1, hF⟩ := chk_elim hF
 obtain ⟨v4, h2, hF⟩ := let1_elim hF
 have h2l : v4.length = (v0).toNat := by rw [← h2]; exact List.length_replicate
 have h2m : List.replicate (v0).toNat (Iz 0) = List.map (AV.int .i64) v4 := by rw [← h2]; exact (List.map_replicate ..).symm
 have F1 := And.intro h1 (And.intro h2l h2m)
 try simp [-List.reduceReplicate, sOf_set, ofI_set, allU8_set, F1]
 and_intros <;> first | exact g _ (by kernel_rfl) | refine r _ _ _ ?_ | omega | (simp [-List.reduceReplicate, sOf_set, ofI_set, allU8_set, maxLen, F1] <;> omega)
 refine WK [(1, Lz v2), (2, AV.ptr 0 0), (5, AV.slc 1 0 1 v4.length true)] [(0, .cells [Iz v0, AV.lst false false (List.map api_Arc.av v1)]), (1, .cells (List.map (AV.int .i64) v4))] 2 (by simp [-List.reduceReplicate, sOf_set, ofI_set, allU8_set, F1]) (by simp [-List.reduceReplicate, sOf_set, ofI_set, allU8_set, F1]) ?_
 refine SQ [16] [none, none, none, none] fun _ _ g r => ?_
 obtain ⟨h3, hF⟩ := chk_elim hF
 obtain ⟨v5, h4, hF⟩ := let1_elim hF
 have h4l : v5.length = (v0).toNat := by rw [← h4]; exact List.length_replicate
 have h4m : List.replicate (v0).toNat (AV.bool false) = List.map AV.bool v5 := by rw [← h4]; exact (List.map_replicate ..).symm
 have F2 := And.intro F1 (And.intro h3 (And.intro h4l h4m))
 try simp [-List.reduceReplicate, sOf_set, ofI_set, allU8_set, F2]
 and_intros <;> first | exact g _ (by kernel_rfl) | refine r _ _ _ ?_ | omega | (simp [-List.reduceReplicate, sOf_set, ofI_set, allU8_set, maxLen, F2] <;> omega)
 refine WK [(1, Lz v2), (2, AV.ptr 0 0), (5, AV.slc 1 0 1 v4.length true), (6, AV.slc 2 0 1 v5.length true)] [(0, .cells [Iz v0, AV.lst false false (List.map api_Arc.av v1)]), (1, .cells (List.map (AV.int .i64) v4)), (2, .cells (List.map AV.bool v5))] 3 (by simp [-List.reduceReplicate, sOf_set, ofI_set, allU8_set, F2]) (by simp [-List.reduceReplicate, sOf_set, ofI_set, allU8_set, F2]) ?_
 refine SQ [] [none, none, none] fun _ _ g r => ?_
 obtain ⟨⟨h5, h6⟩, hF⟩ := chk_elim hF
 have h6_ := ne_of_lt h6
 have F3 := And.intro F2 (And.intro h5 (And.intro h6 h6_))
 try simp [-List.reduceReplicate, sOf_set, ofI_set, allU8_set, F3]
 and_intros <;> first | exact g _ (by kernel_rfl) | refine r _ _ _ ?_ | omega | (simp [-List.reduceReplicate, sOf_set, ofI_set, allU8_set, maxLen, F3] <;> omega)
 refine WK [(1, Lz v2), (2, AV.ptr 0 0), (5, AV.slc 1 0 1 v4.length true), (6, AV.slc 2 0 1 ((v5.set (0 : Int).toNat true).length) true)] [(0, .cells [Iz v0, AV.lst false false (List.map api_Arc.av v1)]), (1, .cells (List.map (AV.int .i64) v4)), (2, .cells (List.map AV.bool (v5.set (0 : Int).toNat true)))] 3 (by simp [-List.reduceReplicate, sOf_set, ofI_set, allU8_set, F3]) (by simp [-List.reduceReplicate, sOf_set, ofI_set, allU8_set, F3]) ?_
 refine SQ [19] [none, none] fun _ _ g r => ?_
 try simp [-List.reduceReplicate, sOf_set, ofI_set, allU8_set, F3]
 and_intros <;> first | exact g _ (by kernel_rfl) | refine r _ _ _ ?_ | omega | (simp [-List.reduceReplicate, sOf_set, ofI_set, allU8_set, maxLen, F3] <;> omega)
 refine WK [(1, Lz v2), (2, AV.ptr 0 0), (5, AV.slc 1 0 1 v4.length true), (6, AV.slc 2 0 1 ((v5.set (0 : Int).toNat true).length) true), (7, AV.slc 3 0 1 (([0] : List Int).length) true)] [(0, .cells [Iz v0, AV.lst false false (List.map api_Arc.av v1)]), (1, .cells (List.map (AV.int .i64) v4)), (2, .cells (List.map AV.bool (v5.set (0 : Int).toNat true))), (3, .cells (List.map (AV.int .i64) ([0] : List Int)))] 4 (by simp [-List.reduceReplicate, sOf_set, ofI_set, allU8_set, F3]) (by simp [-List.reduceReplicate, sOf_set, ofI_set, allU8_set, F3]) ?_
 refine AW.seq fun K1396 hK1396 => ?_
 refine AW.block ?_
 refine AW.flg [(7, AV.slc 3 0 1 (([0] : List Int).length) false)] [] ⟨.slc, trivial⟩ trivial (by simp) ?_
 refine AW.loopF (α := (Nat × (List Int) × (List Bool) × (List Int))) (fun n (v6, v7, v8, v9) => ref15_Residual.L1 k v1 v2 n v6 v7 v8 v9 = some v3) (fun (v6, v7, v8, v9) => [(1, Lz v2), (2, AV.ptr 0 0), (5, AV.slc 1 0 1 v7.length true), (6, AV.slc 2 0 1 v8.length true), (7, AV.slc 3 v6 1 (v9.length - v6) false)]) (fun (v6, v7, v8, v9) => [(0, .cells [Iz v0, AV.lst false false (List.map api_Arc.av v1)]), (1, .cells (List.map (AV.int .i64) v7)), (2, .cells (List.map AV.bool v8)), (3, .cells (List.map (AV.int .i64) v9))]) 4 k ((0, v4, v5.set (0 : Int).toNat true, ([0] : List Int))) hF (by simp [-List.reduceReplicate, sOf_set, ofI_set, allU8_set, F3]) (by simp [-List.reduceReplicate, sOf_set, ofI_set, allU8_set, F3]) (by simp) ?_
 rintro (_|n1) ⟨v6, v7, v8, v9⟩ hF K1742 hK1742
 ·try dsimp only at hF
  rw [ref15_Residual.L1] at hF; cases hF
 try dsimp only at hF
 rw [ref15_Residual.L1] at hF
 refine AW.seq fun K1744 hK1744 => ?_
 refine SQ [] [none, none, none] fun _ _ g r => ?_
 try simp [-List.reduceReplicate, sOf_set, ofI_set, allU8_set, F3]
 and_intros <;> first | exact g _ (by kernel_rfl) | refine r _ _ _ ?_ | omega | (simp [-List.reduceReplicate, sOf_set, ofI_set, allU8_set, maxLen, F3] <;> omega)
 refine WK [(1, Lz v2), (2, AV.ptr 0 0), (5, AV.slc 1 0 1 v7.length true), (6, AV.slc 2 0 1 v8.length true), (7, AV.slc 3 v6 1 (v9.length - v6) false), (22, AV.bool (decide (0 < (((v9.length - v6) : Nat) : Int))))] [(0, .cells [Iz v0, AV.lst false false (List.map api_Arc.av v1)]), (1, .cells (List.map (AV.int .i64) v7)), (2, .cells (List.map AV.bool v8)), (3, .cells (List.map (AV.int .i64) v9))] 4 (by simp [-List.reduceReplicate, sOf_set, ofI_set, allU8_set, F3]) (by simp [-List.reduceReplicate, sOf_set, ofI_set, allU8_set, F3]) ?_
 by_cases h7 : 0 < (((v9.length - v6) : Nat) : Int)
 ·replace hF := ite_t h7 hF
  have h7_ := h7
  try simp [-List.reduceReplicate] at h7_
  have F4 := And.intro F3 (And.intro h7 h7_)
  refine CT (by simp [-List.reduceReplicate, sOf_set, ofI_set, allU8_set, F4] <;> omega) ?_
  refine AW.skip ?_
  refine hK1744 _ _ _ ?_
  refine AW.block ?_
  refine SQ [] [none, none, none, none] fun _ _ g r => ?_
  obtain ⟨⟨h8, h10, h9⟩, hF⟩ := chk_elim hF
  have h9_ := ne_of_lt h9
  obtain ⟨v10, h11, h12, h13, hF⟩ := idx_elim hF
  have h13_ := get_of h13
  try simp [-List.reduceReplicate] at h13_
  have h12_ := h12
  try simp [-List.reduceReplicate] at h12_
  have F5 := And.intro F4 (And.intro h8 (And.intro h9 (And.intro h10 (And.intro h9_ (And.intro h11 (And.intro h12 (And.intro h13 (And.intro h13_ h12_))))))))
  try simp [-List.reduceReplicate, sOf_set, ofI_set, allU8_set, F5]
  and_intros <;> first | exact g _ (by kernel_rfl) | refine r _ _ _ ?_ | omega | (simp [-List.reduceReplicate, sOf_set, ofI_set, allU8_set, maxLen, F5] <;> omega)
  refine WK [(1, Lz v2), (2, AV.ptr 0 0), (5, AV.slc 1 0 1 v7.length true), (6, AV.slc 2 0 1 v8.length true), (7, AV.slc 3 v6 1 (v9.length - v6) false), (8, Iz v10)] [(0, .cells [Iz v0, AV.lst false false (List.map api_Arc.av v1)]), (1, .cells (List.map (AV.int .i64) v7)), (2, .cells (List.map AV.bool v8)), (3, .cells (List.map (AV.int .i64) v9))] 4 (by simp [-List.reduceReplicate, sOf_set, ofI_set, allU8_set, F5]) (by simp [-List.reduceReplicate, sOf_set, ofI_set, allU8_set, F5]) ?_
  refine SQ [] [none, none, none] fun _ _ g r => ?_
  have h14b : v9.length - v6 - 1 = v9.length - (v6 + 1) := by omega
  obtain ⟨⟨h14, h15⟩, hF⟩ := chk_elim hF
  have h14n := ne_of_pos h14
  have h14_ := h14
  try simp [-List.reduceReplicate] at h14_
  have h15_ := h15
  try simp [-List.reduceReplicate] at h15_
  have F6 := And.intro F5 (And.intro h14 (And.intro h15 (And.intro h14_ (And.intro h15_ (And.intro h14n h14b)))))
  try simp [-List.reduceReplicate, sOf_set, ofI_set, allU8_set, F6]
  and_intros <;> first | exact g _ (by kernel_rfl) | refine r _ _ _ ?_ | omega | (simp [-List.reduceReplicate, sOf_set, ofI_set, allU8_set, maxLen, F6] <;> omega)
  refine WK [(1, Lz v2), (2, AV.ptr 0 0), (5, AV.slc 1 0 1 v7.length true), (6, AV.slc 2 0 1 v8.length true), (7, AV.slc 3 (v6 + (1 : Int).toNat) 1 (v9.length - (v6 + (1 : Int).toNat)) false), (8, Iz v10)] [(0, .cells [Iz v0, AV.lst false false (List.map api_Arc.av v1)]), (1, .cells (List.map (AV.int .i64) v7)), (2, .cells (List.map AV.bool v8)), (3, .cells (List.map (AV.int .i64) v9))] 4 (by simp [-List.reduceReplicate, sOf_set, ofI_set, allU8_set, F6]) (by simp [-List.reduceReplicate, sOf_set, ofI_set, allU8_set, F6]) ?_
  refine SQ [] [none] fun _ _ g r => ?_
  try simp [-List.reduceReplicate, sOf_set, ofI_set, allU8_set, F6]
  and_intros <;> first | exact g _ (by kernel_rfl) | refine r _ _ _ ?_ | omega | (simp [-List.reduceReplicate, sOf_set, ofI_set, allU8_set, maxLen, F6] <;> omega)
  refine WK [(1, Lz v2), (2, AV.ptr 0 0), (5, AV.slc 1 0 1 v7.length true), (6, AV.slc 2 0 1 v8.length true), (7, AV.slc 3 (v6 + (1 : Int).toNat) 1 (v9.length - (v6 + (1 : Int).toNat)) false), (8, Iz v10), (9, Iz 0)] [(0, .cells [Iz v0, AV.lst false false (List.map api_Arc.av v1)]), (1, .cells (List.map (AV.int .i64) v7)), (2, .cells (List.map AV.bool v8)), (3, .cells (List.map (AV.int .i64) v9))] 4 (by simp [-List.reduceReplicate, sOf_set, ofI_set, allU8_set, F6]) (by simp [-List.reduceReplicate, sOf_set, ofI_set, allU8_set, F6]) ?_
  refine AW.block ?_
  refine AW.loopF (α := (Nat × Int × (List Int) × (List Bool) × (List Int))) (fun n (v11, v12, v13, v14, v15) => ref15_Residual.L2 k v1 v2 v10 (fun v6_ v7_ v8_ v9_ => ref15_Residual.L1 k v1 v2 n1 v6_ v7_ v8_ v9_) n v11 v12 v13 v14 v15 = some v3) (fun (v11, v12, v13, v14, v15) => [(1, Lz v2), (2, AV.ptr 0 0), (5, AV.slc 1 0 1 v13.length true), (6, AV.slc 2 0 1 v14.length true), (7, AV.slc 3 v11 1 (v15.length - v11) false), (8, Iz v10), (9, Iz v12)]) (fun (v11, v12, v13, v14, v15) => [(0, .cells [Iz v0, AV.lst false false (List.map api_Arc.av v1)]), (1, .cells (List.map (AV.int .i64) v13)), (2, .cells (List.map AV.bool v14)), (3, .cells (List.map (AV.int .i64) v15))]) 4 k ((v6 + (1 : Int).toNat, 0, v7, v8, v9)) hF (by simp [-List.reduceReplicate, sOf_set, ofI_set, allU8_set, F6]) (by simp [-List.reduceReplicate, sOf_set, ofI_set, allU8_set, F6]) (by simp) ?_
  rintro (_|n2) ⟨v11, v12, v13, v14, v15⟩ hF K1830 hK1830
  ·try dsimp only at hF
   rw [ref15_Residual.L2] at hF; cases hF
  try dsimp only at hF
  rw [ref15_Residual.L2] at hF
  refine AW.seq fun K1832 hK1832 => ?_
  refine SQ [] [none, none, none, none, none] fun _ _ g r => ?_
  try simp [-List.reduceReplicate, sOf_set, ofI_set, allU8_set, F6]
  and_intros <;> first | exact g _ (by kernel_rfl) | refine r _ _ _ ?_ | omega | (simp [-List.reduceReplicate, sOf_set, ofI_set, allU8_set, maxLen, F6] <;> omega)
  refine WK [(1, Lz v2), (2, AV.ptr 0 0), (5, AV.slc 1 0 1 v13.length true), (6, AV.slc 2 0 1 v14.length true), (7, AV.slc 3 v11 1 (v15.length - v11) false), (8, Iz v10), (9, Iz v12), (32, AV.bool (decide (v12 < (v1.length : Int))))] [(0, .cells [Iz v0, AV.lst false false (List.map api_Arc.av v1)]), (1, .cells (List.map (AV.int .i64) v13)), (2, .cells (List.map AV.bool v14)), (3, .cells (List.map (AV.int .i64) v15))] 4 (by simp [-List.reduceReplicate, sOf_set, ofI_set, allU8_set, F6]) (by simp [-List.reduceReplicate, sOf_set, ofI_set, allU8_set, F6]) ?_
  by_cases h16 : v12 < (v1.length : Int)
  ·replace hF := ite_t h16 hF
   have h16_ := h16
   try simp [-List.reduceReplicate] at h16_
   have F7 := And.intro F6 (And.intro h16 h16_)
   refine CT (by simp [-List.reduceReplicate, sOf_set, ofI_set, allU8_set, F7] <;> omega) ?_
   refine AW.skip ?_
   refine hK1832 _ _ _ ?_
   refine AW.midF (α := ((List Int) × (List Bool) × (List Int) × Nat)) (fun (v16, v17, v18, v19) => ref15_Residual.J3 k v12 (fun v11_ v12_ v13_ v14_ v15_ => ref15_Residual.L2 k v1 v2 v10 (fun v6_ v7_ v8_ v9_ => ref15_Residual.L1 k v1 v2 n1 v6_ v7_ v8_ v9_) n2 v11_ v12_ v13_ v14_ v15_) v16 v17 v18 v19 = some v3) (fun (v16, v17, v18, v19) => [(1, Lz v2), (2, AV.ptr 0 0), (5, AV.slc 1 0 1 v16.length true), (6, AV.slc 2 0 1 v17.length true), (7, AV.slc 3 v19 1 (v18.length - v19) false), (8, Iz v10), (9, Iz v12)]) (fun (v16, v17, v18, v19) => [(0, .cells [Iz v0, AV.lst false false (List.map api_Arc.av v1)]), (1, .cells (List.map (AV.int .i64) v16)), (2, .cells (List.map AV.bool v17)), (3, .cells (List.map (AV.int .i64) v18))]) 4 (fun K1846 hK1846 => ?_) ?_
   ·refine AW.block ?_
    refine SQ [] [none, none, none, none, none, none, none] fun _ _ g r => ?_
    obtain ⟨v20, h17, h18, h19, hF⟩ := idx_elim hF
    have h19_ := get_of h19
    try simp [-List.reduceReplicate] at h19_
    have h18_ := h18
    try simp [-List.reduceReplicate] at h18_
    have F8 := And.intro F7 (And.intro h17 (And.intro h18 (And.intro h19 (And.intro h19_ h18_))))
    try simp [-List.reduceReplicate, sOf_set, ofI_set, allU8_set, F8]
    and_intros <;> first | exact g _ (by kernel_rfl) | refine r _ _ _ ?_ | omega | (simp [-List.reduceReplicate, sOf_set, ofI_set, allU8_set, maxLen, F8] <;> omega)
    refine WK [(1, Lz v2), (2, AV.ptr 0 0), (5, AV.slc 1 0 1 v13.length true), (6, AV.slc 2 0 1 v14.length true), (7, AV.slc 3 v11 1 (v15.length - v11) false), (8, Iz v10), (9, Iz v12), (10, AV.ptr 4 0)] [(0, .cells [Iz v0, AV.lst false false (List.map api_Arc.av v1)]), (1, .cells (List.map (AV.int .i64) v13)), (2, .cells (List.map AV.bool v14)), (3, .cells (List.map (AV.int .i64) v15)), (4, .cells [Iz v20.From, Iz v20.To, Iz v20.Cap])] 5 (by simp [-List.reduceReplicate, sOf_set, ofI_set, allU8_set, F8]) (by simp [-List.reduceReplicate, sOf_set, ofI_set, allU8_set, F8]) ?_
    refine AW.midF (α := ((List Int) × (List Bool) × (List Int) × Nat)) (fun (v21, v22, v23, v24) => ref15_Residual.J4 k v2 v10 v12 v20 (fun v11_ v12_ v13_ v14_ v15_ => ref15_Residual.L2 k v1 v2 v10 (fun v6_ v7_ v8_ v9_ => ref15_Residual.L1 k v1 v2 n1 v6_ v7_ v8_ v9_) n2 v11_ v12_ v13_ v14_ v15_) v21 v22 v23 v24 = some v3) (fun (v21, v22, v23, v24) => [(1, Lz v2), (2, AV.ptr 0 0), (5, AV.slc 1 0 1 v21.length true), (6, AV.slc 2 0 1 v22.length true), (7, AV.slc 3 v24 1 (v23.length - v24) false), (8, Iz v10), (9, Iz v12), (10, AV.ptr 4 0)]) (fun (v21, v22, v23, v24) => [(0, .cells [Iz v0, AV.lst false false (List.map api_Arc.av v1)]), (1, .cells (List.map (AV.int .i64) v21)), (2, .cells (List.map AV.bool v22)), (3, .cells (List.map (AV.int .i64) v23)), (4, .cells [Iz v20.From, Iz v20.To, Iz v20.Cap])]) 5 (fun K1854 hK1854 => ?_) ?_
    ·refine SQ [] [none, none, none, none, none, some (44, true), some (44, true), some (44, true), some (44, true), some (44, true), some (44, true), some (44, true), none, none, some (53, true), some (53, true), some (53, true), some (53, true), some (53, true), some (53, true), none] fun _ _ g r => ?_
     by_cases h37 : v20.From = v10
     ·replace hF := ite_t h37 hF
      have h37q : v20.From = v10 := h37
      have h37_ := eqb_t h37q
      have h37__ := neb_f h37q
      obtain ⟨v27, h38, h39, h40, hF⟩ := idx_elim hF
      have h40_ := get_of h40
      try simp [-List.reduceReplicate] at h40_
      have h39_ := h39
      try simp [-List.reduceReplicate] at h39_
      by_cases h41 : v27 < v20.Cap
      ·replace hF := ite_t h41 hF
       have h41_ := h41
       try simp [-List.reduceReplicate] at h41_
       obtain ⟨⟨h42, h43⟩, hF⟩ := chk_elim hF
       have h43_ := ne_of_lt h43
       obtain ⟨v28, h44, h45, h46, hF⟩ := idx_elim hF
       have h46_ := get_of h46
       try simp [-List.reduceReplicate] at h46_
       have h45_ := h45
       try simp [-List.reduceReplicate] at h45_
       have F9 := And.intro F8 (And.intro h37_ (And.intro h37__ (And.intro h38 (And.intro h39 (And.intro h40 (And.intro h40_ (And.intro h39_ (And.intro h41 (And.intro h41_ (And.intro h42 (And.intro h43 (And.intro h43_ (And.intro h44 (And.intro h45 (And.intro h46 (And.intro h46_ h45_))))))))))))))))
       try simp [-List.reduceReplicate, sOf_set, ofI_set, allU8_set, F9]
       and_intros <;> first | exact g _ (by kernel_rfl) | refine r _ _ _ ?_ | omega | (simp [-List.reduceReplicate, sOf_set, ofI_set, allU8_set, maxLen, F9] <;> omega)
       refine WK [(1, Lz v2), (2, AV.ptr 0 0), (5, AV.slc 1 0 1 v13.length true), (6, AV.slc 2 0 1 v14.length true), (7, AV.slc 3 v11 1 (v15.length - v11) false), (8, Iz v10), (9, Iz v12), (10, AV.ptr 4 0), (60, AV.bool (!v28))] [(0, .cells [Iz v0, AV.lst false false (List.map api_Arc.av v1)]), (1, .cells (List.map (AV.int .i64) v13)), (2, .cells (List.map AV.bool v14)), (3, .cells (List.map (AV.int .i64) v15)), (4, .cells [Iz v20.From, Iz v20.To, Iz v20.Cap])] 5 (by simp [-List.reduceReplicate, sOf_set, ofI_set, allU8_set, F9]) (by simp [-List.reduceReplicate, sOf_set, ofI_set, allU8_set, F9]) ?_
       by_cases h47 : (!v28) = true
       ·replace hF := ite_t h47 hF
        have h47_ := h47
        try simp [-List.reduceReplicate] at h47_
        have F10 := And.intro F9 (And.intro h47 h47_)
        refine CT (by simp [-List.reduceReplicate, sOf_set, ofI_set, allU8_set, F10] <;> omega) ?_
        refine SQ [] [none, none, none, none, none, none, none, none, none, none, none, none] fun _ _ g r => ?_
        obtain ⟨⟨h48, h49⟩, hF⟩ := chk_elim hF
        have h49_ := ne_of_lt h49
        obtain ⟨⟨h50, h51⟩, hF⟩ := chk_elim hF
        have h51_ := ne_of_lt h51
        have F11 := And.intro F10 (And.intro h48 (And.intro h49 (And.intro h49_ (And.intro h50 (And.intro h51 h51_)))))
        try simp [-List.reduceReplicate, sOf_set, ofI_set, allU8_set, F11]
        and_intros <;> first | exact g _ (by kernel_rfl) | refine r _ _ _ ?_ | omega | (simp [-List.reduceReplicate, sOf_set, ofI_set, allU8_set, maxLen, F11] <;> omega)
        refine WK [(1, Lz v2), (2, AV.ptr 0 0), (5, AV.slc 1 0 1 ((v13.set (v20.To).toNat (IntKind.wrap .i64 (v12 + 1))).length) true), (6, AV.slc 2 0 1 ((v14.set (v20.To).toNat true).length) true), (7, AV.slc 3 v11 1 (v15.length - v11) false), (8, Iz v10), (9, Iz v12), (10, AV.ptr 4 0)] [(0, .cells [Iz v0, AV.lst false false (List.map api_Arc.av v1)]), (1, .cells (List.map (AV.int .i64) (v13.set (v20.To).toNat (IntKind.wrap .i64 (v12 + 1))))), (2, .cells (List.map AV.bool (v14.set (v20.To).toNat true))), (3, .cells (List.map (AV.int .i64) v15)), (4, .cells [Iz v20.From, Iz v20.To, Iz v20.Cap])] 5 (by simp [-List.reduceReplicate, sOf_set, ofI_set, allU8_set, F11]) (by simp [-List.reduceReplicate, sOf_set, ofI_set, allU8_set, F11]) ?_
        refine RG [] [none, none, none, none, none, none] fun _ _ g r => ?_
        obtain ⟨⟨h52, h53⟩, hF⟩ := chk_elim hF
        have h52_ := h52
        try simp [-List.reduceReplicate] at h52_
        have F12 := And.intro F11 (And.intro h52 (And.intro h52_ h53))
        try simp [-List.reduceReplicate, sOf_set, ofI_set, allU8_set, F12]
        and_intros <;> first | exact g _ (by kernel_rfl) | refine r _ _ _ ?_ | omega | (simp [-List.reduceReplicate, sOf_set, ofI_set, allU8_set, maxLen, F12] <;> omega)
        refine hK1854 _ _ _ ?_
        refine RN h0 [(0, 0), (1, 1), (2, 2), (3, 5), (4, 4)] [(1, Lz v2), (2, AV.ptr 0 0), (5, AV.slc 1 0 1 ((v13.set (v20.To).toNat (IntKind.wrap .i64 (v12 + 1))).length) true), (6, AV.slc 2 0 1 ((v14.set (v20.To).toNat true).length) true), (7, AV.slc 3 0 1 (((v15.drop v11) ++ ([v20.To] : List Int)).length) false), (8, Iz v10), (9, Iz v12), (10, AV.ptr 4 0)] [(0, .cells [Iz v0, AV.lst false false (List.map api_Arc.av v1)]), (1, .cells (List.map (AV.int .i64) (v13.set (v20.To).toNat (IntKind.wrap .i64 (v12 + 1))))), (2, .cells (List.map AV.bool (v14.set (v20.To).toNat true))), (3, .cells (List.map (AV.int .i64) ((v15.drop v11) ++ ([v20.To] : List Int)))), (4, .cells [Iz v20.From, Iz v20.To, Iz v20.Cap])] 5 (by simp [-List.reduceReplicate, sOf_set, ofI_set, allU8_set, F12] <;> omega) (by simp [-List.reduceReplicate, sOf_set, ofI_set, allU8_set, F12]) ?_
        exact JN ((v13.set (v20.To).toNat (IntKind.wrap .i64 (v12 + 1)), v14.set (v20.To).toNat true, (v15.drop v11) ++ ([v20.To] : List Int), 0)) hF (by simp [-List.reduceReplicate, sOf_set, ofI_set, allU8_set, F12]) (by simp [-List.reduceReplicate, sOf_set, ofI_set, allU8_set, F12])
       ·replace hF := ite_f h47 hF
        have h47_ := h47
        try simp [-List.reduceReplicate] at h47_
        have F13 := And.intro F9 (And.intro h47 h47_)
        refine CF (by simp [-List.reduceReplicate, sOf_set, ofI_set, allU8_set, F13] <;> omega) ?_
        refine AW.skip ?_
        refine hK1854 _ _ _ ?_
        exact JN ((v13, v14, v15, v11)) hF (by simp [-List.reduceReplicate, sOf_set, ofI_set, allU8_set, F13]) (by simp [-List.reduceReplicate, sOf_set, ofI_set, allU8_set, F13])
      ·replace hF := ite_f h41 hF
       have h41_ := h41
       try simp [-List.reduceReplicate] at h41_
       have F14 := And.intro F8 (And.intro h37_ (And.intro h37__ (And.intro h38 (And.intro h39 (And.intro h40 (And.intro h40_ (And.intro h39_ (And.intro h41 h41_))))))))
       try simp [-List.reduceReplicate, sOf_set, ofI_set, allU8_set, F14]
       and_intros <;> first | exact g _ (by kernel_rfl) | refine r _ _ _ ?_ | omega | (simp [-List.reduceReplicate, sOf_set, ofI_set, allU8_set, maxLen, F14] <;> omega)
       refine WK [(1, Lz v2), (2, AV.ptr 0 0), (5, AV.slc 1 0 1 v13.length true), (6, AV.slc 2 0 1 v14.length true), (7, AV.slc 3 v11 1 (v15.length - v11) false), (8, Iz v10), (9, Iz v12), (10, AV.ptr 4 0), (60, AV.bool false)] [(0, .cells [Iz v0, AV.lst false false (List.map api_Arc.av v1)]), (1, .cells (List.map (AV.int .i64) v13)), (2, .cells (List.map AV.bool v14)), (3, .cells (List.map (AV.int .i64) v15)), (4, .cells [Iz v20.From, Iz v20.To, Iz v20.Cap])] 5 (by simp [-List.reduceReplicate, sOf_set, ofI_set, allU8_set, F14]) (by simp [-List.reduceReplicate, sOf_set, ofI_set, allU8_set, F14]) ?_
       refine CF (by simp [-List.reduceReplicate, sOf_set, ofI_set, allU8_set, F14]) ?_
       refine AW.skip ?_
       refine hK1854 _ _ _ ?_
       exact JN ((v13, v14, v15, v11)) hF (by simp [-List.reduceReplicate, sOf_set, ofI_set, allU8_set, F14]) (by simp [-List.reduceReplicate, sOf_set, ofI_set, allU8_set, F14])
     ·replace hF := ite_f h37 hF
      have h37_ := eqb_f h37
      have h37__ := neb_t h37
      have F15 := And.intro F8 (And.intro h37 (And.intro h37_ h37__))
      try simp [-List.reduceReplicate, sOf_set, ofI_set, allU8_set, F15]
      and_intros <;> first | exact g _ (by kernel_rfl) | refine r _ _ _ ?_ | omega | (simp [-List.reduceReplicate, sOf_set, ofI_set, allU8_set, maxLen, F15] <;> omega)
      refine WK [(1, Lz v2), (2, AV.ptr 0 0), (5, AV.slc 1 0 1 v13.length true), (6, AV.slc 2 0 1 v14.length true), (7, AV.slc 3 v11 1 (v15.length - v11) false), (8, Iz v10), (9, Iz v12), (10, AV.ptr 4 0), (60, AV.bool false)] [(0, .cells [Iz v0, AV.lst false false (List.map api_Arc.av v1)]), (1, .cells (List.map (AV.int .i64) v13)), (2, .cells (List.map AV.bool v14)), (3, .cells (List.map (AV.int .i64) v15)), (4, .cells [Iz v20.From, Iz v20.To, Iz v20.Cap])] 5 (by simp [-List.reduceReplicate, sOf_set, ofI_set, allU8_set, F15]) (by simp [-List.reduceReplicate, sOf_set, ofI_set, allU8_set, F15]) ?_
      refine CF (by simp [-List.reduceReplicate, sOf_set, ofI_set, allU8_set, F15]) ?_
      refine AW.skip ?_
      refine hK1854 _ _ _ ?_
      exact JN ((v13, v14, v15, v11)) hF (by simp [-List.reduceReplicate, sOf_set, ofI_set, allU8_set, F15]) (by simp [-List.reduceReplicate, sOf_set, ofI_set, allU8_set, F15])
    ·rintro ⟨v21, v22, v23, v24⟩ hF
     try dsimp only at hF
     unfold ref15_Residual.J4 at hF
     refine SQ [] [none, none, none, none, none, some (80, true), some (80, true), some (80, true), some (80, true), some (80, true), none, none, some (87, true), some (87, true), some (87, true), some (87, true), some (87, true), some (87, true), none] fun _ _ g r => ?_
     by_cases h20 : v20.To = v10
     ·replace hF := ite_t h20 hF
      have h20q : v20.To = v10 := h20
      have h20_ := eqb_t h20q
      have h20__ := neb_f h20q
      obtain ⟨v25, h21, h22, h23, hF⟩ := idx_elim hF
      have h23_ := get_of h23
      try simp [-List.reduceReplicate] at h23_
      have h22_ := h22
      try simp [-List.reduceReplicate] at h22_
      by_cases h24 : 0 < v25
      ·replace hF := ite_t h24 hF
       have h24_ := h24
       try simp [-List.reduceReplicate] at h24_
       obtain ⟨⟨h25, h26⟩, hF⟩ := chk_elim hF
       have h26_ := ne_of_lt h26
       obtain ⟨v26, h27, h28, h29, hF⟩ := idx_elim hF
       have h29_ := get_of h29
       try simp [-List.reduceReplicate] at h29_
       have h28_ := h28
       try simp [-List.reduceReplicate] at h28_
       have F16 := And.intro F8 (And.intro h20_ (And.intro h20__ (And.intro h21 (And.intro h22 (And.intro h23 (And.intro h23_ (And.intro h22_ (And.intro h24 (And.intro h24_ (And.intro h25 (And.intro h26 (And.intro h26_ (And.intro h27 (And.intro h28 (And.intro h29 (And.intro h29_ h28_))))))))))))))))
       try simp [-List.reduceReplicate, sOf_set, ofI_set, allU8_set, F16]
       and_intros <;> first | exact g _ (by kernel_rfl) | refine r _ _ _ ?_ | omega | (simp [-List.reduceReplicate, sOf_set, ofI_set, allU8_set, maxLen, F16] <;> omega)
       refine WK [(1, Lz v2), (2, AV.ptr 0 0), (5, AV.slc 1 0 1 v21.length true), (6, AV.slc 2 0 1 v22.length true), (7, AV.slc 3 v24 1 (v23.length - v24) false), (8, Iz v10), (9, Iz v12), (10, AV.ptr 4 0), (94, AV.bool (!v26))] [(0, .cells [Iz v0, AV.lst false false (List.map api_Arc.av v1)]), (1, .cells (List.map (AV.int .i64) v21)), (2, .cells (List.map AV.bool v22)), (3, .cells (List.map (AV.int .i64) v23)), (4, .cells [Iz v20.From, Iz v20.To, Iz v20.Cap])] 5 (by simp [-List.reduceReplicate, sOf_set, ofI_set, allU8_set, F16]) (by simp [-List.reduceReplicate, sOf_set, ofI_set, allU8_set, F16]) ?_
       by_cases h30 : (!v26) = true
       ·replace hF := ite_t h30 hF
        have h30_ := h30
        try simp [-List.reduceReplicate] at h30_
        have F17 := And.intro F16 (And.intro h30 h30_)
        refine CT (by simp [-List.reduceReplicate, sOf_set, ofI_set, allU8_set, F17] <;> omega) ?_
        refine SQ [] [none, none, none, none, none, none, none, none, none, none, none, none, none] fun _ _ g r => ?_
        obtain ⟨⟨h31, h32⟩, hF⟩ := chk_elim hF
        have h32_ := ne_of_lt h32
        obtain ⟨⟨h33, h34⟩, hF⟩ := chk_elim hF
        have h34_ := ne_of_lt h34
        have F18 := And.intro F17 (And.intro h31 (And.intro h32 (And.intro h32_ (And.intro h33 (And.intro h34 h34_)))))
        try simp [-List.reduceReplicate, sOf_set, ofI_set, allU8_set, F18]
        and_intros <;> first | exact g _ (by kernel_rfl) | refine r _ _ _ ?_ | omega | (simp [-List.reduceReplicate, sOf_set, ofI_set, allU8_set, maxLen, F18] <;> omega)
        refine WK [(1, Lz v2), (2, AV.ptr 0 0), (5, AV.slc 1 0 1 ((v21.set (v20.From).toNat (IntKind.wrap .i64 (-(IntKind.wrap .i64 (v12 + 1))))).length) true), (6, AV.slc 2 0 1 ((v22.set (v20.From).toNat true).length) true), (7, AV.slc 3 v24 1 (v23.length - v24) false), (8, Iz v10), (9, Iz v12), (10, AV.ptr 4 0)] [(0, .cells [Iz v0, AV.lst false false (List.map api_Arc.av v1)]), (1, .cells (List.map (AV.int .i64) (v21.set (v20.From).toNat (IntKind.wrap .i64 (-(IntKind.wrap .i64 (v12 + 1))))))), (2, .cells (List.map AV.bool (v22.set (v20.From).toNat true))), (3, .cells (List.map (AV.int .i64) v23)), (4, .cells [Iz v20.From, Iz v20.To, Iz v20.Cap])] 5 (by simp [-List.reduceReplicate, sOf_set, ofI_set, allU8_set, F18]) (by simp [-List.reduceReplicate, sOf_set, ofI_set, allU8_set, F18]) ?_
        refine RG [] [none, none, none, none, none, none] fun _ _ g r => ?_
        obtain ⟨⟨h35, h36⟩, hF⟩ := chk_elim hF
        have h35_ := h35
        try simp [-List.reduceReplicate] at h35_
        have F19 := And.intro F18 (And.intro h35 (And.intro h35_ h36))
        try simp [-List.reduceReplicate, sOf_set, ofI_set, allU8_set, F19]
        and_intros <;> first | exact g _ (by kernel_rfl) | refine r _ _ _ ?_ | omega | (simp [-List.reduceReplicate, sOf_set, ofI_set, allU8_set, maxLen, F19] <;> omega)
        refine hK1846 _ _ _ ?_
        refine RN h0 [(0, 0), (1, 1), (2, 2), (3, 5)] [(1, Lz v2), (2, AV.ptr 0 0), (5, AV.slc 1 0 1 ((v21.set (v20.From).toNat (IntKind.wrap .i64 (-(IntKind.wrap .i64 (v12 + 1))))).length) true), (6, AV.slc 2 0 1 ((v22.set (v20.From).toNat true).length) true), (7, AV.slc 3 0 1 (((v23.drop v24) ++ ([v20.From] : List Int)).length) false), (8, Iz v10), (9, Iz v12)] [(0, .cells [Iz v0, AV.lst false false (List.map api_Arc.av v1)]), (1, .cells (List.map (AV.int .i64) (v21.set (v20.From).toNat (IntKind.wrap .i64 (-(IntKind.wrap .i64 (v12 + 1))))))), (2, .cells (List.map AV.bool (v22.set (v20.From).toNat true))), (3, .cells (List.map (AV.int .i64) ((v23.drop v24) ++ ([v20.From] : List Int))))] 4 (by simp [-List.reduceReplicate, sOf_set, ofI_set, allU8_set, F19] <;> omega) (by simp [-List.reduceReplicate, sOf_set, ofI_set, allU8_set, F19]) ?_
        exact JN ((v21.set (v20.From).toNat (IntKind.wrap .i64 (-(IntKind.wrap .i64 (v12 + 1)))), v22.set (v20.From).toNat true, (v23.drop v24) ++ ([v20.From] : List Int), 0)) hF (by simp [-List.reduceReplicate, sOf_set, ofI_set, allU8_set, F19]) (by simp [-List.reduceReplicate, sOf_set, ofI_set, allU8_set, F19])
       ·replace hF := ite_f h30 hF
        have h30_ := h30
        try simp [-List.reduceReplicate] at h30_
        have F20 := And.intro F16 (And.intro h30 h30_)
        refine CF (by simp [-List.reduceReplicate, sOf_set, ofI_set, allU8_set, F20] <;> omega) ?_
        refine AW.skip ?_
        refine hK1846 _ _ _ ?_
        refine RN h0 [(0, 0), (1, 1), (2, 2), (3, 3)] [(1, Lz v2), (2, AV.ptr 0 0), (5, AV.slc 1 0 1 v21.length true), (6, AV.slc 2 0 1 v22.length true), (7, AV.slc 3 v24 1 (v23.length - v24) false), (8, Iz v10), (9, Iz v12)] [(0, .cells [Iz v0, AV.lst false false (List.map api_Arc.av v1)]), (1, .cells (List.map (AV.int .i64) v21)), (2, .cells (List.map AV.bool v22)), (3, .cells (List.map (AV.int .i64) v23))] 4 (by simp [-List.reduceReplicate, sOf_set, ofI_set, allU8_set, F20]) (by simp [-List.reduceReplicate, sOf_set, ofI_set, allU8_set, F20]) ?_
        exact JN ((v21, v22, v23, v24)) hF (by simp [-List.reduceReplicate, sOf_set, ofI_set, allU8_set, F20]) (by simp [-List.reduceReplicate, sOf_set, ofI_set, allU8_set, F20])
      ·replace hF := ite_f h24 hF
       have h24_ := h24
       try simp [-List.reduceReplicate] at h24_
       have F21 := And.intro F8 (And.intro h20_ (And.intro h20__ (And.intro h21 (And.intro h22 (And.intro h23 (And.intro h23_ (And.intro h22_ (And.intro h24 h24_))))))))
       try simp [-List.reduceReplicate, sOf_set, ofI_set, allU8_set, F21]
       and_intros <;> first | exact g _ (by kernel_rfl) | refine r _ _ _ ?_ | omega | (simp [-List.reduceReplicate, sOf_set, ofI_set, allU8_set, maxLen, F21] <;> omega)
       refine WK [(1, Lz v2), (2, AV.ptr 0 0), (5, AV.slc 1 0 1 v21.length true), (6, AV.slc 2 0 1 v22.length true), (7, AV.slc 3 v24 1 (v23.length - v24) false), (8, Iz v10), (9, Iz v12), (10, AV.ptr 4 0), (94, AV.bool false)] [(0, .cells [Iz v0, AV.lst false false (List.map api_Arc.av v1)]), (1, .cells (List.map (AV.int .i64) v21)), (2, .cells (List.map AV.bool v22)), (3, .cells (List.map (AV.int .i64) v23)), (4, .cells [Iz v20.From, Iz v20.To, Iz v20.Cap])] 5 (by simp [-List.reduceReplicate, sOf_set, ofI_set, allU8_set, F21]) (by simp [-List.reduceReplicate, sOf_set, ofI_set, allU8_set, F21]) ?_
       refine CF (by simp [-List.reduceReplicate, sOf_set, ofI_set, allU8_set, F21]) ?_
       refine AW.skip ?_
       refine hK1846 _ _ _ ?_
       refine RN h0 [(0, 0), (1, 1), (2, 2), (3, 3)] [(1, Lz v2), (2, AV.ptr 0 0), (5, AV.slc 1 0 1 v21.length true), (6, AV.slc 2 0 1 v22.length true), (7, AV.slc 3 v24 1 (v23.length - v24) false), (8, Iz v10), (9, Iz v12)] [(0, .cells [Iz v0, AV.lst false false (List.map api_Arc.av v1)]), (1, .cells (List.map (AV.int .i64) v21)), (2, .cells (List.map AV.bool v22)), (3, .cells (List.map (AV.int .i64) v23))] 4 (by simp [-List.reduceReplicate, sOf_set, ofI_set, allU8_set, F21]) (by simp [-List.reduceReplicate, sOf_set, ofI_set, allU8_set, F21]) ?_
       exact JN ((v21, v22, v23, v24)) hF (by simp [-List.reduceReplicate, sOf_set, ofI_set, allU8_set, F21]) (by simp [-List.reduceReplicate, sOf_set, ofI_set, allU8_set, F21])
     ·replace hF := ite_f h20 hF
      have h20_ := eqb_f h20
      have h20__ := neb_t h20
      have F22 := And.intro F8 (And.intro h20 (And.intro h20_ h20__))
      try simp [-List.reduceReplicate, sOf_set, ofI_set, allU8_set, F22]
      and_intros <;> first | exact g _ (by kernel_rfl) | refine r _ _ _ ?_ | omega | (simp [-List.reduceReplicate, sOf_set, ofI_set, allU8_set, maxLen, F22] <;> omega)
      refine WK [(1, Lz v2), (2, AV.ptr 0 0), (5, AV.slc 1 0 1 v21.length true), (6, AV.slc 2 0 1 v22.length true), (7, AV.slc 3 v24 1 (v23.length - v24) false), (8, Iz v10), (9, Iz v12), (10, AV.ptr 4 0), (94, AV.bool false)] [(0, .cells [Iz v0, AV.lst false false (List.map api_Arc.av v1)]), (1, .cells (List.map (AV.int .i64) v21)), (2, .cells (List.map AV.bool v22)), (3, .cells (List.map (AV.int .i64) v23)), (4, .cells [Iz v20.From, Iz v20.To, Iz v20.Cap])] 5 (by simp [-List.reduceReplicate, sOf_set, ofI_set, allU8_set, F22]) (by simp [-List.reduceReplicate, sOf_set, ofI_set, allU8_set, F22]) ?_
      refine CF (by simp [-List.reduceReplicate, sOf_set, ofI_set, allU8_set, F22]) ?_
      refine AW.skip ?_
      refine hK1846 _ _ _ ?_
      refine RN h0 [(0, 0), (1, 1), (2, 2), (3, 3)] [(1, Lz v2), (2, AV.ptr 0 0), (5, AV.slc 1 0 1 v21.length true), (6, AV.slc 2 0 1 v22.length true), (7, AV.slc 3 v24 1 (v23.length - v24) false), (8, Iz v10), (9, Iz v12)] [(0, .cells [Iz v0, AV.lst false false (List.map api_Arc.av v1)]), (1, .cells (List.map (AV.int .i64) v21)), (2, .cells (List.map AV.bool v22)), (3, .cells (List.map (AV.int .i64) v23))] 4 (by simp [-List.reduceReplicate, sOf_set, ofI_set, allU8_set, F22]) (by simp [-List.reduceReplicate, sOf_set, ofI_set, allU8_set, F22]) ?_
      exact JN ((v21, v22, v23, v24)) hF (by simp [-List.reduceReplicate, sOf_set, ofI_set, allU8_set, F22]) (by simp [-List.reduceReplicate, sOf_set, ofI_set, allU8_set, F22])
   ·rintro ⟨v16, v17, v18, v19⟩ hF
    try dsimp only at hF
    unfold ref15_Residual.J3 at hF
    refine RG [] [none, none, none] fun _ _ g r => ?_
    try simp [-List.reduceReplicate, sOf_set, ofI_set, allU8_set, F7]
    and_intros <;> first | exact g _ (by kernel_rfl) | refine r _ _ _ ?_ | omega | (simp [-List.reduceReplicate, sOf_set, ofI_set, allU8_set, maxLen, F7] <;> omega)
    refine hK1830 _ _ _ ?_
    exact NX (k' := n2) ((v19, IntKind.wrap .i64 (v12 + 1), v16, v17, v18)) hF (by simp [-List.reduceReplicate, sOf_set, ofI_set, allU8_set, F7]) (by simp [-List.reduceReplicate, sOf_set, ofI_set, allU8_set, F7])
  ·replace hF := ite_f h16 hF
   have h16_ := h16
   try simp [-List.reduceReplicate] at h16_
   have F23 := And.intro F6 (And.intro h16 h16_)
   refine CF (by simp [-List.reduceReplicate, sOf_set, ofI_set, allU8_set, F23] <;> omega) ?_
   refine AW.exit ?_
   try simp [-List.reduceReplicate]
   refine hK1742 _ _ _ ?_
   exact NX (k' := n1) ((v11, v13, v14, v15)) hF (by simp [-List.reduceReplicate, sOf_set, ofI_set, allU8_set, F23]) (by simp [-List.reduceReplicate, sOf_set, ofI_set, allU8_set, F23])
 ·replace hF := ite_f h7 hF
  have h7_ := h7
  try simp [-List.reduceReplicate] at h7_
  have F24 := And.intro F3 (And.intro h7 h7_)
  refine CF (by simp [-List.reduceReplicate, sOf_set, ofI_set, allU8_set, F24] <;> omega) ?_
  refine AW.exit ?_
  try simp [-List.reduceReplicate]
  refine hK1396 _ _ _ ?_
  refine SQ [] [none, none] fun _ _ g r => ?_
  try simp [-List.reduceReplicate, sOf_set, ofI_set, allU8_set, F24]
  and_intros <;> first | exact g _ (by kernel_rfl) | refine r _ _ _ ?_ | omega | (simp [-List.reduceReplicate, sOf_set, ofI_set, allU8_set, maxLen, F24] <;> omega)
  refine RM h0 [(0, 1)] [(4, AV.slc 0 0 1 v7.length true)] [(0, .cells (List.map (AV.int .i64) v7))] 1 (by simp [-List.reduceReplicate, sOf_set, ofI_set, allU8_set, F24]) (by simp [-List.reduceReplicate, sOf_set, ofI_set, allU8_set, F24]) ?_
  refine AW.flg [(4, AV.slc 0 0 1 v7.length false)] [] ⟨.slc, trivial⟩ trivial (by simp) ?_
  simp only [Option.some.injEq] at hF
  subst hF
  refine AW.ret (hQ _ _ _ ?_ (matchO_0 ?_)).1
  ·simp [Try.f42, F24]
  ·simp [F24]
theorem w_ref15_Max (k : Nat) (v0 : Int) (v1 : (List api_Arc)) (v2 : (List Int)) (v3 : Int) (hF : ref15_Max k v0 v1 = some (v2, v3)) :
  FCall Try.prog 19 [AV.agg [AV.int .i64 v0, AV.lst false false (List.map api_Arc.av v1)]] [] (AV.tup [AV.lst false false (List.map (AV.int .i64) v2), AV.int .i64 v3]) [] := by
 unfold ref15_Max at hF
 refine EN Try.func19 ?_
 intro c0 w0 Q h0 hQ
 refine WK [(0, AV.agg [Iz v0, AV.lst false false (List.map api_Arc.av v1)])] [] 0 (by simp [-List.reduceReplicate, sOf_set, ofI_set, allU8_set]) (by simp [-List.reduceReplicate, sOf_set, ofI_set, allU8_set]) ?_
 refine SQ [] [none, none, none] fun _ _ g r => ?_
 try simp [-List.reduceReplicate, sOf_set, ofI_set, allU8_set]
 and_intros <;> first | exact g _ (by kernel_rfl) | refine r _ _ _ ?_ | omega | (simp [-List.reduceReplicate, sOf_set, ofI_set, allU8_set, maxLen] <;> omega)
 refine WK [(1, AV.ptr 0 0)] [(0, .cells [Iz v0, AV.lst false false (List.map api_Arc.av v1)])] 1 (by simp [-List.reduceReplicate, sOf_set, ofI_set, allU8_set]) (by simp [-List.reduceReplicate, sOf_set, ofI_set, allU8_set]) ?_
 refine AW.seq fun K436 hK436 => ?_
 refine SQ [] [none, none, none] fun _ _ g r => ?_
 try simp [-List.reduceReplicate, sOf_set, ofI_set, allU8_set]
 and_intros
 try any_goals first | omega | (simp [-List.reduceReplicate, sOf_set, ofI_set, allU8_set, maxLen] <;> omega)
 obtain ⟨v4, h1, hF⟩ := bnd1_elim hF
 refine AC (w_ref15_Check k _ _ _ h1) (.cons (.same (by simp)) .nil) ?_
 try simp [-List.reduceReplicate, sOf_set, ofI_set, allU8_set]
 and_intros <;> first | exact g _ (by kernel_rfl) | refine r _ _ _ ?_ | omega | (simp [-List.reduceReplicate, sOf_set, ofI_set, allU8_set, maxLen] <;> omega)
 refine WK [(1, AV.ptr 0 0), (13, AV.bool (v4 != 0))] [(0, .cells [Iz v0, AV.lst false false (List.map api_Arc.av v1)])] 1 (by simp [-List.reduceReplicate, sOf_set, ofI_set, allU8_set]) (by simp [-List.reduceReplicate, sOf_set, ofI_set, allU8_set]) ?_
 by_cases h2 : v4 ≠ 0
 ·replace hF := ite_t h2 hF
  have h2_ := eqb_f h2
  have h2__ := neb_t h2
  have F1 := And.intro h2 (And.intro h2_ h2__)
  refine CT (by simp [-List.reduceReplicate, sOf_set, ofI_set, allU8_set, F1] <;> omega) ?_
  refine SQ [] [none, none] fun _ _ g r => ?_
  try simp [-List.reduceReplicate, sOf_set, ofI_set, allU8_set, F1]
  and_intros <;> first | exact g _ (by kernel_rfl) | refine r _ _ _ ?_ | omega | (simp [-List.reduceReplicate, sOf_set, ofI_set, allU8_set, maxLen, F1] <;> omega)
  refine WK [(2, AV.lst true true (List.map (AV.int .i64) ([] : List Int))), (3, Iz 16)] [] 1 (by simp [-List.reduceReplicate, sOf_set, ofI_set, allU8_set, F1]) (by simp [-List.reduceReplicate, sOf_set, ofI_set, allU8_set, F1]) ?_
  refine AW.flg [(2, Lz ([] : List Int))] [] ⟨(.lst (by simp)), trivial⟩ trivial (by simp) ?_
  simp only [Option.some.injEq, Prod.mk.injEq] at hF
  obtain ⟨e0, e1⟩ := hF
  subst e0 e1
  refine AW.ret (hQ _ _ _ ?_ (matchO_0 ?_)).1
  ·simp [Try.f19, F1]
  ·simp [F1]
 ·replace hF := ite_f h2 hF
  have h2q : v4 = 0 := Classical.not_not.1 h2
  have h2_ := eqb_t h2q
  have h2__ := neb_f h2q
  refine CF (by simp [-List.reduceReplicate, sOf_set, ofI_set, allU8_set, h2_, h2__, h2q] <;> omega) ?_
  refine AW.skip ?_
  refine hK436 _ _ _ ?_
  refine SQ [17] [none, none, none, none, none] fun _ _ g r => ?_
  obtain ⟨h3, hF⟩ := chk_elim hF
  have F2 := And.intro h2_ (And.intro h2__ (And.intro h2q h3))
  try simp [-List.reduceReplicate, sOf_set, ofI_set, allU8_set, F2]
  and_intros <;> first | exact g _ (by kernel_rfl) | refine r _ _ _ ?_ | omega | (simp [-List.reduceReplicate, sOf_set, ofI_set, allU8_set, maxLen, F2] <;> omega)
  refine WK [(1, AV.ptr 0 0), (4, AV.slc 1 0 1 ((List.replicate ((v1.length : Int)).toNat (0 : Int)).length) true)] [(0, .cells [Iz v0, AV.lst false false (List.map api_Arc.av v1)]), (1, .cells (List.map (AV.int .i64) (List.replicate ((v1.length : Int)).toNat (0 : Int))))] 2 (by simp [-List.reduceReplicate, sOf_set, ofI_set, allU8_set, F2]) (by simp [-List.reduceReplicate, sOf_set, ofI_set, allU8_set, F2]) ?_
  refine AW.block ?_
  refine AW.loopF (α := (List Int)) (fun n v5 => ref15_Max.L1 k v0 v1 n v5 = some (v2, v3)) (fun v5 => [(1, AV.ptr 0 0), (4, AV.slc 1 0 1 v5.length true)]) (fun v5 => [(0, .cells [Iz v0, AV.lst false false (List.map api_Arc.av v1)]), (1, .cells (List.map (AV.int .i64) v5))]) 2 k ((List.replicate ((v1.length : Int)).toNat (0 : Int))) hF (by simp [-List.reduceReplicate, sOf_set, ofI_set, allU8_set, F2]) (by simp [-List.reduceReplicate, sOf_set, ofI_set, allU8_set, F2]) (by simp) ?_
  rintro (_|n1) v5 hF K758 hK758
  ·try dsimp only at hF
   rw [ref15_Max.L1] at hF; cases hF
  try dsimp only at hF
  rw [ref15_Max.L1] at hF
  refine AW.block ?_
  refine SQ [] [none, none, none, none] fun _ _ g r => ?_
  try simp [-List.reduceReplicate, sOf_set, ofI_set, allU8_set, F2]
  and_intros
  try any_goals first | omega | (simp [-List.reduceReplicate, sOf_set, ofI_set, allU8_set, maxLen, F2] <;> omega)
  obtain ⟨v6, h4, hF⟩ := bnd1_elim hF
  refine aCall_l (w_ref15_Residual k _ _ _ _ h4) (by simp) [] [1] [] rfl (.cons (.same (by simp [-List.reduceReplicate, sOf_set, ofI_set, allU8_set, F2])) (.cons (Coe.l (o := .cells (List.map (AV.int .i64) v5)) (by simp [-List.reduceReplicate, sOf_set, ofI_set, allU8_set, F2]) rfl (by simp [-List.reduceReplicate, sOf_set, ofI_set, allU8_set, F2]) (by simp [noIdsL]) (by simp [-List.reduceReplicate, sOf_set, ofI_set, allU8_set, F2]) (by simp [-List.reduceReplicate, sOf_set, ofI_set, allU8_set, F2])) .nil)) (by simp [-List.reduceReplicate, sOf_set, ofI_set, allU8_set, F2]) (by decide) (by simp) (by simp) (.inr ⟨by simp, by simp⟩) (by simp) (by simp) ?_
  try simp [-List.reduceReplicate, sOf_set, ofI_set, allU8_set, F2]
  and_intros <;> first | exact g _ (by kernel_rfl) | refine r _ _ _ ?_ | omega | (simp [-List.reduceReplicate, sOf_set, ofI_set, allU8_set, maxLen, F2] <;> omega)
  refine WK [(1, AV.ptr 0 0), (4, AV.slc 1 0 1 v5.length true), (5, AV.slc 2 0 1 v6.length false)] [(0, .cells [Iz v0, AV.lst false false (List.map api_Arc.av v1)]), (1, .cells (List.map (AV.int .i64) v5)), (2, .cells (List.map (AV.int .i64) v6))] 3 (by simp [-List.reduceReplicate, sOf_set, ofI_set, allU8_set, F2]) (by simp [-List.reduceReplicate, sOf_set, ofI_set, allU8_set, F2]) ?_
  refine AW.frz 2 (o := .cells (List.map (AV.int .i64) v6)) (by simp [-List.reduceReplicate, sOf_set, ofI_set, allU8_set, F2]) rfl [(5, Lz v6)] [] ⟨(.l (by simp) (by simp) (by simp) (by simp)), trivial⟩ trivial ?_
  refine WK [(1, AV.ptr 0 0), (4, AV.slc 1 0 1 v5.length true), (5, Lz v6)] [(0, .cells [Iz v0, AV.lst false false (List.map api_Arc.av v1)]), (1, .cells (List.map (AV.int .i64) v5))] 3 (by simp [-List.reduceReplicate, sOf_set, ofI_set, allU8_set, F2]) (by simp [-List.reduceReplicate, sOf_set, ofI_set, allU8_set, F2]) ?_
  refine AW.seq fun K762 hK762 => ?_
  refine SQ [] [none, none, none, none] fun _ _ g r => ?_
  obtain ⟨v7, h5, h6, h7, hF⟩ := idx_elim hF
  have h7_ := get_of h7
  try simp [-List.reduceReplicate] at h7_
  have h6_ := h6
  try simp [-List.reduceReplicate] at h6_
  have F3 := And.intro F2 (And.intro h5 (And.intro h6 (And.intro h7 (And.intro h7_ h6_))))
  try simp [-List.reduceReplicate, sOf_set, ofI_set, allU8_set, F3]
  and_intros <;> first | exact g _ (by kernel_rfl) | refine r _ _ _ ?_ | omega | (simp [-List.reduceReplicate, sOf_set, ofI_set, allU8_set, maxLen, F3] <;> omega)
  refine WK [(1, AV.ptr 0 0), (4, AV.slc 1 0 1 v5.length true), (5, Lz v6), (24, AV.bool (v7 == 0))] [(0, .cells [Iz v0, AV.lst false false (List.map api_Arc.av v1)]), (1, .cells (List.map (AV.int .i64) v5))] 3 (by simp [-List.reduceReplicate, sOf_set, ofI_set, allU8_set, F3]) (by simp [-List.reduceReplicate, sOf_set, ofI_set, allU8_set, F3]) ?_
  by_cases h8 : v7 = 0
  ·replace hF := ite_t h8 hF
   have h8q : v7 = 0 := h8
   have h8_ := eqb_t h8q
   have h8__ := neb_f h8q
   have F4 := And.intro F3 (And.intro h8_ (And.intro h8__ h8q))
   refine CT (by simp [-List.reduceReplicate, sOf_set, ofI_set, allU8_set, F4] <;> omega) ?_
   refine SQ [] [none, none, none] fun _ _ g r => ?_
   try simp [-List.reduceReplicate, sOf_set, ofI_set, allU8_set, F4]
   and_intros <;> first | exact g _ (by kernel_rfl) | refine r _ _ _ ?_ | omega | (simp [-List.reduceReplicate, sOf_set, ofI_set, allU8_set, maxLen, F4] <;> omega)
   refine WK [(2, AV.slc 1 0 1 v5.length true), (3, Iz 0)] [(1, .cells (List.map (AV.int .i64) v5))] 3 (by simp [-List.reduceReplicate, sOf_set, ofI_set, allU8_set, F4]) (by simp [-List.reduceReplicate, sOf_set, ofI_set, allU8_set, F4]) ?_
   refine WK [(2, AV.slc 1 0 1 v5.length true), (3, Iz 0)] [(1, .cells (List.map (AV.int .i64) v5))] 3 (by simp [-List.reduceReplicate, sOf_set, ofI_set, allU8_set, F4]) (by simp [-List.reduceReplicate, sOf_set, ofI_set, allU8_set, F4]) ?_
   refine AW.frz 1 (o := .cells (List.map (AV.int .i64) v5)) (by simp [-List.reduceReplicate, sOf_set, ofI_set, allU8_set, F4]) rfl [(2, AV.lst false true (List.map (AV.int .i64) v5))] [] ⟨(.l (by simp) (by simp) (by simp) (by simp)), trivial⟩ trivial ?_
   refine AW.flg [(2, Lz v5)] [] ⟨(.lst (by simp)), trivial⟩ trivial (by simp) ?_
   simp only [Option.some.injEq, Prod.mk.injEq] at hF
   obtain ⟨e0, e1⟩ := hF
   subst e0 e1
   refine AW.ret (hQ _ _ _ ?_ (matchO_0 ?_)).1
   ·simp [Try.f19, F4]
   ·simp [F4]
  ·replace hF := ite_f h8 hF
   have h8_ := eqb_f h8
   have h8__ := neb_t h8
   have F5 := And.intro F3 (And.intro h8 (And.intro h8_ h8__))
   refine CF (by simp [-List.reduceReplicate, sOf_set, ofI_set, allU8_set, F5] <;> omega) ?_
   refine AW.skip ?_
   refine hK762 _ _ _ ?_
   refine SQ [] [none] fun _ _ g r => ?_
   try simp [-List.reduceReplicate, sOf_set, ofI_set, allU8_set, F5]
   and_intros <;> first | exact g _ (by kernel_rfl) | refine r _ _ _ ?_ | omega | (simp [-List.reduceReplicate, sOf_set, ofI_set, allU8_set, maxLen, F5] <;> omega)
   refine WK [(1, AV.ptr 0 0), (4, AV.slc 1 0 1 v5.length true), (5, Lz v6), (6, Iz 1048576)] [(0, .cells [Iz v0, AV.lst false false (List.map api_Arc.av v1)]), (1, .cells (List.map (AV.int .i64) v5))] 3 (by simp [-List.reduceReplicate, sOf_set, ofI_set, allU8_set, F5]) (by simp [-List.reduceReplicate, sOf_set, ofI_set, allU8_set, F5]) ?_
   refine AW.seq fun K796 hK796 => ?_
   refine SQ [] [none] fun _ _ g r => ?_
   try simp [-List.reduceReplicate, sOf_set, ofI_set, allU8_set, F5]
   and_intros <;> first | exact g _ (by kernel_rfl) | refine r _ _ _ ?_ | omega | (simp [-List.reduceReplicate, sOf_set, ofI_set, allU8_set, maxLen, F5] <;> omega)
   refine WK [(1, AV.ptr 0 0), (4, AV.slc 1 0 1 v5.length true), (5, Lz v6), (6, Iz 1048576), (7, Iz 1)] [(0, .cells [Iz v0, AV.lst false false (List.map api_Arc.av v1)]), (1, .cells (List.map (AV.int .i64) v5))] 3 (by simp [-List.reduceReplicate, sOf_set, ofI_set, allU8_set, F5]) (by simp [-List.reduceReplicate, sOf_set, ofI_set, allU8_set, F5]) ?_
   refine AW.block ?_
   refine RM h0 [(0, 0), (1, 1)] [(1, AV.ptr 0 0), (4, AV.slc 1 0 1 v5.length true), (5, Lz v6), (6, Iz 1048576), (7, Iz 1)] [(0, .cells [Iz v0, AV.lst false false (List.map api_Arc.av v1)]), (1, .cells (List.map (AV.int .i64) v5))] 2 (by simp [-List.reduceReplicate, sOf_set, ofI_set, allU8_set, F5]) (by simp [-List.reduceReplicate, sOf_set, ofI_set, allU8_set, F5]) ?_
   refine AW.loopF (α := (Int × Int)) (fun n (v8, v9) => ref15_Max.L2 k v1 v5 v6 (fun v5_ => ref15_Max.L1 k v0 v1 n1 v5_) n v8 v9 = some (v2, v3)) (fun (v8, v9) => [(1, AV.ptr 0 0), (4, AV.slc 1 0 1 v5.length true), (5, Lz v6), (6, Iz v8), (7, Iz v9)]) (fun (v8, v9) => [(0, .cells [Iz v0, AV.lst false false (List.map api_Arc.av v1)]), (1, .cells (List.map (AV.int .i64) v5))]) 2 k ((1048576, 1)) hF (by simp [-List.reduceReplicate, sOf_set, ofI_set, allU8_set, F5]) (by simp [-List.reduceReplicate, sOf_set, ofI_set, allU8_set, F5]) (by simp) ?_
   rintro (_|n2) ⟨v8, v9⟩ hF K819 hK819
   ·try dsimp only at hF
    rw [ref15_Max.L2] at hF; cases hF
   try dsimp only at hF
   rw [ref15_Max.L2] at hF
   refine AW.seq fun K821 hK821 => ?_
   refine SQ [] [none, none] fun _ _ g r => ?_
   try simp [-List.reduceReplicate, sOf_set, ofI_set, allU8_set, F5]
   and_intros <;> first | exact g _ (by kernel_rfl) | refine r _ _ _ ?_ | omega | (simp [-List.reduceReplicate, sOf_set, ofI_set, allU8_set, maxLen, F5] <;> omega)
   refine WK [(1, AV.ptr 0 0), (4, AV.slc 1 0 1 v5.length true), (5, Lz v6), (6, Iz v8), (7, Iz v9), (27, AV.bool (v9 != 0))] [(0, .cells [Iz v0, AV.lst false false (List.map api_Arc.av v1)]), (1, .cells (List.map (AV.int .i64) v5))] 2 (by simp [-List.reduceReplicate, sOf_set, ofI_set, allU8_set, F5]) (by simp [-List.reduceReplicate, sOf_set, ofI_set, allU8_set, F5]) ?_
   by_cases h9 : v9 ≠ 0
   ·replace hF := ite_t h9 hF
    have h9_ := eqb_f h9
    have h9__ := neb_t h9
    refine CT (by simp [-List.reduceReplicate, sOf_set, ofI_set, allU8_set, F5, h9, h9_, h9__] <;> omega) ?_
    refine AW.skip ?_
    refine hK821 _ _ _ ?_
    refine AW.block ?_
    refine SQ [] [none, none, none, none, none] fun _ _ g r => ?_
    obtain ⟨v10, h10, h11, h12, hF⟩ := idx_elim hF
    have h12_ := get_of h12
    try simp [-List.reduceReplicate] at h12_
    have h11_ := h11
    try simp [-List.reduceReplicate] at h11_
    have F6 := And.intro F5 (And.intro h9 (And.intro h9_ (And.intro h9__ (And.intro h10 (And.intro h11 (And.intro h12 (And.intro h12_ h11_)))))))
    try simp [-List.reduceReplicate, sOf_set, ofI_set, allU8_set, F6]
    and_intros <;> first | exact g _ (by kernel_rfl) | refine r _ _ _ ?_ | omega | (simp [-List.reduceReplicate, sOf_set, ofI_set, allU8_set, maxLen, F6] <;> omega)
    refine WK [(1, AV.ptr 0 0), (4, AV.slc 1 0 1 v5.length true), (5, Lz v6), (6, Iz v8), (8, Iz v10)] [(0, .cells [Iz v0, AV.lst false false (List.map api_Arc.av v1)]), (1, .cells (List.map (AV.int .i64) v5))] 2 (by simp [-List.reduceReplicate, sOf_set, ofI_set, allU8_set, F6]) (by simp [-List.reduceReplicate, sOf_set, ofI_set, allU8_set, F6]) ?_
    refine SQ [] [none, none] fun _ _ g r => ?_
    try simp [-List.reduceReplicate, sOf_set, ofI_set, allU8_set, F6]
    and_intros <;> first | exact g _ (by kernel_rfl) | refine r _ _ _ ?_ | omega | (simp [-List.reduceReplicate, sOf_set, ofI_set, allU8_set, maxLen, F6] <;> omega)
    refine WK [(1, AV.ptr 0 0), (4, AV.slc 1 0 1 v5.length true), (5, Lz v6), (6, Iz v8), (8, Iz v10), (33, AV.bool (decide (0 < v10)))] [(0, .cells [Iz v0, AV.lst false false (List.map api_Arc.av v1)]), (1, .cells (List.map (AV.int .i64) v5))] 2 (by simp [-List.reduceReplicate, sOf_set, ofI_set, allU8_set, F6]) (by simp [-List.reduceReplicate, sOf_set, ofI_set, allU8_set, F6]) ?_
    by_cases h13 : 0 < v10
    ·replace hF := ite_t h13 hF
     have h13_ := h13
     try simp [-List.reduceReplicate] at h13_
     have F7 := And.intro F6 (And.intro h13 h13_)
     refine CT (by simp [-List.reduceReplicate, sOf_set, ofI_set, allU8_set, F7] <;> omega) ?_
     refine RG [] [none, none, none, none, none, none, none, none, none, none, none, none, none, none, none, none, none, none, none, none, none, none, none, none] fun _ _ g r => ?_
     obtain ⟨v11, h14, h15, h16, hF⟩ := idx_elim hF
     have h16_ := get_of h16
     try simp [-List.reduceReplicate] at h16_
     have h15_ := h15
     try simp [-List.reduceReplicate] at h15_
     obtain ⟨⟨h17, h18⟩, hF⟩ := chk_elim hF
     have h18_ := ne_of_lt h18
     obtain ⟨v12, h19, h20, h21, hF⟩ := idx_elim hF
     have h21_ := get_of h21
     try simp [-List.reduceReplicate] at h21_
     have h20_ := h20
     try simp [-List.reduceReplicate] at h20_
     obtain ⟨v13, h22, hF⟩ := let1_elim hF
     have h22_ := h22
     try simp [-List.reduceReplicate] at h22_
     have F8 := And.intro F7 (And.intro h14 (And.intro h15 (And.intro h16 (And.intro h16_ (And.intro h15_ (And.intro h17 (And.intro h18 (And.intro h18_ (And.intro h19 (And.intro h20 (And.intro h21 (And.intro h21_ (And.intro h20_ (And.intro h22 h22_))))))))))))))
     try simp [-List.reduceReplicate, sOf_set, ofI_set, allU8_set, F8]
     and_intros <;> first | exact g _ (by kernel_rfl) | refine r _ _ _ ?_ | omega | (simp [-List.reduceReplicate, sOf_set, ofI_set, allU8_set, maxLen, F8] <;> omega)
     refine hK819 _ _ _ ?_
     exact NX (k' := n2) ((v13, v11.From)) hF (by simp [-List.reduceReplicate, sOf_set, ofI_set, allU8_set, F8]) (by simp [-List.reduceReplicate, sOf_set, ofI_set, allU8_set, F8])
    ·replace hF := ite_f h13 hF
     have h13_ := h13
     try simp [-List.reduceReplicate] at h13_
     have F9 := And.intro F6 (And.intro h13 h13_)
     refine CF (by simp [-List.reduceReplicate, sOf_set, ofI_set, allU8_set, F9] <;> omega) ?_
     refine RG [] [none, none, none, none, none, none, none, none, none, none, none, none, none, none, none, none, none, none] fun _ _ g r => ?_
     obtain ⟨⟨h23, h24⟩, hF⟩ := chk_elim hF
     have h24_ := ne_of_lt h24
     obtain ⟨v14, h25, h26, h27, hF⟩ := idx_elim hF
     have h27_ := get_of h27
     try simp [-List.reduceReplicate] at h27_
     have h26_ := h26
     try simp [-List.reduceReplicate] at h26_
     obtain ⟨v15, h28, hF⟩ := let1_elim hF
     have h28_ := h28
     try simp [-List.reduceReplicate] at h28_
     obtain ⟨v16, h29, h30, h31, hF⟩ := idx_elim hF
     have h31_ := get_of h31
     try simp [-List.reduceReplicate] at h31_
     have h30_ := h30
     try simp [-List.reduceReplicate] at h30_
     have F10 := And.intro F9 (And.intro h23 (And.intro h24 (And.intro h24_ (And.intro h25 (And.intro h26 (And.intro h27 (And.intro h27_ (And.intro h26_ (And.intro h28 (And.intro h28_ (And.intro h29 (And.intro h30 (And.intro h31 (And.intro h31_ h30_))))))))))))))
     try simp [-List.reduceReplicate, sOf_set, ofI_set, allU8_set, F10]
     and_intros <;> first | exact g _ (by kernel_rfl) | refine r _ _ _ ?_ | omega | (simp [-List.reduceReplicate, sOf_set, ofI_set, allU8_set, maxLen, F10] <;> omega)
     refine hK819 _ _ _ ?_
     exact NX (k' := n2) ((v15, v16.To)) hF (by simp [-List.reduceReplicate, sOf_set, ofI_set, allU8_set, F10]) (by simp [-List.reduceReplicate, sOf_set, ofI_set, allU8_set, F10])
   ·replace hF := ite_f h9 hF
    have h9q : v9 = 0 := Classical.not_not.1 h9
    have h9_ := eqb_t h9q
    have h9__ := neb_f h9q
    have F11 := And.intro F5 (And.intro h9_ (And.intro h9__ h9q))
    refine CF (by simp [-List.reduceReplicate, sOf_set, ofI_set, allU8_set, F11] <;> omega) ?_
    refine AW.exit ?_
    try simp [-List.reduceReplicate]
    refine hK796 _ _ _ ?_
    refine SQ [] [none] fun _ _ g r => ?_
    try simp [-List.reduceReplicate, sOf_set, ofI_set, allU8_set, F11]
    and_intros <;> first | exact g _ (by kernel_rfl) | refine r _ _ _ ?_ | omega | (simp [-List.reduceReplicate, sOf_set, ofI_set, allU8_set, maxLen, F11] <;> omega)
    refine WK [(1, AV.ptr 0 0), (4, AV.slc 1 0 1 v5.length true), (5, Lz v6), (6, Iz v8), (9, Iz 1)] [(0, .cells [Iz v0, AV.lst false false (List.map api_Arc.av v1)]), (1, .cells (List.map (AV.int .i64) v5))] 2 (by simp [-List.reduceReplicate, sOf_set, ofI_set, allU8_set, F11]) (by simp [-List.reduceReplicate, sOf_set, ofI_set, allU8_set, F11]) ?_
    refine AW.block ?_
    refine AW.loopF (α := (Int × (List Int))) (fun n (v17, v18) => ref15_Max.L3 k v1 v6 v8 (fun v5_ => ref15_Max.L1 k v0 v1 n1 v5_) n v17 v18 = some (v2, v3)) (fun (v17, v18) => [(1, AV.ptr 0 0), (4, AV.slc 1 0 1 v18.length true), (5, Lz v6), (6, Iz v8), (9, Iz v17)]) (fun (v17, v18) => [(0, .cells [Iz v0, AV.lst false false (List.map api_Arc.av v1)]), (1, .cells (List.map (AV.int .i64) v18))]) 2 k ((1, v5)) hF (by simp [-List.reduceReplicate, sOf_set, ofI_set, allU8_set, F11]) (by simp [-List.reduceReplicate, sOf_set, ofI_set, allU8_set, F11]) (by simp) ?_
    rintro (_|n3) ⟨v17, v18⟩ hF K855 hK855
    ·try dsimp only at hF
     rw [ref15_Max.L3] at hF; cases hF
    try dsimp only at hF
    rw [ref15_Max.L3] at hF
    refine AW.seq fun K857 hK857 => ?_
    refine SQ [] [none, none] fun _ _ g r => ?_
    try simp [-List.reduceReplicate, sOf_set, ofI_set, allU8_set, F11]
    and_intros <;> first | exact g _ (by kernel_rfl) | refine r _ _ _ ?_ | omega | (simp [-List.reduceReplicate, sOf_set, ofI_set, allU8_set, maxLen, F11] <;> omega)
    refine WK [(1, AV.ptr 0 0), (4, AV.slc 1 0 1 v18.length true), (5, Lz v6), (6, Iz v8), (9, Iz v17), (73, AV.bool (v17 != 0))] [(0, .cells [Iz v0, AV.lst false false (List.map api_Arc.av v1)]), (1, .cells (List.map (AV.int .i64) v18))] 2 (by simp [-List.reduceReplicate, sOf_set, ofI_set, allU8_set, F11]) (by simp [-List.reduceReplicate, sOf_set, ofI_set, allU8_set, F11]) ?_
    by_cases h32 : v17 ≠ 0
    ·replace hF := ite_t h32 hF
     have h32_ := eqb_f h32
     have h32__ := neb_t h32
     refine CT (by simp [-List.reduceReplicate, sOf_set, ofI_set, allU8_set, F11, h32, h32_, h32__] <;> omega) ?_
     refine AW.skip ?_
     refine hK857 _ _ _ ?_
     refine AW.block ?_
     refine SQ [] [none, none, none, none, none] fun _ _ g r => ?_
     obtain ⟨v19, h33, h34, h35, hF⟩ := idx_elim hF
     have h35_ := get_of h35
     try simp [-List.reduceReplicate] at h35_
     have h34_ := h34
     try simp [-List.reduceReplicate] at h34_
     have F12 := And.intro F11 (And.intro h32 (And.intro h32_ (And.intro h32__ (And.intro h33 (And.intro h34 (And.intro h35 (And.intro h35_ h34_)))))))
     try simp [-List.reduceReplicate, sOf_set, ofI_set, allU8_set, F12]
     and_intros <;> first | exact g _ (by kernel_rfl) | refine r _ _ _ ?_ | omega | (simp [-List.reduceReplicate, sOf_set, ofI_set, allU8_set, maxLen, F12] <;> omega)
     refine WK [(1, AV.ptr 0 0), (4, AV.slc 1 0 1 v18.length true), (5, Lz v6), (6, Iz v8), (10, Iz v19)] [(0, .cells [Iz v0, AV.lst false false (List.map api_Arc.av v1)]), (1, .cells (List.map (AV.int .i64) v18))] 2 (by simp [-List.reduceReplicate, sOf_set, ofI_set, allU8_set, F12]) (by simp [-List.reduceReplicate, sOf_set, ofI_set, allU8_set, F12]) ?_
     refine SQ [] [none, none] fun _ _ g r => ?_
     try simp [-List.reduceReplicate, sOf_set, ofI_set, allU8_set, F12]
     and_intros <;> first | exact g _ (by kernel_rfl) | refine r _ _ _ ?_ | omega | (simp [-List.reduceReplicate, sOf_set, ofI_set, allU8_set, maxLen, F12] <;> omega)
     refine WK [(1, AV.ptr 0 0), (4, AV.slc 1 0 1 v18.length true), (5, Lz v6), (6, Iz v8), (10, Iz v19), (79, AV.bool (decide (0 < v19)))] [(0, .cells [Iz v0, AV.lst false false (List.map api_Arc.av v1)]), (1, .cells (List.map (AV.int .i64) v18))] 2 (by simp [-List.reduceReplicate, sOf_set, ofI_set, allU8_set, F12]) (by simp [-List.reduceReplicate, sOf_set, ofI_set, allU8_set, F12]) ?_
     by_cases h36 : 0 < v19
     ·replace hF := ite_t h36 hF
      have h36_ := h36
      try simp [-List.reduceReplicate] at h36_
      have F13 := And.intro F12 (And.intro h36 h36_)
      refine CT (by simp [-List.reduceReplicate, sOf_set, ofI_set, allU8_set, F13] <;> omega) ?_
      refine SQ [] [none, none, none, none, none, none, none, none, none] fun _ _ g r => ?_
      obtain ⟨⟨h37, h38⟩, hF⟩ := chk_elim hF
      have h38_ := ne_of_lt h38
      obtain ⟨v20, h39, h40, h41, hF⟩ := idx_elim hF
      have h41_ := get_of h41
      try simp [-List.reduceReplicate] at h41_
      have h40_ := h40
      try simp [-List.reduceReplicate] at h40_
      obtain ⟨⟨h42, h43⟩, hF⟩ := chk_elim hF
      have h43_ := ne_of_lt h43
      have F14 := And.intro F13 (And.intro h37 (And.intro h38 (And.intro h38_ (And.intro h39 (And.intro h40 (And.intro h41 (And.intro h41_ (And.intro h40_ (And.intro h42 (And.intro h43 h43_))))))))))
      try simp [-List.reduceReplicate, sOf_set, ofI_set, allU8_set, F14]
      and_intros <;> first | exact g _ (by kernel_rfl) | refine r _ _ _ ?_ | omega | (simp [-List.reduceReplicate, sOf_set, ofI_set, allU8_set, maxLen, F14] <;> omega)
      refine WK [(1, AV.ptr 0 0), (4, AV.slc 1 0 1 ((v18.set (IntKind.wrap .i64 (v19 - 1)).toNat (IntKind.wrap .i64 (v20 + v8))).length) true), (5, Lz v6), (6, Iz v8), (10, Iz v19)] [(0, .cells [Iz v0, AV.lst false false (List.map api_Arc.av v1)]), (1, .cells (List.map (AV.int .i64) (v18.set (IntKind.wrap .i64 (v19 - 1)).toNat (IntKind.wrap .i64 (v20 + v8)))))] 2 (by simp [-List.reduceReplicate, sOf_set, ofI_set, allU8_set, F14]) (by simp [-List.reduceReplicate, sOf_set, ofI_set, allU8_set, F14]) ?_
      refine RG [] [none, none, none, none, none, none, none, none] fun _ _ g r => ?_
      obtain ⟨v21, h44, h45, h46, hF⟩ := idx_elim hF
      have h46_ := get_of h46
      try simp [-List.reduceReplicate] at h46_
      have h45_ := h45
      try simp [-List.reduceReplicate] at h45_
      have F15 := And.intro F14 (And.intro h44 (And.intro h45 (And.intro h46 (And.intro h46_ h45_))))
      try simp [-List.reduceReplicate, sOf_set, ofI_set, allU8_set, F15]
      and_intros <;> first | exact g _ (by kernel_rfl) | refine r _ _ _ ?_ | omega | (simp [-List.reduceReplicate, sOf_set, ofI_set, allU8_set, maxLen, F15] <;> omega)
      refine hK855 _ _ _ ?_
      exact NX (k' := n3) ((v21.From, v18.set (IntKind.wrap .i64 (v19 - 1)).toNat (IntKind.wrap .i64 (v20 + v8)))) hF (by simp [-List.reduceReplicate, sOf_set, ofI_set, allU8_set, F15]) (by simp [-List.reduceReplicate, sOf_set, ofI_set, allU8_set, F15])
     ·replace hF := ite_f h36 hF
      have h36_ := h36
      try simp [-List.reduceReplicate] at h36_
      have F16 := And.intro F12 (And.intro h36 h36_)
      refine CF (by simp [-List.reduceReplicate, sOf_set, ofI_set, allU8_set, F16] <;> omega) ?_
      refine SQ [] [none, none, none, none, none, none, none, none, none, none] fun _ _ g r => ?_
      obtain ⟨⟨h47, h48⟩, hF⟩ := chk_elim hF
      have h48_ := ne_of_lt h48
      obtain ⟨v22, h49, h50, h51, hF⟩ := idx_elim hF
      have h51_ := get_of h51
      try simp [-List.reduceReplicate] at h51_
      have h50_ := h50
      try simp [-List.reduceReplicate] at h50_
      obtain ⟨⟨h52, h53⟩, hF⟩ := chk_elim hF
      have h53_ := ne_of_lt h53
      have F17 := And.intro F16 (And.intro h47 (And.intro h48 (And.intro h48_ (And.intro h49 (And.intro h50 (And.intro h51 (And.intro h51_ (And.intro h50_ (And.intro h52 (And.intro h53 h53_))))))))))
      try simp [-List.reduceReplicate, sOf_set, ofI_set, allU8_set, F17]
      and_intros <;> first | exact g _ (by kernel_rfl) | refine r _ _ _ ?_ | omega | (simp [-List.reduceReplicate, sOf_set, ofI_set, allU8_set, maxLen, F17] <;> omega)
      refine WK [(1, AV.ptr 0 0), (4, AV.slc 1 0 1 ((v18.set (IntKind.wrap .i64 (IntKind.wrap .i64 (-v19) - 1)).toNat (IntKind.wrap .i64 (v22 - v8))).length) true), (5, Lz v6), (6, Iz v8), (10, Iz v19)] [(0, .cells [Iz v0, AV.lst false false (List.map api_Arc.av v1)]), (1, .cells (List.map (AV.int .i64) (v18.set (IntKind.wrap .i64 (IntKind.wrap .i64 (-v19) - 1)).toNat (IntKind.wrap .i64 (v22 - v8)))))] 2 (by simp [-List.reduceReplicate, sOf_set, ofI_set, allU8_set, F17]) (by simp [-List.reduceReplicate, sOf_set, ofI_set, allU8_set, F17]) ?_
      refine RG [] [none, none, none, none, none, none, none, none, none] fun _ _ g r => ?_
      obtain ⟨v23, h54, h55, h56, hF⟩ := idx_elim hF
      have h56_ := get_of h56
      try simp [-List.reduceReplicate] at h56_
      have h55_ := h55
      try simp [-List.reduceReplicate] at h55_
      have F18 := And.intro F17 (And.intro h54 (And.intro h55 (And.intro h56 (And.intro h56_ h55_))))
      try simp [-List.reduceReplicate, sOf_set, ofI_set, allU8_set, F18]
      and_intros <;> first | exact g _ (by kernel_rfl) | refine r _ _ _ ?_ | omega | (simp [-List.reduceReplicate, sOf_set, ofI_set, allU8_set, maxLen, F18] <;> omega)
      refine hK855 _ _ _ ?_
      exact NX (k' := n3) ((v23.To, v18.set (IntKind.wrap .i64 (IntKind.wrap .i64 (-v19) - 1)).toNat (IntKind.wrap .i64 (v22 - v8)))) hF (by simp [-List.reduceReplicate, sOf_set, ofI_set, allU8_set, F18]) (by simp [-List.reduceReplicate, sOf_set, ofI_set, allU8_set, F18])
    ·replace hF := ite_f h32 hF
     have h32q : v17 = 0 := Classical.not_not.1 h32
     have h32_ := eqb_t h32q
     have h32__ := neb_f h32q
     have F19 := And.intro F11 (And.intro h32_ (And.intro h32__ h32q))
     refine CF (by simp [-List.reduceReplicate, sOf_set, ofI_set, allU8_set, F19] <;> omega) ?_
     refine AW.exit ?_
     try simp [-List.reduceReplicate]
     refine hK758 _ _ _ ?_
     exact NX (k' := n1) (v18) hF (by simp [-List.reduceReplicate, sOf_set, ofI_set, allU8_set, F19]) (by simp [-List.reduceReplicate, sOf_set, ofI_set, allU8_set, F19])
theorem w_ref15_Valid (k : Nat) (v0 : Int) (v1 : (List api_Arc)) (v2 : (List Int)) (v3 : Bool) (hF : ref15_Valid k v0 v1 v2 = some v3) :
  FCall Try.prog 24 [AV.agg [AV.int .i64 v0, AV.lst false false (List.map api_Arc.av v1)], AV.lst false false (List.map (AV.int .i64) v2)] [] (AV.bool v3) [] := by
 unfold ref15_Valid at hF
 refine EN Try.func24 ?_
 intro c0 w0 Q h0 hQ
 refine WK [(0, AV.agg [Iz v0, AV.lst false false (List.map api_Arc.av v1)]), (1, Lz v2)] [] 0 (by simp [-List.reduceReplicate, sOf_set, ofI_set, allU8_set]) (by simp [-List.reduceReplicate, sOf_set, ofI_set, allU8_set]) ?_
 refine SQ [] [none, none] fun _ _ g r => ?_
 try simp [-List.reduceReplicate, sOf_set, ofI_set, allU8_set]
 and_intros <;> first | exact g _ (by kernel_rfl) | refine r _ _ _ ?_ | omega | (simp [-List.reduceReplicate, sOf_set, ofI_set, allU8_set, maxLen] <;> omega)
 refine WK [(1, Lz v2), (2, AV.ptr 0 0)] [(0, .cells [Iz v0, AV.lst false false (List.map api_Arc.av v1)])] 1 (by simp [-List.reduceReplicate, sOf_set, ofI_set, allU8_set]) (by simp [-List.reduceReplicate, sOf_set, ofI_set, allU8_set]) ?_
 refine AW.seq fun K281 hK281 => ?_
 refine SQ [] [none, none, none, none, some (11, false), some (11, false), some (11, false), some (11, false), some (11, false), some (11, false), none] fun _ _ g r => ?_
 try simp [-List.reduceReplicate, sOf_set, ofI_set, allU8_set]
 and_intros
 try any_goals first | omega | (simp [-List.reduceReplicate, sOf_set, ofI_set, allU8_set, maxLen] <;> omega)
 obtain ⟨v4, h1, hF⟩ := bnd1_elim hF
 refine AC (w_ref15_Check k _ _ _ h1) (.cons (.same (by simp)) .nil) ?_
 by_cases h2 : v4 ≠ 0
 ·replace hF := ite_t h2 hF
  have h2_ := eqb_f h2
  have h2__ := neb_t h2
  have F1 := And.intro h2 (And.intro h2_ h2__)
  try simp [-List.reduceReplicate, sOf_set, ofI_set, allU8_set, F1]
  and_intros <;> first | exact g _ (by kernel_rfl) | refine r _ _ _ ?_ | omega | (simp [-List.reduceReplicate, sOf_set, ofI_set, allU8_set, maxLen, F1] <;> omega)
  refine WK [(1, Lz v2), (2, AV.ptr 0 0), (18, AV.bool true)] [(0, .cells [Iz v0, AV.lst false false (List.map api_Arc.av v1)])] 1 (by simp [-List.reduceReplicate, sOf_set, ofI_set, allU8_set, F1]) (by simp [-List.reduceReplicate, sOf_set, ofI_set, allU8_set, F1]) ?_
  refine CT (by simp [-List.reduceReplicate, sOf_set, ofI_set, allU8_set, F1]) ?_
  refine SQ [] [none] fun _ _ g r => ?_
  try simp [-List.reduceReplicate, sOf_set, ofI_set, allU8_set, F1]
  and_intros <;> first | exact g _ (by kernel_rfl) | refine r _ _ _ ?_ | omega | (simp [-List.reduceReplicate, sOf_set, ofI_set, allU8_set, maxLen, F1] <;> omega)
  refine WK [(4, AV.bool false)] [] 1 (by simp [-List.reduceReplicate, sOf_set, ofI_set, allU8_set, F1]) (by simp [-List.reduceReplicate, sOf_set, ofI_set, allU8_set, F1]) ?_
  simp only [Option.some.injEq] at hF
  subst hF
  refine AW.ret (hQ _ _ _ ?_ (matchO_0 ?_)).1
  ·simp [Try.f24, F1]
  ·simp [F1]
 ·replace hF := ite_f h2 hF
  have h2q : v4 = 0 := Classical.not_not.1 h2
  have h2_ := eqb_t h2q
  have h2__ := neb_f h2q
  have F2 := And.intro h2_ (And.intro h2__ h2q)
  try simp [-List.reduceReplicate, sOf_set, ofI_set, allU8_set, F2]
  and_intros <;> first | exact g _ (by kernel_rfl) | refine r _ _ _ ?_ | omega | (simp [-List.reduceReplicate, sOf_set, ofI_set, allU8_set, maxLen, F2] <;> omega)
  refine WK [(1, Lz v2), (2, AV.ptr 0 0), (18, AV.bool ((v2.length : Int) != (v1.length : Int)))] [(0, .cells [Iz v0, AV.lst false false (List.map api_Arc.av v1)])] 1 (by simp [-List.reduceReplicate, sOf_set, ofI_set, allU8_set, F2]) (by simp [-List.reduceReplicate, sOf_set, ofI_set, allU8_set, F2]) ?_
  by_cases h3 : (v2.length : Int) ≠ (v1.length : Int)
  ·replace hF := ite_t h3 hF
   have h3_ := eqb_f h3
   have h3__ := neb_t h3
   have F3 := And.intro F2 (And.intro h3 (And.intro h3_ h3__))
   refine CT (by simp [-List.reduceReplicate, sOf_set, ofI_set, allU8_set, F3] <;> omega) ?_
   refine SQ [] [none] fun _ _ g r => ?_
   try simp [-List.reduceReplicate, sOf_set, ofI_set, allU8_set, F3]
   and_intros <;> first | exact g _ (by kernel_rfl) | refine r _ _ _ ?_ | omega | (simp [-List.reduceReplicate, sOf_set, ofI_set, allU8_set, maxLen, F3] <;> omega)
   refine WK [(4, AV.bool false)] [] 1 (by simp [-List.reduceReplicate, sOf_set, ofI_set, allU8_set, F3]) (by simp [-List.reduceReplicate, sOf_set, ofI_set, allU8_set, F3]) ?_
   simp only [Option.some.injEq] at hF
   subst hF
   refine AW.ret (hQ _ _ _ ?_ (matchO_0 ?_)).1
   ·simp [Try.f24, F3]
   ·simp [F3]
  ·replace hF := ite_f h3 hF
   have h3q : (v2.length : Int) = (v1.length : Int) := Classical.not_not.1 h3
   have h3_ := eqb_t h3q
   have h3__ := neb_f h3q
   refine CF (by simp [-List.reduceReplicate, sOf_set, ofI_set, allU8_set, F2, h3_, h3__] <;> omega) ?_
   refine AW.skip ?_
   refine hK281 _ _ _ ?_
   refine SQ [21] [none, none, none, none] fun _ _ g r => ?_
   obtain ⟨h4, hF⟩ := chk_elim hF
   have F4 := And.intro F2 (And.intro h3_ (And.intro h3__ h4))
   try simp [-List.reduceReplicate, sOf_set, ofI_set, allU8_set, F4]
   and_intros <;> first | exact g _ (by kernel_rfl) | refine r _ _ _ ?_ | omega | (simp [-List.reduceReplicate, sOf_set, ofI_set, allU8_set, maxLen, F4] <;> omega)
   refine WK [(1, Lz v2), (2, AV.ptr 0 0), (5, AV.slc 1 0 1 ((List.replicate (v0).toNat (0 : Int)).length) true)] [(0, .cells [Iz v0, AV.lst false false (List.map api_Arc.av v1)]), (1, .cells (List.map (AV.int .i64) (List.replicate (v0).toNat (0 : Int))))] 2 (by simp [-List.reduceReplicate, sOf_set, ofI_set, allU8_set, F4]) (by simp [-List.reduceReplicate, sOf_set, ofI_set, allU8_set, F4]) ?_
   refine AW.seq fun K380 hK380 => ?_
   refine SQ [] [none] fun _ _ g r => ?_
   try simp [-List.reduceReplicate, sOf_set, ofI_set, allU8_set, F4]
   and_intros <;> first | exact g _ (by kernel_rfl) | refine r _ _ _ ?_ | omega | (simp [-List.reduceReplicate, sOf_set, ofI_set, allU8_set, maxLen, F4] <;> omega)
   refine WK [(1, Lz v2), (2, AV.ptr 0 0), (5, AV.slc 1 0 1 ((List.replicate (v0).toNat (0 : Int)).length) true), (6, Iz 0)] [(0, .cells [Iz v0, AV.lst false false (List.map api_Arc.av v1)]), (1, .cells (List.map (AV.int .i64) (List.replicate (v0).toNat (0 : Int))))] 2 (by simp [-List.reduceReplicate, sOf_set, ofI_set, allU8_set, F4]) (by simp [-List.reduceReplicate, sOf_set, ofI_set, allU8_set, F4]) ?_
   refine AW.block ?_
   refine AW.loopF (α := (Int × (List Int))) (fun n (v5, v6) => ref15_Valid.L1 k v0 v1 v2 n v5 v6 = some v3) (fun (v5, v6) => [(1, Lz v2), (2, AV.ptr 0 0), (5, AV.slc 1 0 1 v6.length true), (6, Iz v5)]) (fun (v5, v6) => [(0, .cells [Iz v0, AV.lst false false (List.map api_Arc.av v1)]), (1, .cells (List.map (AV.int .i64) v6))]) 2 k ((0, (List.replicate (v0).toNat (0 : Int)))) hF (by simp [-List.reduceReplicate, sOf_set, ofI_set, allU8_set, F4]) (by simp [-List.reduceReplicate, sOf_set, ofI_set, allU8_set, F4]) (by simp) ?_
   rintro (_|n1) ⟨v5, v6⟩ hF K451 hK451
   ·try dsimp only at hF
    rw [ref15_Valid.L1] at hF; cases hF
   try dsimp only at hF
   rw [ref15_Valid.L1] at hF
   refine AW.seq fun K453 hK453 => ?_
   refine SQ [] [none, none, none, none] fun _ _ g r => ?_
   try simp [-List.reduceReplicate, sOf_set, ofI_set, allU8_set, F4]
   and_intros <;> first | exact g _ (by kernel_rfl) | refine r _ _ _ ?_ | omega | (simp [-List.reduceReplicate, sOf_set, ofI_set, allU8_set, maxLen, F4] <;> omega)
   refine WK [(1, Lz v2), (2, AV.ptr 0 0), (5, AV.slc 1 0 1 v6.length true), (6, Iz v5), (25, AV.bool (decide (v5 < (v2.length : Int))))] [(0, .cells [Iz v0, AV.lst false false (List.map api_Arc.av v1)]), (1, .cells (List.map (AV.int .i64) v6))] 2 (by simp [-List.reduceReplicate, sOf_set, ofI_set, allU8_set, F4]) (by simp [-List.reduceReplicate, sOf_set, ofI_set, allU8_set, F4]) ?_
   by_cases h5 : v5 < (v2.length : Int)
   ·replace hF := ite_t h5 hF
    have h5_ := h5
    try simp [-List.reduceReplicate] at h5_
    have F5 := And.intro F4 (And.intro h5 h5_)
    refine CT (by simp [-List.reduceReplicate, sOf_set, ofI_set, allU8_set, F5] <;> omega) ?_
    refine AW.skip ?_
    refine hK453 _ _ _ ?_
    refine AW.seq fun K464 hK464 => ?_
    refine AW.block ?_
    refine AW.seq fun K468 hK468 => ?_
    refine SQ [] [none, none, none, none, none, none, some (33, false), some (33, false), some (33, false), some (33, false), some (33, false), some (33, false), some (33, false), some (33, false), some (33, false), some (33, false), some (33, false), none] fun _ _ g r => ?_
    obtain ⟨v7, h6, h7, h8, hF⟩ := idx_elim hF
    have h8_ := get_of h8
    try simp [-List.reduceReplicate] at h8_
    have h7_ := h7
    try simp [-List.reduceReplicate] at h7_
    by_cases h9 : v7 < 0
    ·replace hF := ite_t h9 hF
     have h9_ := h9
     try simp [-List.reduceReplicate] at h9_
     have F6 := And.intro F5 (And.intro h6 (And.intro h7 (And.intro h8 (And.intro h8_ (And.intro h7_ (And.intro h9 h9_))))))
     try simp [-List.reduceReplicate, sOf_set, ofI_set, allU8_set, F6]
     and_intros <;> first | exact g _ (by kernel_rfl) | refine r _ _ _ ?_ | omega | (simp [-List.reduceReplicate, sOf_set, ofI_set, allU8_set, maxLen, F6] <;> omega)
     refine WK [(1, Lz v2), (2, AV.ptr 0 0), (5, AV.slc 1 0 1 v6.length true), (6, Iz v5), (45, AV.bool true)] [(0, .cells [Iz v0, AV.lst false false (List.map api_Arc.av v1)]), (1, .cells (List.map (AV.int .i64) v6))] 2 (by simp [-List.reduceReplicate, sOf_set, ofI_set, allU8_set, F6]) (by simp [-List.reduceReplicate, sOf_set, ofI_set, allU8_set, F6]) ?_
     refine CT (by simp [-List.reduceReplicate, sOf_set, ofI_set, allU8_set, F6]) ?_
     refine SQ [] [none] fun _ _ g r => ?_
     try simp [-List.reduceReplicate, sOf_set, ofI_set, allU8_set, F6]
     and_intros <;> first | exact g _ (by kernel_rfl) | refine r _ _ _ ?_ | omega | (simp [-List.reduceReplicate, sOf_set, ofI_set, allU8_set, maxLen, F6] <;> omega)
     refine WK [(4, AV.bool false)] [] 2 (by simp [-List.reduceReplicate, sOf_set, ofI_set, allU8_set, F6]) (by simp [-List.reduceReplicate, sOf_set, ofI_set, allU8_set, F6]) ?_
     simp only [Option.some.injEq] at hF
     subst hF
     refine AW.ret (hQ _ _ _ ?_ (matchO_0 ?_)).1
     ·simp [Try.f24, F6]
     ·simp [F6]
    ·replace hF := ite_f h9 hF
     have h9_ := h9
     try simp [-List.reduceReplicate] at h9_
     obtain ⟨v8, h10, h11, h12, hF⟩ := idx_elim hF
     have h12_ := get_of h12
     try simp [-List.reduceReplicate] at h12_
     have h11_ := h11
     try simp [-List.reduceReplicate] at h11_
     have F7 := And.intro F5 (And.intro h6 (And.intro h7 (And.intro h8 (And.intro h8_ (And.intro h7_ (And.intro h9 (And.intro h9_ (And.intro h10 (And.intro h11 (And.intro h12 (And.intro h12_ h11_)))))))))))
     try simp [-List.reduceReplicate, sOf_set, ofI_set, allU8_set, F7]
     and_intros <;> first | exact g _ (by kernel_rfl) | refine r _ _ _ ?_ | omega | (simp [-List.reduceReplicate, sOf_set, ofI_set, allU8_set, maxLen, F7] <;> omega)
     refine WK [(1, Lz v2), (2, AV.ptr 0 0), (5, AV.slc 1 0 1 v6.length true), (6, Iz v5), (45, AV.bool (decide (v8.Cap < v7)))] [(0, .cells [Iz v0, AV.lst false false (List.map api_Arc.av v1)]), (1, .cells (List.map (AV.int .i64) v6))] 2 (by simp [-List.reduceReplicate, sOf_set, ofI_set, allU8_set, F7]) (by simp [-List.reduceReplicate, sOf_set, ofI_set, allU8_set, F7]) ?_
     by_cases h13 : v8.Cap < v7
     ·replace hF := ite_t h13 hF
      have h13_ := h13
      try simp [-List.reduceReplicate] at h13_
      have F8 := And.intro F7 (And.intro h13 h13_)
      refine CT (by simp [-List.reduceReplicate, sOf_set, ofI_set, allU8_set, F8] <;> omega) ?_
      refine SQ [] [none] fun _ _ g r => ?_
      try simp [-List.reduceReplicate, sOf_set, ofI_set, allU8_set, F8]
      and_intros <;> first | exact g _ (by kernel_rfl) | refine r _ _ _ ?_ | omega | (simp [-List.reduceReplicate, sOf_set, ofI_set, allU8_set, maxLen, F8] <;> omega)
      refine WK [(4, AV.bool false)] [] 2 (by simp [-List.reduceReplicate, sOf_set, ofI_set, allU8_set, F8]) (by simp [-List.reduceReplicate, sOf_set, ofI_set, allU8_set, F8]) ?_
      simp only [Option.some.injEq] at hF
      subst hF
      refine AW.ret (hQ _ _ _ ?_ (matchO_0 ?_)).1
      ·simp [Try.f24, F8]
      ·simp [F8]
     ·replace hF := ite_f h13 hF
      have h13_ := h13
      try simp [-List.reduceReplicate] at h13_
      have F9 := And.intro F7 (And.intro h13 h13_)
      refine CF (by simp [-List.reduceReplicate, sOf_set, ofI_set, allU8_set, F9] <;> omega) ?_
      refine AW.skip ?_
      refine hK468 _ _ _ ?_
      refine SQ [] [none, none, none, none, none, none, none, none, none, none, none, none, none, none, none, none] fun _ _ g r => ?_
      obtain ⟨⟨h14, h15⟩, hF⟩ := chk_elim hF
      have h15_ := ne_of_lt h15
      obtain ⟨v9, h16, h17, h18, hF⟩ := idx_elim hF
      have h18_ := get_of h18
      try simp [-List.reduceReplicate] at h18_
      have h17_ := h17
      try simp [-List.reduceReplicate] at h17_
      obtain ⟨⟨h19, h20⟩, hF⟩ := chk_elim hF
      have h20_ := ne_of_lt h20
      have F10 := And.intro F9 (And.intro h14 (And.intro h15 (And.intro h15_ (And.intro h16 (And.intro h17 (And.intro h18 (And.intro h18_ (And.intro h17_ (And.intro h19 (And.intro h20 h20_))))))))))
      try simp [-List.reduceReplicate, sOf_set, ofI_set, allU8_set, F10]
      and_intros <;> first | exact g _ (by kernel_rfl) | refine r _ _ _ ?_ | omega | (simp [-List.reduceReplicate, sOf_set, ofI_set, allU8_set, maxLen, F10] <;> omega)
      refine WK [(1, Lz v2), (2, AV.ptr 0 0), (5, AV.slc 1 0 1 ((v6.set (v8.From).toNat (IntKind.wrap .i64 (v9 - v7))).length) true), (6, Iz v5)] [(0, .cells [Iz v0, AV.lst false false (List.map api_Arc.av v1)]), (1, .cells (List.map (AV.int .i64) (v6.set (v8.From).toNat (IntKind.wrap .i64 (v9 - v7)))))] 2 (by simp [-List.reduceReplicate, sOf_set, ofI_set, allU8_set, F10]) (by simp [-List.reduceReplicate, sOf_set, ofI_set, allU8_set, F10]) ?_
      refine RG [] [none, none, none, none, none, none, none, none, none, none, none, none, none, none, none, none] fun _ _ g r => ?_
      obtain ⟨⟨h21, h22⟩, hF⟩ := chk_elim hF
      have h22_ := ne_of_lt h22
      obtain ⟨v10, h23, h24, h25, hF⟩ := idx_elim hF
      have h25_ := get_of h25
      try simp [-List.reduceReplicate] at h25_
      have h24_ := h24
      try simp [-List.reduceReplicate] at h24_
      have h25__ := get_of (map_get ((AV.int .i64)) h25)
      try simp at h25__
      obtain ⟨⟨h26, h27⟩, hF⟩ := chk_elim hF
      have h27_ := ne_of_lt h27
      have F11 := And.intro F10 (And.intro h21 (And.intro h22 (And.intro h22_ (And.intro h23 (And.intro h24 (And.intro h25 (And.intro h25_ (And.intro h24_ (And.intro h25__ (And.intro h26 (And.intro h27 h27_)))))))))))
      try simp [-List.reduceReplicate, sOf_set, ofI_set, allU8_set, F11]
      and_intros <;> first | exact g _ (by kernel_rfl) | refine r _ _ _ ?_ | omega | (simp [-List.reduceReplicate, sOf_set, ofI_set, allU8_set, maxLen, F11] <;> omega)
      refine hK464 _ _ _ ?_
      refine WK [(1, Lz v2), (2, AV.ptr 0 0), (5, AV.slc 1 0 1 (((v6.set (v8.From).toNat (IntKind.wrap .i64 (v9 - v7))).set (v8.To).toNat (IntKind.wrap .i64 (v10 + v7))).length) true), (6, Iz v5)] [(0, .cells [Iz v0, AV.lst false false (List.map api_Arc.av v1)]), (1, .cells (List.map (AV.int .i64) ((v6.set (v8.From).toNat (IntKind.wrap .i64 (v9 - v7))).set (v8.To).toNat (IntKind.wrap .i64 (v10 + v7)))))] 2 (by simp [-List.reduceReplicate, sOf_set, ofI_set, allU8_set, F11]) (by simp [-List.reduceReplicate, sOf_set, ofI_set, allU8_set, F11]) ?_
      refine RG [] [none, none, none] fun _ _ g r => ?_
      try simp [-List.reduceReplicate, sOf_set, ofI_set, allU8_set, F11]
      and_intros <;> first | exact g _ (by kernel_rfl) | refine r _ _ _ ?_ | omega | (simp [-List.reduceReplicate, sOf_set, ofI_set, allU8_set, maxLen, F11] <;> omega)
      refine hK451 _ _ _ ?_
      exact NX (k' := n1) ((IntKind.wrap .i64 (v5 + 1), (v6.set (v8.From).toNat (IntKind.wrap .i64 (v9 - v7))).set (v8.To).toNat (IntKind.wrap .i64 (v10 + v7)))) hF (by simp [-List.reduceReplicate, sOf_set, ofI_set, allU8_set, F11]) (by simp [-List.reduceReplicate, sOf_set, ofI_set, allU8_set, F11])
   ·replace hF := ite_f h5 hF
    have h5_ := h5
    try simp [-List.reduceReplicate] at h5_
    have F12 := And.intro F4 (And.intro h5 h5_)
    refine CF (by simp [-List.reduceReplicate, sOf_set, ofI_set, allU8_set, F12] <;> omega) ?_
    refine AW.exit ?_
    try simp [-List.reduceReplicate]
    refine hK380 _ _ _ ?_
    refine WK [(2, AV.ptr 0 0), (5, AV.slc 1 0 1 v6.length true)] [(0, .cells [Iz v0, AV.lst false false (List.map api_Arc.av v1)]), (1, .cells (List.map (AV.int .i64) v6))] 2 (by simp [-List.reduceReplicate, sOf_set, ofI_set, allU8_set, F12]) (by simp [-List.reduceReplicate, sOf_set, ofI_set, allU8_set, F12]) ?_
    refine AW.frz 1 (o := .cells (List.map (AV.int .i64) v6)) (by simp [-List.reduceReplicate, sOf_set, ofI_set, allU8_set, F12]) rfl [(5, AV.lst false true (List.map (AV.int .i64) v6))] [] ⟨(.l (by simp) (by simp) (by simp) (by simp)), trivial⟩ trivial ?_
    refine WK [(2, AV.ptr 0 0), (5, AV.lst false true (List.map (AV.int .i64) v6))] [(0, .cells [Iz v0, AV.lst false false (List.map api_Arc.av v1)])] 2 (by simp [-List.reduceReplicate, sOf_set, ofI_set, allU8_set, F12]) (by simp [-List.reduceReplicate, sOf_set, ofI_set, allU8_set, F12]) ?_
    refine AW.seq fun K513 hK513 => ?_
    refine SQ [] [none] fun _ _ g r => ?_
    try simp [-List.reduceReplicate, sOf_set, ofI_set, allU8_set, F12]
    and_intros <;> first | exact g _ (by kernel_rfl) | refine r _ _ _ ?_ | omega | (simp [-List.reduceReplicate, sOf_set, ofI_set, allU8_set, maxLen, F12] <;> omega)
    refine WK [(2, AV.ptr 0 0), (5, AV.lst false true (List.map (AV.int .i64) v6)), (7, Iz 2)] [(0, .cells [Iz v0, AV.lst false false (List.map api_Arc.av v1)])] 2 (by simp [-List.reduceReplicate, sOf_set, ofI_set, allU8_set, F12]) (by simp [-List.reduceReplicate, sOf_set, ofI_set, allU8_set, F12]) ?_
    refine AW.block ?_
    refine RM h0 [(0, 0)] [(2, AV.ptr 0 0), (5, AV.lst false true (List.map (AV.int .i64) v6)), (7, Iz 2)] [(0, .cells [Iz v0, AV.lst false false (List.map api_Arc.av v1)])] 1 (by simp [-List.reduceReplicate, sOf_set, ofI_set, allU8_set, F12]) (by simp [-List.reduceReplicate, sOf_set, ofI_set, allU8_set, F12]) ?_
    refine AW.loopF (α := Int) (fun n v11 => ref15_Valid.L2 k v0 v6 n v11 = some v3) (fun v11 => [(2, AV.ptr 0 0), (5, AV.lst false true (List.map (AV.int .i64) v6)), (7, Iz v11)]) (fun v11 => [(0, .cells [Iz v0, AV.lst false false (List.map api_Arc.av v1)])]) 1 k (2) hF (by simp [-List.reduceReplicate, sOf_set, ofI_set, allU8_set, F12]) (by simp [-List.reduceReplicate, sOf_set, ofI_set, allU8_set, F12]) (by simp) ?_
    rintro (_|n2) v11 hF K542 hK542
    ·try dsimp only at hF
     rw [ref15_Valid.L2] at hF; cases hF
    try dsimp only at hF
    rw [ref15_Valid.L2] at hF
    refine AW.seq fun K544 hK544 => ?_
    refine SQ [] [none, none, none, none] fun _ _ g r => ?_
    try simp [-List.reduceReplicate, sOf_set, ofI_set, allU8_set, F12]
    and_intros <;> first | exact g _ (by kernel_rfl) | refine r _ _ _ ?_ | omega | (simp [-List.reduceReplicate, sOf_set, ofI_set, allU8_set, maxLen, F12] <;> omega)
    refine WK [(2, AV.ptr 0 0), (5, AV.lst false true (List.map (AV.int .i64) v6)), (7, Iz v11), (79, AV.bool (decide (v11 < v0)))] [(0, .cells [Iz v0, AV.lst false false (List.map api_Arc.av v1)])] 1 (by simp [-List.reduceReplicate, sOf_set, ofI_set, allU8_set, F12]) (by simp [-List.reduceReplicate, sOf_set, ofI_set, allU8_set, F12]) ?_
    by_cases h28 : v11 < v0
    ·replace hF := ite_t h28 hF
     have h28_ := h28
     try simp [-List.reduceReplicate] at h28_
     have F13 := And.intro F12 (And.intro h28 h28_)
     refine CT (by simp [-List.reduceReplicate, sOf_set, ofI_set, allU8_set, F13] <;> omega) ?_
     refine AW.skip ?_
     refine hK544 _ _ _ ?_
     refine AW.seq fun K548 hK548 => ?_
     refine AW.block ?_
     refine SQ [] [none, none, none, none, none] fun _ _ g r => ?_
     obtain ⟨v12, h29, h30, h31, hF⟩ := idx_elim hF
     have h31_ := get_of h31
     try simp [-List.reduceReplicate] at h31_
     have h30_ := h30
     try simp [-List.reduceReplicate] at h30_
     have F14 := And.intro F13 (And.intro h29 (And.intro h30 (And.intro h31 (And.intro h31_ h30_))))
     try simp [-List.reduceReplicate, sOf_set, ofI_set, allU8_set, F14]
     and_intros <;> first | exact g _ (by kernel_rfl) | refine r _ _ _ ?_ | omega | (simp [-List.reduceReplicate, sOf_set, ofI_set, allU8_set, maxLen, F14] <;> omega)
     refine WK [(2, AV.ptr 0 0), (5, AV.lst false true (List.map (AV.int .i64) v6)), (7, Iz v11), (86, AV.bool (v12 != 0))] [(0, .cells [Iz v0, AV.lst false false (List.map api_Arc.av v1)])] 1 (by simp [-List.reduceReplicate, sOf_set, ofI_set, allU8_set, F14]) (by simp [-List.reduceReplicate, sOf_set, ofI_set, allU8_set, F14]) ?_
     by_cases h32 : v12 ≠ 0
     ·replace hF := ite_t h32 hF
      have h32_ := eqb_f h32
      have h32__ := neb_t h32
      have F15 := And.intro F14 (And.intro h32 (And.intro h32_ h32__))
      refine CT (by simp [-List.reduceReplicate, sOf_set, ofI_set, allU8_set, F15] <;> omega) ?_
      refine SQ [] [none] fun _ _ g r => ?_
      try simp [-List.reduceReplicate, sOf_set, ofI_set, allU8_set, F15]
      and_intros <;> first | exact g _ (by kernel_rfl) | refine r _ _ _ ?_ | omega | (simp [-List.reduceReplicate, sOf_set, ofI_set, allU8_set, maxLen, F15] <;> omega)
      refine WK [(4, AV.bool false)] [] 1 (by simp [-List.reduceReplicate, sOf_set, ofI_set, allU8_set, F15]) (by simp [-List.reduceReplicate, sOf_set, ofI_set, allU8_set, F15]) ?_
      simp only [Option.some.injEq] at hF
      subst hF
      refine AW.ret (hQ _ _ _ ?_ (matchO_0 ?_)).1
      ·simp [Try.f24, F15]
      ·simp [F15]
     ·replace hF := ite_f h32 hF
      have h32q : v12 = 0 := Classical.not_not.1 h32
      have h32_ := eqb_t h32q
      have h32__ := neb_f h32q
      have F16 := And.intro F14 (And.intro h32_ (And.intro h32__ h32q))
      refine CF (by simp [-List.reduceReplicate, sOf_set, ofI_set, allU8_set, F16] <;> omega) ?_
      refine AW.skip ?_
      refine hK548 _ _ _ ?_
      refine RG [] [none, none, none] fun _ _ g r => ?_
      try simp [-List.reduceReplicate, sOf_set, ofI_set, allU8_set, F16]
      and_intros <;> first | exact g _ (by kernel_rfl) | refine r _ _ _ ?_ | omega | (simp [-List.reduceReplicate, sOf_set, ofI_set, allU8_set, maxLen, F16] <;> omega)
      refine hK542 _ _ _ ?_
      exact NX (k' := n2) (IntKind.wrap .i64 (v11 + 1)) hF (by simp [-List.reduceReplicate, sOf_set, ofI_set, allU8_set, F16]) (by simp [-List.reduceReplicate, sOf_set, ofI_set, allU8_set, F16])
    ·replace hF := ite_f h28 hF
     have h28_ := h28
     try simp [-List.reduceReplicate] at h28_
     have F17 := And.intro F12 (And.intro h28 h28_)
     refine CF (by simp [-List.reduceReplicate, sOf_set, ofI_set, allU8_set, F17] <;> omega) ?_
     refine AW.exit ?_
     try simp [-List.reduceReplicate]
     refine hK513 _ _ _ ?_
     refine SQ [] [none] fun _ _ g r => ?_
     try simp [-List.reduceReplicate, sOf_set, ofI_set, allU8_set, F17]
     and_intros <;> first | exact g _ (by kernel_rfl) | refine r _ _ _ ?_ | omega | (simp [-List.reduceReplicate, sOf_set, ofI_set, allU8_set, maxLen, F17] <;> omega)
     refine WK [(4, AV.bool true)] [] 1 (by simp [-List.reduceReplicate, sOf_set, ofI_set, allU8_set, F17]) (by simp [-List.reduceReplicate, sOf_set, ofI_set, allU8_set, F17]) ?_
     simp only [Option.some.injEq] at hF
     subst hF
     refine AW.ret (hQ _ _ _ ?_ (matchO_0 ?_)).1
     ·simp [Try.f24, F17]
     ·simp [F17]
end Go.TF
