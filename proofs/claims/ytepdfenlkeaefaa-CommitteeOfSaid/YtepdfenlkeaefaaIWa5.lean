/- Walks: the Go text computes the Lean functions (printed by a program of our own). -/
import Derived.Test.YtepdfenlkeaefaaIPu
import Derived.Test.YtepdfenlkeaefaaIAbsT
import Derived.Test.YtepdfenlkeaefaaIWa0
set_option linter.unusedVariables false
set_option linter.unusedSimpArgs false
set_option maxRecDepth 100000
set_option maxHeartbeats 4000000
namespace Go.TF
open Go Go.Abs Go.Proofs Go.Proofs.YtepdfenlkeaefaaIT
theorem w_ref23_Valid (k : Nat) (v0 : Int) (v1 : Int) (v2 : Int) (v3 : Int) (v4 : Bool) (hF : ref23_Valid k v0 v1 v2 v3 = some v4) :
  FCall Try.prog 91 [AV.agg [AV.int .i64 v0, AV.int .i64 v1, AV.int .i64 v2, AV.int .i64 v3]] [] (AV.bool v4) [] := by
 unfold ref23_Valid at hF
 refine EN Try.func91 ?_
 intro c0 w0 Q h0 hQ
 refine WK [(0, AV.agg [Iz v0, Iz v1, Iz v2, Iz v3])] [] 0 (by simp) (by simp) ?_
 refine SQ [] [none, none] fun _ _ g r => ?_
 try simp
 and_intros <;> first | exact g _ (by kernel_rfl) | refine r _ _ _ ?_ | omega | (simp [maxLen] <;> omega)
 refine WK [(1, AV.ptr 0 0)] [(0, .cells [Iz v0, Iz v1, Iz v2, Iz v3])] 1 (by simp) (by simp) ?_
 refine AW.seq fun K45 hK45 => ?_
 refine SQ [] [none, none, none, none, some (6, false), some (6, false), some (6, false), none, none, some (11, false), some (11, false), some (11, false), none, none, some (16, false), some (16, false), some (16, false), none, none, some (21, false), some (21, false), some (21, false), none, none, some (26, false), some (26, false), some (26, false), none] fun _ _ g r => ?_
 by_cases h1 : v0 < 0
 ·replace hF := ite_t h1 hF
  have h1_ := h1
  try simp at h1_
  try simp [h1, h1_]
  and_intros <;> first | exact g _ (by kernel_rfl) | refine r _ _ _ ?_ | omega | (simp [h1, h1_, maxLen] <;> omega)
  refine WK [(1, AV.ptr 0 0), (30, AV.bool true)] [(0, .cells [Iz v0, Iz v1, Iz v2, Iz v3])] 1 (by simp [h1, h1_]) (by simp [h1, h1_]) ?_
  refine CT (by simp [h1, h1_]) ?_
  refine SQ [] [none] fun _ _ g r => ?_
  try simp [h1, h1_]
  and_intros <;> first | exact g _ (by kernel_rfl) | refine r _ _ _ ?_ | omega | (simp [h1, h1_, maxLen] <;> omega)
  refine WK [(2, AV.bool false)] [] 1 (by simp [h1, h1_]) (by simp [h1, h1_]) ?_
  simp only [Option.some.injEq] at hF
  subst hF
  refine AW.ret (hQ _ _ _ ?_ (matchO_0 ?_)).1
  ·simp [Try.f91, h1, h1_]
  ·simp [h1, h1_]
 ·replace hF := ite_f h1 hF
  have h1_ := h1
  try simp at h1_
  by_cases h2 : 40 ≤ v0
  ·replace hF := ite_t h2 hF
   have h2_ := h2
   try simp at h2_
   have F1 := And.intro h1 (And.intro h1_ (And.intro h2 h2_))
   try simp [F1]
   and_intros <;> first | exact g _ (by kernel_rfl) | refine r _ _ _ ?_ | omega | (simp [maxLen, F1] <;> omega)
   refine WK [(1, AV.ptr 0 0), (30, AV.bool true)] [(0, .cells [Iz v0, Iz v1, Iz v2, Iz v3])] 1 (by simp [F1]) (by simp [F1]) ?_
   refine CT (by simp [F1]) ?_
   refine SQ [] [none] fun _ _ g r => ?_
   try simp [F1]
   and_intros <;> first | exact g _ (by kernel_rfl) | refine r _ _ _ ?_ | omega | (simp [maxLen, F1] <;> omega)
   refine WK [(2, AV.bool false)] [] 1 (by simp [F1]) (by simp [F1]) ?_
   simp only [Option.some.injEq] at hF
   subst hF
   refine AW.ret (hQ _ _ _ ?_ (matchO_0 ?_)).1
   ·simp [Try.f91, F1]
   ·simp [F1]
  ·replace hF := ite_f h2 hF
   have h2_ := h2
   try simp at h2_
   by_cases h3 : v2 < 0
   ·replace hF := ite_t h3 hF
    have h3_ := h3
    try simp at h3_
    have F2 := And.intro h1 (And.intro h1_ (And.intro h2 (And.intro h2_ (And.intro h3 h3_))))
    try simp [F2]
    and_intros <;> first | exact g _ (by kernel_rfl) | refine r _ _ _ ?_ | omega | (simp [maxLen, F2] <;> omega)
    refine WK [(1, AV.ptr 0 0), (30, AV.bool true)] [(0, .cells [Iz v0, Iz v1, Iz v2, Iz v3])] 1 (by simp [F2]) (by simp [F2]) ?_
    refine CT (by simp [F2]) ?_
    refine SQ [] [none] fun _ _ g r => ?_
    try simp [F2]
    and_intros <;> first | exact g _ (by kernel_rfl) | refine r _ _ _ ?_ | omega | (simp [maxLen, F2] <;> omega)
    refine WK [(2, AV.bool false)] [] 1 (by simp [F2]) (by simp [F2]) ?_
    simp only [Option.some.injEq] at hF
    subst hF
    refine AW.ret (hQ _ _ _ ?_ (matchO_0 ?_)).1
    ·simp [Try.f91, F2]
    ·simp [F2]
   ·replace hF := ite_f h3 hF
    have h3_ := h3
    try simp at h3_
    by_cases h4 : 64 ≤ v2
    ·replace hF := ite_t h4 hF
     have h4_ := h4
     try simp at h4_
     have F3 := And.intro h1 (And.intro h1_ (And.intro h2 (And.intro h2_ (And.intro h3 (And.intro h3_ (And.intro h4 h4_))))))
     try simp [F3]
     and_intros <;> first | exact g _ (by kernel_rfl) | refine r _ _ _ ?_ | omega | (simp [maxLen, F3] <;> omega)
     refine WK [(1, AV.ptr 0 0), (30, AV.bool true)] [(0, .cells [Iz v0, Iz v1, Iz v2, Iz v3])] 1 (by simp [F3]) (by simp [F3]) ?_
     refine CT (by simp [F3]) ?_
     refine SQ [] [none] fun _ _ g r => ?_
     try simp [F3]
     and_intros <;> first | exact g _ (by kernel_rfl) | refine r _ _ _ ?_ | omega | (simp [maxLen, F3] <;> omega)
     refine WK [(2, AV.bool false)] [] 1 (by simp [F3]) (by simp [F3]) ?_
     simp only [Option.some.injEq] at hF
     subst hF
     refine AW.ret (hQ _ _ _ ?_ (matchO_0 ?_)).1
     ·simp [Try.f91, F3]
     ·simp [F3]
    ·replace hF := ite_f h4 hF
     have h4_ := h4
     try simp at h4_
     by_cases h5 : v3 < 0
     ·replace hF := ite_t h5 hF
      have h5_ := h5
      try simp at h5_
      have F4 := And.intro h1 (And.intro h1_ (And.intro h2 (And.intro h2_ (And.intro h3 (And.intro h3_ (And.intro h4 (And.intro h4_ (And.intro h5 h5_))))))))
      try simp [F4]
      and_intros <;> first | exact g _ (by kernel_rfl) | refine r _ _ _ ?_ | omega | (simp [maxLen, F4] <;> omega)
      refine WK [(1, AV.ptr 0 0), (30, AV.bool true)] [(0, .cells [Iz v0, Iz v1, Iz v2, Iz v3])] 1 (by simp [F4]) (by simp [F4]) ?_
      refine CT (by simp [F4]) ?_
      refine SQ [] [none] fun _ _ g r => ?_
      try simp [F4]
      and_intros <;> first | exact g _ (by kernel_rfl) | refine r _ _ _ ?_ | omega | (simp [maxLen, F4] <;> omega)
      refine WK [(2, AV.bool false)] [] 1 (by simp [F4]) (by simp [F4]) ?_
      simp only [Option.some.injEq] at hF
      subst hF
      refine AW.ret (hQ _ _ _ ?_ (matchO_0 ?_)).1
      ·simp [Try.f91, F4]
      ·simp [F4]
     ·replace hF := ite_f h5 hF
      have h5_ := h5
      try simp at h5_
      have F5 := And.intro h1 (And.intro h1_ (And.intro h2 (And.intro h2_ (And.intro h3 (And.intro h3_ (And.intro h4 (And.intro h4_ (And.intro h5 h5_))))))))
      try simp [F5]
      and_intros <;> first | exact g _ (by kernel_rfl) | refine r _ _ _ ?_ | omega | (simp [maxLen, F5] <;> omega)
      refine WK [(1, AV.ptr 0 0), (30, AV.bool (decide (1 < v3)))] [(0, .cells [Iz v0, Iz v1, Iz v2, Iz v3])] 1 (by simp [F5]) (by simp [F5]) ?_
      by_cases h6 : 1 < v3
      ·replace hF := ite_t h6 hF
       have h6_ := h6
       try simp at h6_
       have F6 := And.intro F5 (And.intro h6 h6_)
       refine CT (by simp [F6] <;> omega) ?_
       refine SQ [] [none] fun _ _ g r => ?_
       try simp [F6]
       and_intros <;> first | exact g _ (by kernel_rfl) | refine r _ _ _ ?_ | omega | (simp [maxLen, F6] <;> omega)
       refine WK [(2, AV.bool false)] [] 1 (by simp [F6]) (by simp [F6]) ?_
       simp only [Option.some.injEq] at hF
       subst hF
       refine AW.ret (hQ _ _ _ ?_ (matchO_0 ?_)).1
       ·simp [Try.f91, F6]
       ·simp [F6]
      ·replace hF := ite_f h6 hF
       have h6_ := h6
       try simp at h6_
       have F7 := And.intro F5 (And.intro h6 h6_)
       refine CF (by simp [F7] <;> omega) ?_
       refine AW.skip ?_
       refine hK45 _ _ _ ?_
       refine AW.seq fun K62 hK62 => ?_
       refine SQ [] [none, none] fun _ _ g r => ?_
       try simp [F7]
       and_intros <;> first | exact g _ (by kernel_rfl) | refine r _ _ _ ?_ | omega | (simp [maxLen, F7] <;> omega)
       refine WK [(1, AV.ptr 0 0), (32, Iz v1)] [(0, .cells [Iz v0, Iz v1, Iz v2, Iz v3])] 1 (by simp [F7]) (by simp [F7]) ?_
       refine AW.block ?_
       refine SQ [] [none, none] fun _ _ g r => ?_
       try simp [F7]
       and_intros <;> first | exact g _ (by kernel_rfl) | refine r _ _ _ ?_ | omega | (simp [maxLen, F7] <;> omega)
       refine WK [(1, AV.ptr 0 0), (32, Iz v1), (33, AV.bool (v1 == 1))] [(0, .cells [Iz v0, Iz v1, Iz v2, Iz v3])] 1 (by simp [F7]) (by simp [F7]) ?_
       by_cases h7 : v1 = 1
       ·replace hF := ite_t h7 hF
        have h7q : v1 = 1 := h7
        have h7_ := eqb_t h7q
        have h7__ := neb_f h7q
        refine CT (by simp [F7, h7_, h7__, h7q] <;> omega) ?_
        refine SQ [] [none, none, none, none, some (38, true), some (38, true), some (38, true), none, none] fun _ _ g r => ?_
        by_cases h8 : v2 = 0
        ·replace hF := ite_t h8 hF
         have h8q : v2 = 0 := h8
         have h8_ := eqb_t h8q
         have h8__ := neb_f h8q
         have F8 := And.intro F7 (And.intro h7_ (And.intro h7__ (And.intro h7q (And.intro h8_ (And.intro h8__ h8q)))))
         try simp [F8]
         and_intros <;> first | exact g _ (by kernel_rfl) | refine r _ _ _ ?_ | omega | (simp [maxLen, F8] <;> omega)
         refine WK [(2, AV.bool (v3 == 0))] [] 1 (by simp [F8]) (by simp [F8]) ?_
         simp only [Option.some.injEq] at hF
         subst hF
         refine AW.ret (hQ _ _ _ ?_ (matchO_0 ?_)).1
         ·simp [Try.f91, F8]
         ·simp [F8]
        ·replace hF := ite_f h8 hF
         have h8_ := eqb_f h8
         have h8__ := neb_t h8
         have F9 := And.intro F7 (And.intro h7_ (And.intro h7__ (And.intro h7q (And.intro h8 (And.intro h8_ h8__)))))
         try simp [F9]
         and_intros <;> first | exact g _ (by kernel_rfl) | refine r _ _ _ ?_ | omega | (simp [maxLen, F9] <;> omega)
         refine WK [(2, AV.bool false)] [] 1 (by simp [F9]) (by simp [F9]) ?_
         simp only [Option.some.injEq] at hF
         subst hF
         refine AW.ret (hQ _ _ _ ?_ (matchO_0 ?_)).1
         ·simp [Try.f91, F9]
         ·simp [F9]
       ·replace hF := ite_f h7 hF
        have h7_ := eqb_f h7
        have h7__ := neb_t h7
        have F10 := And.intro F7 (And.intro h7 (And.intro h7_ h7__))
        refine CF (by simp [F10] <;> omega) ?_
        refine AW.midF (α := Bool) (fun v5 => ref23_Valid.J1 k v5 = some v4) (fun v5 => [(43, AV.bool v5)]) (fun v5 => []) 0 (fun K70 hK70 => ?_) ?_
        ·refine SQ [] [none, none] fun _ _ g r => ?_
         try simp [F10]
         and_intros <;> first | exact g _ (by kernel_rfl) | refine r _ _ _ ?_ | omega | (simp [maxLen, F10] <;> omega)
         refine WK [(32, Iz v1), (43, AV.bool (v1 == 2))] [] 1 (by simp [F10]) (by simp [F10]) ?_
         by_cases h10 : v1 = 2
         ·replace hF := ite_t h10 hF
          have h10q : v1 = 2 := h10
          have h10_ := eqb_t h10q
          have h10__ := neb_f h10q
          have F11 := And.intro F10 (And.intro h10_ (And.intro h10__ h10q))
          refine CT (by simp [F11] <;> omega) ?_
          refine AW.skip ?_
          refine hK70 _ _ _ ?_
          refine RN h0 [] [(43, AV.bool true)] [] 0 (by simp [F11]) (by simp [F11]) ?_
          exact JN (true) hF (by simp [F11]) (by simp [F11])
         ·replace hF := ite_f h10 hF
          have h10_ := eqb_f h10
          have h10__ := neb_t h10
          have F12 := And.intro F10 (And.intro h10 (And.intro h10_ h10__))
          refine CF (by simp [F12] <;> omega) ?_
          refine RG [] [none, none] fun _ _ g r => ?_
          try simp [F12]
          and_intros <;> first | exact g _ (by kernel_rfl) | refine r _ _ _ ?_ | omega | (simp [maxLen, F12] <;> omega)
          refine hK70 _ _ _ ?_
          refine RN h0 [] [(43, AV.bool (v1 == 3))] [] 0 (by simp [F12]) (by simp [F12]) ?_
          exact JN ((v1 == 3)) hF (by simp [F12]) (by simp [F12])
        ·rintro v5 hF
         try dsimp only at hF
         unfold ref23_Valid.J1 at hF
         by_cases h9 : v5 = true
         ·replace hF := ite_t h9 hF
          have h9_ := h9
          try simp at h9_
          have F13 := And.intro F10 (And.intro h9 h9_)
          refine CT (by simp [F13] <;> omega) ?_
          refine SQ [] [none] fun _ _ g r => ?_
          try simp [F13]
          and_intros <;> first | exact g _ (by kernel_rfl) | refine r _ _ _ ?_ | omega | (simp [maxLen, F13] <;> omega)
          refine WK [(2, AV.bool true)] [] 0 (by simp [F13]) (by simp [F13]) ?_
          simp only [Option.some.injEq] at hF
          subst hF
          refine AW.ret (hQ _ _ _ ?_ (matchO_0 ?_)).1
          ·simp [Try.f91, F13]
          ·simp [F13]
         ·replace hF := ite_f h9 hF
          have h9_ := h9
          try simp at h9_
          have F14 := And.intro F10 (And.intro h9 h9_)
          refine CF (by simp [F14] <;> omega) ?_
          refine AW.skip ?_
          refine hK62 _ _ _ ?_
          refine SQ [] [none] fun _ _ g r => ?_
          try simp [F14]
          and_intros <;> first | exact g _ (by kernel_rfl) | refine r _ _ _ ?_ | omega | (simp [maxLen, F14] <;> omega)
          refine WK [(2, AV.bool false)] [] 0 (by simp [F14]) (by simp [F14]) ?_
          simp only [Option.some.injEq] at hF
          subst hF
          refine AW.ret (hQ _ _ _ ?_ (matchO_0 ?_)).1
          ·simp [Try.f91, F14]
          ·simp [F14]
theorem w_ref25_number (k : Nat) (v0 : (List Int)) (v1 : Int) (v2 : (List Int)) (hF : ref25_number k v0 v1 = some v2) :
  FCall Try.prog 84 [AV.slc 0 0 1 v0.length false, AV.int .i64 v1] [.grow (List.map (AV.int .u8) v0)] (AV.slc 1 0 1 v2.length false) [none, some (.grow (List.map (AV.int .u8) v2))] := by
 unfold ref25_number at hF
 refine EN Try.func84 ?_
 intro c0 w0 Q h0 hQ
 refine WK [(0, AV.slc 0 0 1 v0.length false), (1, Iz v1)] [(0, .grow (List.map (AV.int .u8) v0))] 1 (by simp) (by simp) ?_
 refine SQ [] [none] fun _ _ g r => ?_
 try simp
 and_intros <;> first | exact g _ (by kernel_rfl) | refine r _ _ _ ?_ | omega | (simp [maxLen] <;> omega)
 refine WK [(0, AV.slc 0 0 1 v0.length false), (1, Iz v1)] [(0, .grow (List.map (AV.int .u8) v0))] 1 (by simp) (by simp) ?_
 refine SQ [] [none, none, none] fun _ _ g r => ?_
 try simp
 and_intros <;> first | exact g _ (by kernel_rfl) | refine r _ _ _ ?_ | omega | (simp [maxLen] <;> omega)
 refine WK [(0, AV.slc 0 0 1 v0.length false), (5, AV.int .u64 (IntKind.wrap .u64 v1))] [(0, .grow (List.map (AV.int .u8) v0))] 1 (by simp) (by simp) ?_
 refine AW.seq fun K97 hK97 => ?_
 refine SQ [] [none] fun _ _ g r => ?_
 try simp
 and_intros <;> first | exact g _ (by kernel_rfl) | refine r _ _ _ ?_ | omega | (simp [maxLen] <;> omega)
 refine WK [(0, AV.slc 0 0 1 v0.length false), (5, AV.int .u64 (IntKind.wrap .u64 v1)), (6, Iz 7)] [(0, .grow (List.map (AV.int .u8) v0))] 1 (by simp) (by simp) ?_
 refine AW.block ?_
 refine AW.rnm (m := 1) h0 [(1, 0)] [(0, AV.slc 1 0 1 v0.length false), (5, AV.int .u64 (IntKind.wrap .u64 v1)), (6, Iz 7)] [(1, .grow (List.map (AV.int .u8) v0))] 2 (by decide) (by decide) (by decide) rfl (by simp) (by simp) ?_
 refine AW.loopF (α := (Int × (List Int))) (fun n (v3, v4) => ref25_number.L1 k v1 n v3 v4 = some v2) (fun (v3, v4) => [(0, AV.slc 1 0 1 v4.length false), (5, AV.int .u64 (IntKind.wrap .u64 v1)), (6, Iz v3)]) (fun (v3, v4) => [(1, .grow (List.map (AV.int .u8) v4))]) 2 k ((7, v0)) hF (by simp) (by simp) (by simp) ?_
 rintro (_|n1) ⟨v3, v4⟩ hF K120 hK120
 ·try dsimp only at hF
  rw [ref25_number.L1] at hF; cases hF
 try dsimp only at hF
 rw [ref25_number.L1] at hF
 refine AW.seq fun K122 hK122 => ?_
 refine SQ [] [none, none] fun _ _ g r => ?_
 try simp
 and_intros <;> first | exact g _ (by kernel_rfl) | refine r _ _ _ ?_ | omega | (simp [maxLen] <;> omega)
 refine WK [(0, AV.slc 1 0 1 v4.length false), (5, AV.int .u64 (IntKind.wrap .u64 v1)), (6, Iz v3), (10, AV.bool (decide (0 ≤ v3)))] [(1, .grow (List.map (AV.int .u8) v4))] 2 (by simp) (by simp) ?_
 by_cases h1 : 0 ≤ v3
 ·replace hF := ite_t h1 hF
  have h1_ := h1
  try simp at h1_
  refine CT (by simp [h1, h1_] <;> omega) ?_
  refine AW.skip ?_
  refine hK122 _ _ _ ?_
  refine AW.seq fun K125 hK125 => ?_
  refine AW.block ?_
  refine RG [] [none, none, none, none, none, none, none, none, none, none] fun _ _ g r => ?_
  obtain ⟨h2, hF⟩ := chk_elim hF
  obtain ⟨h3, hF⟩ := chk_elim hF
  have h3_ := h3
  try simp at h3_
  have F1 := And.intro h1 (And.intro h1_ (And.intro h2 h3))
  try simp [F1]
  and_intros <;> first | exact g _ (by kernel_rfl) | refine r _ _ _ ?_ | omega | (simp [maxLen, F1] <;> omega)
  refine hK125 _ _ _ ?_
  refine WK [(0, AV.slc 2 0 1 ((v4 ++ ([IntKind.wrap .u8 (Int.fdiv (IntKind.wrap .u64 v1) (2 ^ (min ((IntKind.wrap .u64 (IntKind.wrap .i64 (8 * v3))).toNat) 64)))] : List Int)).length) false), (5, AV.int .u64 (IntKind.wrap .u64 v1)), (6, Iz v3)] [(2, .grow (List.map (AV.int .u8) (v4 ++ ([IntKind.wrap .u8 (Int.fdiv (IntKind.wrap .u64 v1) (2 ^ (min ((IntKind.wrap .u64 (IntKind.wrap .i64 (8 * v3))).toNat) 64)))] : List Int))))] 3 (by simp [F1] <;> omega) (by simp [F1]) ?_
  refine RG [] [none, none, none] fun _ _ g r => ?_
  try simp [F1]
  and_intros <;> first | exact g _ (by kernel_rfl) | refine r _ _ _ ?_ | omega | (simp [maxLen, F1] <;> omega)
  refine hK120 _ _ _ ?_
  refine Can.weak [(0, AV.slc 2 0 1 ((v4 ++ ([IntKind.wrap .u8 (Int.fdiv (IntKind.wrap .u64 v1) (2 ^ (min ((IntKind.wrap .u64 (IntKind.wrap .i64 (8 * v3))).toNat) 64)))] : List Int)).length) false), (5, AV.int .u64 (IntKind.wrap .u64 v1)), (6, Iz (IntKind.wrap .i64 (v3 - 1)))] [(2, .grow (List.map (AV.int .u8) (v4 ++ ([IntKind.wrap .u8 (Int.fdiv (IntKind.wrap .u64 v1) (2 ^ (min ((IntKind.wrap .u64 (IntKind.wrap .i64 (8 * v3))).toNat) 64)))] : List Int))))] 3 (by simp [F1] <;> omega) (by simp [F1]) (by simp) ?_
  refine Can.ren (m := 1) h0 [(1, 2)] [(0, AV.slc 1 0 1 ((v4 ++ ([IntKind.wrap .u8 (Int.fdiv (IntKind.wrap .u64 v1) (2 ^ (min ((IntKind.wrap .u64 (IntKind.wrap .i64 (8 * v3))).toNat) 64)))] : List Int)).length) false), (5, AV.int .u64 (IntKind.wrap .u64 v1)), (6, Iz (IntKind.wrap .i64 (v3 - 1)))] [(1, .grow (List.map (AV.int .u8) (v4 ++ ([IntKind.wrap .u8 (Int.fdiv (IntKind.wrap .u64 v1) (2 ^ (min ((IntKind.wrap .u64 (IntKind.wrap .i64 (8 * v3))).toNat) 64)))] : List Int))))] 2 (by decide) (by decide) (by decide) rfl (by simp [F1]) (by simp [F1]) ?_
  exact NX (k' := n1) ((IntKind.wrap .i64 (v3 - 1), v4 ++ ([IntKind.wrap .u8 (Int.fdiv (IntKind.wrap .u64 v1) (2 ^ (min ((IntKind.wrap .u64 (IntKind.wrap .i64 (8 * v3))).toNat) 64)))] : List Int))) hF (by simp [F1]) (by simp [F1])
 ·replace hF := ite_f h1 hF
  have h1_ := h1
  try simp at h1_
  refine CF (by simp [h1, h1_] <;> omega) ?_
  refine AW.exit ?_
  try simp
  refine hK97 _ _ _ ?_
  refine SQ [] [none, none] fun _ _ g r => ?_
  try simp [h1, h1_]
  and_intros <;> first | exact g _ (by kernel_rfl) | refine r _ _ _ ?_ | omega | (simp [h1, h1_, maxLen] <;> omega)
  refine WK [(4, AV.slc 1 0 1 v4.length false)] [(1, .grow (List.map (AV.int .u8) v4))] 2 (by simp [h1, h1_]) (by simp [h1, h1_]) ?_
  simp only [Option.some.injEq] at hF
  subst hF
  refine AW.ret (hQ _ _ _ ?_ (matchO_0 ?_)).1
  ·simp [Try.f84, h1, h1_]
  ·simp [h1, h1_]
theorem w_ref25_list (k : Nat) (v0 : (List Int)) (v1 : (List Int)) (v2 : (List Int)) (hF : ref25_list k v0 v1 = some v2) :
  FCall Try.prog 83 [AV.slc 0 0 1 v0.length false, AV.lst false false (List.map (AV.int .i64) v1)] [.grow (List.map (AV.int .u8) v0)] (AV.slc 1 0 1 v2.length false) [none, some (.grow (List.map (AV.int .u8) v2))] := by
 unfold ref25_list at hF
 refine EN Try.func83 ?_
 intro c0 w0 Q h0 hQ
 refine WK [(0, AV.slc 0 0 1 v0.length false), (1, Lz v1)] [(0, .grow (List.map (AV.int .u8) v0))] 1 (by simp) (by simp) ?_
 refine SQ [] [none] fun _ _ g r => ?_
 try simp
 and_intros <;> first | exact g _ (by kernel_rfl) | refine r _ _ _ ?_ | omega | (simp [maxLen] <;> omega)
 refine WK [(0, AV.slc 0 0 1 v0.length false), (1, Lz v1)] [(0, .grow (List.map (AV.int .u8) v0))] 1 (by simp) (by simp) ?_
 refine SQ [] [none, none, none, none, none] fun _ _ g r => ?_
 try simp
 and_intros
 try any_goals first | omega | (simp [maxLen] <;> omega)
 obtain ⟨v3, h1, hF⟩ := bnd1_elim hF
 refine aCall_l (w_ref25_number k _ _ _ h1) (by simp) [0] [] [0] rfl (.cons (.same (by simp)) (.cons (.same (by simp)) .nil)) (by simp) (by decide) (by simp) (by simp) (.inl rfl) (by simp) (by simp) ?_
 try simp
 and_intros <;> first | exact g _ (by kernel_rfl) | refine r _ _ _ ?_ | omega | (simp [maxLen] <;> omega)
 refine WK [(0, AV.slc 1 0 1 v3.length false), (1, Lz v1)] [(1, .grow (List.map (AV.int .u8) v3))] 2 (by simp) (by simp) ?_
 refine AW.seq fun K97 hK97 => ?_
 refine SQ [] [none] fun _ _ g r => ?_
 try simp
 and_intros <;> first | exact g _ (by kernel_rfl) | refine r _ _ _ ?_ | omega | (simp [maxLen] <;> omega)
 refine WK [(0, AV.slc 1 0 1 v3.length false), (1, Lz v1), (5, Iz 0)] [(1, .grow (List.map (AV.int .u8) v3))] 2 (by simp) (by simp) ?_
 refine AW.block ?_
 refine AW.loopF (α := (Int × (List Int))) (fun n (v4, v5) => ref25_list.L1 k v1 n v4 v5 = some v2) (fun (v4, v5) => [(0, AV.slc 1 0 1 v5.length false), (1, Lz v1), (5, Iz v4)]) (fun (v4, v5) => [(1, .grow (List.map (AV.int .u8) v5))]) 2 k ((0, v3)) hF (by simp) (by simp) (by simp) ?_
 rintro (_|n1) ⟨v4, v5⟩ hF K120 hK120
 ·try dsimp only at hF
  rw [ref25_list.L1] at hF; cases hF
 try dsimp only at hF
 rw [ref25_list.L1] at hF
 refine AW.seq fun K122 hK122 => ?_
 refine SQ [] [none, none, none, none] fun _ _ g r => ?_
 try simp
 and_intros <;> first | exact g _ (by kernel_rfl) | refine r _ _ _ ?_ | omega | (simp [maxLen] <;> omega)
 refine WK [(0, AV.slc 1 0 1 v5.length false), (1, Lz v1), (5, Iz v4), (13, AV.bool (decide (v4 < (v1.length : Int))))] [(1, .grow (List.map (AV.int .u8) v5))] 2 (by simp) (by simp) ?_
 by_cases h2 : v4 < (v1.length : Int)
 ·replace hF := ite_t h2 hF
  have h2_ := h2
  try simp at h2_
  refine CT (by simp [h2, h2_] <;> omega) ?_
  refine AW.skip ?_
  refine hK122 _ _ _ ?_
  refine AW.seq fun K125 hK125 => ?_
  refine AW.block ?_
  refine RG [] [none, none, none, none, none, none, none] fun _ _ g r => ?_
  obtain ⟨v6, h3, h4, h5, hF⟩ := idx_elim hF
  have h5_ := get_of h5
  try simp at h5_
  have h4_ := h4
  try simp at h4_
  have F1 := And.intro h2 (And.intro h2_ (And.intro h3 (And.intro h4 (And.intro h5 (And.intro h5_ h4_)))))
  try simp [F1]
  and_intros
  try any_goals first | omega | (simp [maxLen, F1] <;> omega)
  obtain ⟨v7, h6, hF⟩ := bnd1_elim hF
  refine aCall_l (w_ref25_number k _ _ _ h6) (by simp) [1] [] [1] rfl (.cons (.same (by simp [F1])) (.cons (.same (by simp [F1])) .nil)) (by simp [F1]) (by decide) (by simp) (by simp) (.inl rfl) (by simp) (by simp) ?_
  try simp [F1]
  and_intros <;> first | exact g _ (by kernel_rfl) | refine r _ _ _ ?_ | omega | (simp [maxLen, F1] <;> omega)
  refine hK125 _ _ _ ?_
  refine WK [(0, AV.slc 2 0 1 v7.length false), (1, Lz v1), (5, Iz v4)] [(2, .grow (List.map (AV.int .u8) v7))] 3 (by simp [F1]) (by simp [F1]) ?_
  refine RG [] [none, none, none] fun _ _ g r => ?_
  try simp [F1]
  and_intros <;> first | exact g _ (by kernel_rfl) | refine r _ _ _ ?_ | omega | (simp [maxLen, F1] <;> omega)
  refine hK120 _ _ _ ?_
  refine Can.weak [(0, AV.slc 2 0 1 v7.length false), (1, Lz v1), (5, Iz (IntKind.wrap .i64 (v4 + 1)))] [(2, .grow (List.map (AV.int .u8) v7))] 3 (by simp [F1]) (by simp [F1]) (by simp) ?_
  refine Can.ren (m := 1) h0 [(1, 2)] [(0, AV.slc 1 0 1 v7.length false), (1, Lz v1), (5, Iz (IntKind.wrap .i64 (v4 + 1)))] [(1, .grow (List.map (AV.int .u8) v7))] 2 (by decide) (by decide) (by decide) rfl (by simp [F1]) (by simp [F1]) ?_
  exact NX (k' := n1) ((IntKind.wrap .i64 (v4 + 1), v7)) hF (by simp [F1]) (by simp [F1])
 ·replace hF := ite_f h2 hF
  have h2_ := h2
  try simp at h2_
  refine CF (by simp [h2, h2_] <;> omega) ?_
  refine AW.exit ?_
  try simp
  refine hK97 _ _ _ ?_
  refine SQ [] [none, none] fun _ _ g r => ?_
  try simp [h2, h2_]
  and_intros <;> first | exact g _ (by kernel_rfl) | refine r _ _ _ ?_ | omega | (simp [h2, h2_, maxLen] <;> omega)
  refine WK [(4, AV.slc 1 0 1 v5.length false)] [(1, .grow (List.map (AV.int .u8) v5))] 2 (by simp [h2, h2_]) (by simp [h2, h2_]) ?_
  simp only [Option.some.injEq] at hF
  subst hF
  refine AW.ret (hQ _ _ _ ?_ (matchO_0 ?_)).1
  ·simp [Try.f83, h2, h2_]
  ·simp [h2, h2_]
theorem w_ref01_constants (k : Nat) (v0 : (List Int)) (hF : ref01_constants k = some v0) :
  FCall Try.prog 60 [] [] (AV.lst false false (List.map (AV.int .u32) v0)) [] := by
 unfold ref01_constants at hF
 refine EN Try.func60 ?_
 intro c0 w0 Q h0 hQ
 refine WK [] [] 0 (by simp) (by simp) ?_
 refine SQ [] [none] fun _ _ g r => ?_
 try simp
 and_intros <;> first | exact g _ (by kernel_rfl) | refine r _ _ _ ?_ | omega | (simp [maxLen] <;> omega)
 refine WK [] [] 0 (by simp) (by simp) ?_
 refine SQ [] [none, none] fun _ _ g r => ?_
 try simp
 and_intros <;> first | exact g _ (by kernel_rfl) | refine r _ _ _ ?_ | omega | (simp [maxLen] <;> omega)
 refine WK [(0, AV.lst false true (List.map (AV.int .u32) ([1116352408, 1899447441, 3049323471, 3921009573, 961987163, 1508970993, 2453635748, 2870763221, 3624381080, 310598401, 607225278, 1426881987, 1925078388, 2162078206, 2614888103, 3248222580, 3835390401, 4022224774, 264347078, 604807628, 770255983, 1249150122, 1555081692, 1996064986, 2554220882, 2821834349, 2952996808, 3210313671, 3336571891, 3584528711, 113926993, 338241895, 666307205, 773529912, 1294757372, 1396182291, 1695183700, 1986661051, 2177026350, 2456956037, 2730485921, 2820302411, 3259730800, 3345764771, 3516065817, 3600352804, 4094571909, 275423344, 430227734, 506948616, 659060556, 883997877, 958139571, 1322822218, 1537002063, 1747873779, 1955562222, 2024104815, 2227730452, 2361852424, 2428436474, 2756734187, 3204031479, 3329325298] : List Int)))] [] 0 (by simp) (by simp) ?_
 refine AW.flg [(0, Lw ([1116352408, 1899447441, 3049323471, 3921009573, 961987163, 1508970993, 2453635748, 2870763221, 3624381080, 310598401, 607225278, 1426881987, 1925078388, 2162078206, 2614888103, 3248222580, 3835390401, 4022224774, 264347078, 604807628, 770255983, 1249150122, 1555081692, 1996064986, 2554220882, 2821834349, 2952996808, 3210313671, 3336571891, 3584528711, 113926993, 338241895, 666307205, 773529912, 1294757372, 1396182291, 1695183700, 1986661051, 2177026350, 2456956037, 2730485921, 2820302411, 3259730800, 3345764771, 3516065817, 3600352804, 4094571909, 275423344, 430227734, 506948616, 659060556, 883997877, 958139571, 1322822218, 1537002063, 1747873779, 1955562222, 2024104815, 2227730452, 2361852424, 2428436474, 2756734187, 3204031479, 3329325298] : List Int))] [] ⟨(.lst (by simp)), trivial⟩ trivial (by simp) ?_
 simp only [Option.some.injEq] at hF
 subst hF
 refine AW.ret (hQ _ _ _ ?_ (matchO_0 ?_)).1
 ·simp [Try.f60]
 ·simp
theorem w_ref01_turn (k : Nat) (v0 : Int) (v1 : Int) (v2 : Int) (hF : ref01_turn k v0 v1 = some v2) :
  FCall Try.prog 95 [AV.int .u32 v0, AV.int .u64 v1] [] (AV.int .u32 v2) [] := by
 unfold ref01_turn at hF
 refine EN Try.func95 ?_
 intro c0 w0 Q h0 hQ
 refine WK [(0, AV.int .u32 v0), (1, AV.int .u64 v1)] [] 0 (by simp) (by simp) ?_
 refine SQ [] [none] fun _ _ g r => ?_
 try simp
 and_intros <;> first | exact g _ (by kernel_rfl) | refine r _ _ _ ?_ | omega | (simp [maxLen] <;> omega)
 refine WK [(0, AV.int .u32 v0), (1, AV.int .u64 v1)] [] 0 (by simp) (by simp) ?_
 refine SQ [] [none, none, none, none, none, none, none, none, none] fun _ _ g r => ?_
 obtain ⟨h1, hF⟩ := chk_elim hF
 obtain ⟨h2, hF⟩ := chk_elim hF
 try simp [h1, h2]
 and_intros <;> first | exact g _ (by kernel_rfl) | refine r _ _ _ ?_ | omega | (simp [h1, h2, maxLen] <;> omega)
 refine WK [(4, AV.int .u32 (bitsV .or .u32 (Int.fdiv v0 (2 ^ (min v1.toNat 32))) (IntKind.wrap .u32 (v0 * 2 ^ (min ((IntKind.wrap .u64 (32 - v1)).toNat) 32)))))] [] 0 (by simp [h1, h2]) (by simp [h1, h2]) ?_
 simp only [Option.some.injEq] at hF
 subst hF
 refine AW.ret (hQ _ _ _ ?_ (matchO_0 ?_)).1
 ·simp [Try.f95, h1, h2]
 ·simp [h1, h2]
theorem w_ref01_block (k : Nat) (v0 : (List Int)) (v1 : (List Int)) (v2 : (List Int)) (v3 : (List Int)) (hF : ref01_block k v0 v1 v2 = some v3) :
  FCall Try.prog 61 [AV.lst false false (List.map (AV.int .u32) v0), AV.lst false false (List.map (AV.int .u8) v1), AV.lst false false (List.map (AV.int .u32) v2)] [] (AV.slc 0 0 1 v3.length false) [some (.grow (List.map (AV.int .u32) v3))] := by
 unfold ref01_block at hF
 refine EN Try.func61 ?_
 intro c0 w0 Q h0 hQ
 refine WK [(0, Lw v0), (1, Lb v1), (2, Lw v2)] [] 0 (by simp [-List.reduceReplicate, sOf_set, ofI_set, allU8_set]) (by simp [-List.reduceReplicate, sOf_set, ofI_set, allU8_set]) ?_
 refine SQ [] [none] fun _ _ g r => ?_
 try simp [-List.reduceReplicate, sOf_set, ofI_set, allU8_set]
 and_intros <;> first | exact g _ (by kernel_rfl) | refine r _ _ _ ?_ | omega | (simp [-List.reduceReplicate, sOf_set, ofI_set, allU8_set, maxLen] <;> omega)
 refine WK [(0, Lw v0), (1, Lb v1), (2, Lw v2)] [] 0 (by simp [-List.reduceReplicate, sOf_set, ofI_set, allU8_set]) (by simp [-List.reduceReplicate, sOf_set, ofI_set, allU8_set]) ?_
 refine SQ [19] [none, none] fun _ _ g r => ?_
 obtain ⟨h1, hF⟩ := chk_elim hF
 obtain ⟨v4, h2, hF⟩ := let1_elim hF
 have h2l : v4.length = 64 := by rw [← h2]; exact List.length_replicate
 have h2m : List.replicate 64 (AV.int .u32 0) = List.map (AV.int .u32) v4 := by rw [← h2]; exact (List.map_replicate ..).symm
 have h2n := ne_of_len h2l (by decide)
 have F1 := And.intro h1 (And.intro h2l (And.intro h2m h2n))
 try simp [-List.reduceReplicate, sOf_set, ofI_set, allU8_set, F1]
 and_intros <;> first | exact g _ (by kernel_rfl) | refine r _ _ _ ?_ | omega | (simp [-List.reduceReplicate, sOf_set, ofI_set, allU8_set, maxLen, F1] <;> omega)
 refine WK [(0, Lw v0), (1, Lb v1), (2, Lw v2), (7, AV.slc 0 0 1 v4.length true)] [(0, .cells (List.map (AV.int .u32) v4))] 1 (by simp [-List.reduceReplicate, sOf_set, ofI_set, allU8_set, F1]) (by simp [-List.reduceReplicate, sOf_set, ofI_set, allU8_set, F1]) ?_
 refine AW.seq fun K393 hK393 => ?_
 refine SQ [] [none] fun _ _ g r => ?_
 try simp [-List.reduceReplicate, sOf_set, ofI_set, allU8_set, F1]
 and_intros <;> first | exact g _ (by kernel_rfl) | refine r _ _ _ ?_ | omega | (simp [-List.reduceReplicate, sOf_set, ofI_set, allU8_set, maxLen, F1] <;> omega)
 refine WK [(0, Lw v0), (1, Lb v1), (2, Lw v2), (7, AV.slc 0 0 1 v4.length true), (8, Iz 0)] [(0, .cells (List.map (AV.int .u32) v4))] 1 (by simp [-List.reduceReplicate, sOf_set, ofI_set, allU8_set, F1]) (by simp [-List.reduceReplicate, sOf_set, ofI_set, allU8_set, F1]) ?_
 refine AW.block ?_
 refine AW.loopF (α := (Int × (List Int))) (fun n (v5, v6) => ref01_block.L1 k v0 v1 v2 n v5 v6 = some v3) (fun (v5, v6) => [(0, Lw v0), (1, Lb v1), (2, Lw v2), (7, AV.slc 0 0 1 v6.length true), (8, Iz v5)]) (fun (v5, v6) => [(0, .cells (List.map (AV.int .u32) v6))]) 1 k ((0, v4)) hF (by simp [-List.reduceReplicate, sOf_set, ofI_set, allU8_set, F1]) (by simp [-List.reduceReplicate, sOf_set, ofI_set, allU8_set, F1]) (by simp) ?_
 rintro (_|n1) ⟨v5, v6⟩ hF K416 hK416
 ·try dsimp only at hF
  rw [ref01_block.L1] at hF; cases hF
 try dsimp only at hF
 rw [ref01_block.L1] at hF
 refine AW.seq fun K418 hK418 => ?_
 refine SQ [] [none, none] fun _ _ g r => ?_
 try simp [-List.reduceReplicate, sOf_set, ofI_set, allU8_set, F1]
 and_intros <;> first | exact g _ (by kernel_rfl) | refine r _ _ _ ?_ | omega | (simp [-List.reduceReplicate, sOf_set, ofI_set, allU8_set, maxLen, F1] <;> omega)
 refine WK [(0, Lw v0), (1, Lb v1), (2, Lw v2), (7, AV.slc 0 0 1 v6.length true), (8, Iz v5), (21, AV.bool (decide (v5 < 16)))] [(0, .cells (List.map (AV.int .u32) v6))] 1 (by simp [-List.reduceReplicate, sOf_set, ofI_set, allU8_set, F1]) (by simp [-List.reduceReplicate, sOf_set, ofI_set, allU8_set, F1]) ?_
 by_cases h3 : v5 < 16
 ·replace hF := ite_t h3 hF
  have h3_ := h3
  try simp [-List.reduceReplicate] at h3_
  have F2 := And.intro F1 (And.intro h3 h3_)
  refine CT (by simp [-List.reduceReplicate, sOf_set, ofI_set, allU8_set, F2] <;> omega) ?_
  refine AW.skip ?_
  refine hK418 _ _ _ ?_
  refine AW.seq fun K421 hK421 => ?_
  refine AW.block ?_
  refine RG [] [none, none, none, none, none, none, none, none, none, none, none, none, none, none, none, none, none, none, none, none, none, none, none, none, none, none, none, none, none, none, none, none, none, none, none, none, none] fun _ _ g r => ?_
  obtain ⟨v7, h4, h5, h6, hF⟩ := idx_elim hF
  have h6_ := get_of h6
  try simp [-List.reduceReplicate] at h6_
  have h5_ := h5
  try simp [-List.reduceReplicate] at h5_
  obtain ⟨v8, h7, h8, h9, hF⟩ := idx_elim hF
  have h9_ := get_of h9
  try simp [-List.reduceReplicate] at h9_
  have h8_ := h8
  try simp [-List.reduceReplicate] at h8_
  obtain ⟨v9, h10, h11, h12, hF⟩ := idx_elim hF
  have h12_ := get_of h12
  try simp [-List.reduceReplicate] at h12_
  have h11_ := h11
  try simp [-List.reduceReplicate] at h11_
  obtain ⟨v10, h13, h14, h15, hF⟩ := idx_elim hF
  have h15_ := get_of h15
  try simp [-List.reduceReplicate] at h15_
  have h14_ := h14
  try simp [-List.reduceReplicate] at h14_
  obtain ⟨⟨h16, h17⟩, hF⟩ := chk_elim hF
  have h17_ := ne_of_lt h17
  have F3 := And.intro F2 (And.intro h4 (And.intro h5 (And.intro h6 (And.intro h6_ (And.intro h5_ (And.intro h7 (And.intro h8 (And.intro h9 (And.intro h9_ (And.intro h8_ (And.intro h10 (And.intro h11 (And.intro h12 (And.intro h12_ (And.intro h11_ (And.intro h13 (And.intro h14 (And.intro h15 (And.intro h15_ (And.intro h14_ (And.intro h16 (And.intro h17 h17_))))))))))))))))))))))
  try simp [-List.reduceReplicate, sOf_set, ofI_set, allU8_set, F3]
  and_intros <;> first | exact g _ (by kernel_rfl) | refine r _ _ _ ?_ | omega | (simp [-List.reduceReplicate, sOf_set, ofI_set, allU8_set, maxLen, F3] <;> omega)
  refine hK421 _ _ _ ?_
  refine WK [(0, Lw v0), (1, Lb v1), (2, Lw v2), (7, AV.slc 0 0 1 ((v6.set (v5).toNat (bitsV .or .u32 (bitsV .or .u32 (bitsV .or .u32 (IntKind.wrap .u32 ((IntKind.wrap .u32 v7) * 2 ^ (24))) (IntKind.wrap .u32 ((IntKind.wrap .u32 v8) * 2 ^ (16)))) (IntKind.wrap .u32 ((IntKind.wrap .u32 v9) * 2 ^ (8)))) (IntKind.wrap .u32 v10))).length) true), (8, Iz v5)] [(0, .cells (List.map (AV.int .u32) (v6.set (v5).toNat (bitsV .or .u32 (bitsV .or .u32 (bitsV .or .u32 (IntKind.wrap .u32 ((IntKind.wrap .u32 v7) * 2 ^ (24))) (IntKind.wrap .u32 ((IntKind.wrap .u32 v8) * 2 ^ (16)))) (IntKind.wrap .u32 ((IntKind.wrap .u32 v9) * 2 ^ (8)))) (IntKind.wrap .u32 v10)))))] 1 (by simp [-List.reduceReplicate, sOf_set, ofI_set, allU8_set, F3]) (by simp [-List.reduceReplicate, sOf_set, ofI_set, allU8_set, F3]) ?_
  refine RG [] [none, none, none] fun _ _ g r => ?_
  try simp [-List.reduceReplicate, sOf_set, ofI_set, allU8_set, F3]
  and_intros <;> first | exact g _ (by kernel_rfl) | refine r _ _ _ ?_ | omega | (simp [-List.reduceReplicate, sOf_set, ofI_set, allU8_set, maxLen, F3] <;> omega)
  refine hK416 _ _ _ ?_
  exact NX (k' := n1) ((IntKind.wrap .i64 (v5 + 1), v6.set (v5).toNat (bitsV .or .u32 (bitsV .or .u32 (bitsV .or .u32 (IntKind.wrap .u32 ((IntKind.wrap .u32 v7) * 2 ^ (24))) (IntKind.wrap .u32 ((IntKind.wrap .u32 v8) * 2 ^ (16)))) (IntKind.wrap .u32 ((IntKind.wrap .u32 v9) * 2 ^ (8)))) (IntKind.wrap .u32 v10)))) hF (by simp [-List.reduceReplicate, sOf_set, ofI_set, allU8_set, F3]) (by simp [-List.reduceReplicate, sOf_set, ofI_set, allU8_set, F3])
 ·replace hF := ite_f h3 hF
  have h3_ := h3
  try simp [-List.reduceReplicate] at h3_
  have F4 := And.intro F1 (And.intro h3 h3_)
  refine CF (by simp [-List.reduceReplicate, sOf_set, ofI_set, allU8_set, F4] <;> omega) ?_
  refine AW.exit ?_
  try simp [-List.reduceReplicate]
  refine hK393 _ _ _ ?_
  refine AW.seq fun K470 hK470 => ?_
  refine SQ [] [none] fun _ _ g r => ?_
  try simp [-List.reduceReplicate, sOf_set, ofI_set, allU8_set, F4]
  and_intros <;> first | exact g _ (by kernel_rfl) | refine r _ _ _ ?_ | omega | (simp [-List.reduceReplicate, sOf_set, ofI_set, allU8_set, maxLen, F4] <;> omega)
  refine WK [(0, Lw v0), (2, Lw v2), (7, AV.slc 0 0 1 v6.length true), (9, Iz 16)] [(0, .cells (List.map (AV.int .u32) v6))] 1 (by simp [-List.reduceReplicate, sOf_set, ofI_set, allU8_set, F4]) (by simp [-List.reduceReplicate, sOf_set, ofI_set, allU8_set, F4]) ?_
  refine AW.block ?_
  refine AW.loopF (α := (Int × (List Int))) (fun n (v11, v12) => ref01_block.L2 k v0 v2 n v11 v12 = some v3) (fun (v11, v12) => [(0, Lw v0), (2, Lw v2), (7, AV.slc 0 0 1 v12.length true), (9, Iz v11)]) (fun (v11, v12) => [(0, .cells (List.map (AV.int .u32) v12))]) 1 k ((16, v6)) hF (by simp [-List.reduceReplicate, sOf_set, ofI_set, allU8_set, F4]) (by simp [-List.reduceReplicate, sOf_set, ofI_set, allU8_set, F4]) (by simp) ?_
  rintro (_|n2) ⟨v11, v12⟩ hF K505 hK505
  ·try dsimp only at hF
   rw [ref01_block.L2] at hF; cases hF
  try dsimp only at hF
  rw [ref01_block.L2] at hF
  refine AW.seq fun K507 hK507 => ?_
  refine SQ [] [none, none] fun _ _ g r => ?_
  try simp [-List.reduceReplicate, sOf_set, ofI_set, allU8_set, F4]
  and_intros <;> first | exact g _ (by kernel_rfl) | refine r _ _ _ ?_ | omega | (simp [-List.reduceReplicate, sOf_set, ofI_set, allU8_set, maxLen, F4] <;> omega)
  refine WK [(0, Lw v0), (2, Lw v2), (7, AV.slc 0 0 1 v12.length true), (9, Iz v11), (61, AV.bool (decide (v11 < 64)))] [(0, .cells (List.map (AV.int .u32) v12))] 1 (by simp [-List.reduceReplicate, sOf_set, ofI_set, allU8_set, F4]) (by simp [-List.reduceReplicate, sOf_set, ofI_set, allU8_set, F4]) ?_
  by_cases h18 : v11 < 64
  ·replace hF := ite_t h18 hF
   have h18_ := h18
   try simp [-List.reduceReplicate] at h18_
   have F5 := And.intro F4 (And.intro h18 h18_)
   refine CT (by simp [-List.reduceReplicate, sOf_set, ofI_set, allU8_set, F5] <;> omega) ?_
   refine AW.skip ?_
   refine hK507 _ _ _ ?_
   refine AW.seq fun K512 hK512 => ?_
   refine AW.block ?_
   refine SQ [] [none, none, none, none, none, none, none, none, none, none, none, none, none, none, none, none, none, none, none, none, none] fun _ _ g r => ?_
   obtain ⟨⟨h19, h20⟩, hF⟩ := chk_elim hF
   have h20_ := ne_of_lt h20
   obtain ⟨v13, h21, h22, h23, hF⟩ := idx_elim hF
   have h23_ := get_of h23
   try simp [-List.reduceReplicate] at h23_
   have h22_ := h22
   try simp [-List.reduceReplicate] at h22_
   have F6 := And.intro F5 (And.intro h19 (And.intro h20 (And.intro h20_ (And.intro h21 (And.intro h22 (And.intro h23 (And.intro h23_ h22_)))))))
   try simp [-List.reduceReplicate, sOf_set, ofI_set, allU8_set, F6]
   and_intros
   try any_goals first | omega | (simp [-List.reduceReplicate, sOf_set, ofI_set, allU8_set, maxLen, F6] <;> omega)
   obtain ⟨v14, h24, hF⟩ := bnd1_elim hF
   refine AC (w_ref01_turn k _ _ _ h24) (.cons (.same (by simp [-List.reduceReplicate, sOf_set, ofI_set, allU8_set, F6])) (.cons (.same (by simp [-List.reduceReplicate, sOf_set, ofI_set, allU8_set, F6])) .nil)) ?_
   obtain ⟨⟨h25, h26⟩, hF⟩ := chk_elim hF
   have h26_ := ne_of_lt h26
   have F7 := And.intro F6 (And.intro h25 (And.intro h26 h26_))
   try simp [-List.reduceReplicate, sOf_set, ofI_set, allU8_set, F7]
   and_intros
   try any_goals first | omega | (simp [-List.reduceReplicate, sOf_set, ofI_set, allU8_set, maxLen, F7] <;> omega)
   obtain ⟨v15, h27, hF⟩ := bnd1_elim hF
   refine AC (w_ref01_turn k _ _ _ h27) (.cons (.same (by simp [-List.reduceReplicate, sOf_set, ofI_set, allU8_set, F7])) (.cons (.same (by simp [-List.reduceReplicate, sOf_set, ofI_set, allU8_set, F7])) .nil)) ?_
   obtain ⟨⟨h28, h29⟩, hF⟩ := chk_elim hF
   have h29_ := ne_of_lt h29
   have F8 := And.intro F7 (And.intro h28 (And.intro h29 h29_))
   try simp [-List.reduceReplicate, sOf_set, ofI_set, allU8_set, F8]
   and_intros <;> first | exact g _ (by kernel_rfl) | refine r _ _ _ ?_ | omega | (simp [-List.reduceReplicate, sOf_set, ofI_set, allU8_set, maxLen, F8] <;> omega)
   refine WK [(0, Lw v0), (2, Lw v2), (7, AV.slc 0 0 1 v12.length true), (9, Iz v11), (10, AV.int .u32 (bitsV .xor .u32 (bitsV .xor .u32 v14 v15) (Int.fdiv v13 (2 ^ (3)))))] [(0, .cells (List.map (AV.int .u32) v12))] 1 (by simp [-List.reduceReplicate, sOf_set, ofI_set, allU8_set, F8]) (by simp [-List.reduceReplicate, sOf_set, ofI_set, allU8_set, F8]) ?_
   refine SQ [] [none, none, none, none, none, none, none, none, none, none, none, none, none, none, none, none, none, none, none, none, none] fun _ _ g r => ?_
   obtain ⟨⟨h30, h31⟩, hF⟩ := chk_elim hF
   have h31_ := ne_of_lt h31
   obtain ⟨v16, h32, h33, h34, hF⟩ := idx_elim hF
   have h34_ := get_of h34
   try simp [-List.reduceReplicate] at h34_
   have h33_ := h33
   try simp [-List.reduceReplicate] at h33_
   have F9 := And.intro F8 (And.intro h30 (And.intro h31 (And.intro h31_ (And.intro h32 (And.intro h33 (And.intro h34 (And.intro h34_ h33_)))))))
   try simp [-List.reduceReplicate, sOf_set, ofI_set, allU8_set, F9]
   and_intros
   try any_goals first | omega | (simp [-List.reduceReplicate, sOf_set, ofI_set, allU8_set, maxLen, F9] <;> omega)
   obtain ⟨v17, h35, hF⟩ := bnd1_elim hF
   refine AC (w_ref01_turn k _ _ _ h35) (.cons (.same (by simp [-List.reduceReplicate, sOf_set, ofI_set, allU8_set, F9])) (.cons (.same (by simp [-List.reduceReplicate, sOf_set, ofI_set, allU8_set, F9])) .nil)) ?_
   obtain ⟨⟨h36, h37⟩, hF⟩ := chk_elim hF
   have h37_ := ne_of_lt h37
   have F10 := And.intro F9 (And.intro h36 (And.intro h37 h37_))
   try simp [-List.reduceReplicate, sOf_set, ofI_set, allU8_set, F10]
   and_intros
   try any_goals first | omega | (simp [-List.reduceReplicate, sOf_set, ofI_set, allU8_set, maxLen, F10] <;> omega)
   obtain ⟨v18, h38, hF⟩ := bnd1_elim hF
   refine AC (w_ref01_turn k _ _ _ h38) (.cons (.same (by simp [-List.reduceReplicate, sOf_set, ofI_set, allU8_set, F10])) (.cons (.same (by simp [-List.reduceReplicate, sOf_set, ofI_set, allU8_set, F10])) .nil)) ?_
   obtain ⟨⟨h39, h40⟩, hF⟩ := chk_elim hF
   have h40_ := ne_of_lt h40
   have F11 := And.intro F10 (And.intro h39 (And.intro h40 h40_))
   try simp [-List.reduceReplicate, sOf_set, ofI_set, allU8_set, F11]
   and_intros <;> first | exact g _ (by kernel_rfl) | refine r _ _ _ ?_ | omega | (simp [-List.reduceReplicate, sOf_set, ofI_set, allU8_set, maxLen, F11] <;> omega)
   refine WK [(0, Lw v0), (2, Lw v2), (7, AV.slc 0 0 1 v12.length true), (9, Iz v11), (10, AV.int .u32 (bitsV .xor .u32 (bitsV .xor .u32 v14 v15) (Int.fdiv v13 (2 ^ (3))))), (11, AV.int .u32 (bitsV .xor .u32 (bitsV .xor .u32 v17 v18) (Int.fdiv v16 (2 ^ (10)))))] [(0, .cells (List.map (AV.int .u32) v12))] 1 (by simp [-List.reduceReplicate, sOf_set, ofI_set, allU8_set, F11]) (by simp [-List.reduceReplicate, sOf_set, ofI_set, allU8_set, F11]) ?_
   refine RG [] [none, none, none, none, none, none, none, none, none, none, none, none, none, none, none, none, none, none, none] fun _ _ g r => ?_
   obtain ⟨⟨h41, h42⟩, hF⟩ := chk_elim hF
   have h42_ := ne_of_lt h42
   obtain ⟨v19, h43, h44, h45, hF⟩ := idx_elim hF
   have h45_ := get_of h45
   try simp [-List.reduceReplicate] at h45_
   have h44_ := h44
   try simp [-List.reduceReplicate] at h44_
   obtain ⟨⟨h46, h47⟩, hF⟩ := chk_elim hF
   have h47_ := ne_of_lt h47
   obtain ⟨v20, h48, h49, h50, hF⟩ := idx_elim hF
   have h50_ := get_of h50
   try simp [-List.reduceReplicate] at h50_
   have h49_ := h49
   try simp [-List.reduceReplicate] at h49_
   obtain ⟨⟨h51, h52⟩, hF⟩ := chk_elim hF
   have h52_ := ne_of_lt h52
   have F12 := And.intro F11 (And.intro h41 (And.intro h42 (And.intro h42_ (And.intro h43 (And.intro h44 (And.intro h45 (And.intro h45_ (And.intro h44_ (And.intro h46 (And.intro h47 (And.intro h47_ (And.intro h48 (And.intro h49 (And.intro h50 (And.intro h50_ (And.intro h49_ (And.intro h51 (And.intro h52 h52_))))))))))))))))))
   try simp [-List.reduceReplicate, sOf_set, ofI_set, allU8_set, F12]
   and_intros <;> first | exact g _ (by kernel_rfl) | refine r _ _ _ ?_ | omega | (simp [-List.reduceReplicate, sOf_set, ofI_set, allU8_set, maxLen, F12] <;> omega)
   refine hK512 _ _ _ ?_
   refine WK [(0, Lw v0), (2, Lw v2), (7, AV.slc 0 0 1 ((v12.set (v11).toNat (IntKind.wrap .u32 (IntKind.wrap .u32 (IntKind.wrap .u32 (v19 + bitsV .xor .u32 (bitsV .xor .u32 v14 v15) (Int.fdiv v13 (2 ^ (3)))) + v20) + bitsV .xor .u32 (bitsV .xor .u32 v17 v18) (Int.fdiv v16 (2 ^ (10)))))).length) true), (9, Iz v11)] [(0, .cells (List.map (AV.int .u32) (v12.set (v11).toNat (IntKind.wrap .u32 (IntKind.wrap .u32 (IntKind.wrap .u32 (v19 + bitsV .xor .u32 (bitsV .xor .u32 v14 v15) (Int.fdiv v13 (2 ^ (3)))) + v20) + bitsV .xor .u32 (bitsV .xor .u32 v17 v18) (Int.fdiv v16 (2 ^ (10))))))))] 1 (by simp [-List.reduceReplicate, sOf_set, ofI_set, allU8_set, F12]) (by simp [-List.reduceReplicate, sOf_set, ofI_set, allU8_set, F12]) ?_
   refine RG [] [none, none, none] fun _ _ g r => ?_
   try simp [-List.reduceReplicate, sOf_set, ofI_set, allU8_set, F12]
   and_intros <;> first | exact g _ (by kernel_rfl) | refine r _ _ _ ?_ | omega | (simp [-List.reduceReplicate, sOf_set, ofI_set, allU8_set, maxLen, F12] <;> omega)
   refine hK505 _ _ _ ?_
   exact NX (k' := n2) ((IntKind.wrap .i64 (v11 + 1), v12.set (v11).toNat (IntKind.wrap .u32 (IntKind.wrap .u32 (IntKind.wrap .u32 (v19 + bitsV .xor .u32 (bitsV .xor .u32 v14 v15) (Int.fdiv v13 (2 ^ (3)))) + v20) + bitsV .xor .u32 (bitsV .xor .u32 v17 v18) (Int.fdiv v16 (2 ^ (10))))))) hF (by simp [-List.reduceReplicate, sOf_set, ofI_set, allU8_set, F12]) (by simp [-List.reduceReplicate, sOf_set, ofI_set, allU8_set, F12])
  ·replace hF := ite_f h18 hF
   have h18_ := h18
   try simp [-List.reduceReplicate] at h18_
   have F13 := And.intro F4 (And.intro h18 h18_)
   refine CF (by simp [-List.reduceReplicate, sOf_set, ofI_set, allU8_set, F13] <;> omega) ?_
   refine AW.exit ?_
   try simp [-List.reduceReplicate]
   refine hK470 _ _ _ ?_
   refine WK [(0, Lw v0), (2, Lw v2), (7, AV.slc 0 0 1 v12.length true)] [(0, .cells (List.map (AV.int .u32) v12))] 1 (by simp [-List.reduceReplicate, sOf_set, ofI_set, allU8_set, F13]) (by simp [-List.reduceReplicate, sOf_set, ofI_set, allU8_set, F13]) ?_
   refine AW.frz 0 (o := .cells (List.map (AV.int .u32) v12)) (by simp [-List.reduceReplicate, sOf_set, ofI_set, allU8_set, F13]) rfl [(7, AV.lst false true (List.map (AV.int .u32) v12))] [] ⟨(.l (by simp) (by simp) (by simp) (by simp)), trivial⟩ trivial ?_
   refine WK [(0, Lw v0), (2, Lw v2), (7, AV.lst false true (List.map (AV.int .u32) v12))] [] 1 (by simp [-List.reduceReplicate, sOf_set, ofI_set, allU8_set, F13]) (by simp [-List.reduceReplicate, sOf_set, ofI_set, allU8_set, F13]) ?_
   refine SQ [123] [none, none, none] fun _ _ g r => ?_
   obtain ⟨h53, hF⟩ := chk_elim hF
   have h53_ := h53
   try simp [-List.reduceReplicate] at h53_
   have F14 := And.intro F13 h53
   try simp [-List.reduceReplicate, sOf_set, ofI_set, allU8_set, F14]
   and_intros <;> first | exact g _ (by kernel_rfl) | refine r _ _ _ ?_ | omega | (simp [-List.reduceReplicate, sOf_set, ofI_set, allU8_set, maxLen, F14] <;> omega)
   refine WK [(0, Lw v0), (2, Lw v2), (7, AV.lst false true (List.map (AV.int .u32) v12)), (12, AV.slc 1 0 1 v0.length false)] [(1, .grow (List.map (AV.int .u32) v0))] 2 (by simp [-List.reduceReplicate, sOf_set, ofI_set, allU8_set, F14]) (by simp [-List.reduceReplicate, sOf_set, ofI_set, allU8_set, F14]) ?_
   refine AW.seq fun K588 hK588 => ?_
   refine SQ [] [none] fun _ _ g r => ?_
   try simp [-List.reduceReplicate, sOf_set, ofI_set, allU8_set, F14]
   and_intros <;> first | exact g _ (by kernel_rfl) | refine r _ _ _ ?_ | omega | (simp [-List.reduceReplicate, sOf_set, ofI_set, allU8_set, maxLen, F14] <;> omega)
   refine WK [(0, Lw v0), (2, Lw v2), (7, AV.lst false true (List.map (AV.int .u32) v12)), (12, AV.slc 1 0 1 v0.length false), (13, Iz 0)] [(1, .grow (List.map (AV.int .u32) v0))] 2 (by simp [-List.reduceReplicate, sOf_set, ofI_set, allU8_set, F14]) (by simp [-List.reduceReplicate, sOf_set, ofI_set, allU8_set, F14]) ?_
   refine AW.block ?_
   refine RM h0 [(0, 1)] [(0, Lw v0), (2, Lw v2), (7, AV.lst false true (List.map (AV.int .u32) v12)), (12, AV.slc 0 0 1 v0.length false), (13, Iz 0)] [(0, .grow (List.map (AV.int .u32) v0))] 1 (by simp [-List.reduceReplicate, sOf_set, ofI_set, allU8_set, F14]) (by simp [-List.reduceReplicate, sOf_set, ofI_set, allU8_set, F14]) ?_
   refine AW.loopF (α := (Int × (List Int))) (fun n (v21, v22) => ref01_block.L3 k v0 v2 v12 n v21 v22 = some v3) (fun (v21, v22) => [(0, Lw v0), (2, Lw v2), (7, AV.lst false true (List.map (AV.int .u32) v12)), (12, AV.slc 0 0 1 v22.length false), (13, Iz v21)]) (fun (v21, v22) => [(0, .grow (List.map (AV.int .u32) v22))]) 1 k ((0, v0)) hF (by simp [-List.reduceReplicate, sOf_set, ofI_set, allU8_set, F14]) (by simp [-List.reduceReplicate, sOf_set, ofI_set, allU8_set, F14]) (by simp) ?_
   rintro (_|n3) ⟨v21, v22⟩ hF K641 hK641
   ·try dsimp only at hF
    rw [ref01_block.L3] at hF; cases hF
   try dsimp only at hF
   rw [ref01_block.L3] at hF
   refine AW.seq fun K643 hK643 => ?_
   refine SQ [] [none, none] fun _ _ g r => ?_
   try simp [-List.reduceReplicate, sOf_set, ofI_set, allU8_set, F14]
   and_intros <;> first | exact g _ (by kernel_rfl) | refine r _ _ _ ?_ | omega | (simp [-List.reduceReplicate, sOf_set, ofI_set, allU8_set, maxLen, F14] <;> omega)
   refine WK [(0, Lw v0), (2, Lw v2), (7, AV.lst false true (List.map (AV.int .u32) v12)), (12, AV.slc 0 0 1 v22.length false), (13, Iz v21), (125, AV.bool (decide (v21 < 64)))] [(0, .grow (List.map (AV.int .u32) v22))] 1 (by simp [-List.reduceReplicate, sOf_set, ofI_set, allU8_set, F14]) (by simp [-List.reduceReplicate, sOf_set, ofI_set, allU8_set, F14]) ?_
   by_cases h54 : v21 < 64
   ·replace hF := ite_t h54 hF
    have h54_ := h54
    try simp [-List.reduceReplicate] at h54_
    have F15 := And.intro F14 (And.intro h54 h54_)
    refine CT (by simp [-List.reduceReplicate, sOf_set, ofI_set, allU8_set, F15] <;> omega) ?_
    refine AW.skip ?_
    refine hK643 _ _ _ ?_
    refine WK [(0, Lw v0), (2, Lw v2), (7, AV.lst false true (List.map (AV.int .u32) v12)), (12, AV.slc 0 0 1 v22.length false), (13, Iz v21)] [(0, .grow (List.map (AV.int .u32) v22))] 1 (by simp [-List.reduceReplicate, sOf_set, ofI_set, allU8_set, F15]) (by simp [-List.reduceReplicate, sOf_set, ofI_set, allU8_set, F15]) ?_
    refine AW.frz 0 (o := .grow (List.map (AV.int .u32) v22)) (by simp [-List.reduceReplicate, sOf_set, ofI_set, allU8_set, F15]) rfl [(12, Lw v22)] [] ⟨(.l (by simp) (by simp) (by simp) (by simp)), trivial⟩ trivial ?_
    refine WK [(0, Lw v0), (2, Lw v2), (7, AV.lst false true (List.map (AV.int .u32) v12)), (12, Lw v22), (13, Iz v21)] [] 1 (by simp [-List.reduceReplicate, sOf_set, ofI_set, allU8_set, F15]) (by simp [-List.reduceReplicate, sOf_set, ofI_set, allU8_set, F15]) ?_
    refine AW.seq fun K651 hK651 => ?_
    refine AW.block ?_
    refine SQ [] [none, none, none, none, none, none, none, none, none, none, none, none, none, none, none] fun _ _ g r => ?_
    obtain ⟨v23, h55, h56, h57, hF⟩ := idx_elim hF
    have h57_ := get_of h57
    try simp [-List.reduceReplicate] at h57_
    have h56_ := h56
    try simp [-List.reduceReplicate] at h56_
    have F16 := And.intro F15 (And.intro h55 (And.intro h56 (And.intro h57 (And.intro h57_ h56_))))
    try simp [-List.reduceReplicate, sOf_set, ofI_set, allU8_set, F16]
    and_intros
    try any_goals first | omega | (simp [-List.reduceReplicate, sOf_set, ofI_set, allU8_set, maxLen, F16] <;> omega)
    obtain ⟨v24, h58, hF⟩ := bnd1_elim hF
    refine AC (w_ref01_turn k _ _ _ h58) (.cons (.same (by simp [-List.reduceReplicate, sOf_set, ofI_set, allU8_set, F16])) (.cons (.same (by simp [-List.reduceReplicate, sOf_set, ofI_set, allU8_set, F16])) .nil)) ?_
    try simp [-List.reduceReplicate, sOf_set, ofI_set, allU8_set, F16]
    and_intros
    try any_goals first | omega | (simp [-List.reduceReplicate, sOf_set, ofI_set, allU8_set, maxLen, F16] <;> omega)
    obtain ⟨v25, h59, hF⟩ := bnd1_elim hF
    refine AC (w_ref01_turn k _ _ _ h59) (.cons (.same (by simp [-List.reduceReplicate, sOf_set, ofI_set, allU8_set, F16])) (.cons (.same (by simp [-List.reduceReplicate, sOf_set, ofI_set, allU8_set, F16])) .nil)) ?_
    try simp [-List.reduceReplicate, sOf_set, ofI_set, allU8_set, F16]
    and_intros
    try any_goals first | omega | (simp [-List.reduceReplicate, sOf_set, ofI_set, allU8_set, maxLen, F16] <;> omega)
    obtain ⟨v26, h60, hF⟩ := bnd1_elim hF
    refine AC (w_ref01_turn k _ _ _ h60) (.cons (.same (by simp [-List.reduceReplicate, sOf_set, ofI_set, allU8_set, F16])) (.cons (.same (by simp [-List.reduceReplicate, sOf_set, ofI_set, allU8_set, F16])) .nil)) ?_
    try simp [-List.reduceReplicate, sOf_set, ofI_set, allU8_set, F16]
    and_intros <;> first | exact g _ (by kernel_rfl) | refine r _ _ _ ?_ | omega | (simp [-List.reduceReplicate, sOf_set, ofI_set, allU8_set, maxLen, F16] <;> omega)
    refine WK [(0, Lw v0), (2, Lw v2), (7, AV.lst false true (List.map (AV.int .u32) v12)), (12, Lw v22), (13, Iz v21), (14, AV.int .u32 (bitsV .xor .u32 (bitsV .xor .u32 v24 v25) v26))] [] 1 (by simp [-List.reduceReplicate, sOf_set, ofI_set, allU8_set, F16]) (by simp [-List.reduceReplicate, sOf_set, ofI_set, allU8_set, F16]) ?_
    refine SQ [] [none, none, none, none, none, none, none, none, none, none, none, none, none, none, none, none, none] fun _ _ g r => ?_
    obtain ⟨v27, h61, h62, h63, hF⟩ := idx_elim hF
    have h63_ := get_of h63
    try simp [-List.reduceReplicate] at h63_
    have h62_ := h62
    try simp [-List.reduceReplicate] at h62_
    obtain ⟨v28, h64, h65, h66, hF⟩ := idx_elim hF
    have h66_ := get_of h66
    try simp [-List.reduceReplicate] at h66_
    have h65_ := h65
    try simp [-List.reduceReplicate] at h65_
    have F17 := And.intro F16 (And.intro h61 (And.intro h62 (And.intro h63 (And.intro h63_ (And.intro h62_ (And.intro h64 (And.intro h65 (And.intro h66 (And.intro h66_ h65_)))))))))
    try simp [-List.reduceReplicate, sOf_set, ofI_set, allU8_set, F17]
    and_intros <;> first | exact g _ (by kernel_rfl) | refine r _ _ _ ?_ | omega | (simp [-List.reduceReplicate, sOf_set, ofI_set, allU8_set, maxLen, F17] <;> omega)
    refine WK [(0, Lw v0), (2, Lw v2), (7, AV.lst false true (List.map (AV.int .u32) v12)), (12, Lw v22), (13, Iz v21), (14, AV.int .u32 (bitsV .xor .u32 (bitsV .xor .u32 v24 v25) v26)), (15, AV.int .u32 (bitsV .xor .u32 (bitsV .and .u32 v23 v27) (bitsV .and .u32 (bitsV .xor .u32 (IntKind.max .u32) v23) v28)))] [] 1 (by simp [-List.reduceReplicate, sOf_set, ofI_set, allU8_set, F17]) (by simp [-List.reduceReplicate, sOf_set, ofI_set, allU8_set, F17]) ?_
    refine SQ [] [none, none, none, none, none, none, none, none, none, none, none, none, none, none, none, none, none, none] fun _ _ g r => ?_
    obtain ⟨v29, h67, h68, h69, hF⟩ := idx_elim hF
    have h69_ := get_of h69
    try simp [-List.reduceReplicate] at h69_
    have h68_ := h68
    try simp [-List.reduceReplicate] at h68_
    obtain ⟨v30, h70, h71, h72, hF⟩ := idx_elim hF
    have h72_ := get_of h72
    try simp [-List.reduceReplicate] at h72_
    have h71_ := h71
    try simp [-List.reduceReplicate] at h71_
    obtain ⟨v31, h73, h74, h75, hF⟩ := idx_elim hF
    have h75_ := get_of h75
    try simp [-List.reduceReplicate] at h75_
    have h74_ := h74
    try simp [-List.reduceReplicate] at h74_
    have F18 := And.intro F17 (And.intro h67 (And.intro h68 (And.intro h69 (And.intro h69_ (And.intro h68_ (And.intro h70 (And.intro h71 (And.intro h72 (And.intro h72_ (And.intro h71_ (And.intro h73 (And.intro h74 (And.intro h75 (And.intro h75_ h74_))))))))))))))
    try simp [-List.reduceReplicate, sOf_set, ofI_set, allU8_set, F18]
    and_intros <;> first | exact g _ (by kernel_rfl) | refine r _ _ _ ?_ | omega | (simp [-List.reduceReplicate, sOf_set, ofI_set, allU8_set, maxLen, F18] <;> omega)
    refine WK [(0, Lw v0), (2, Lw v2), (7, AV.lst false true (List.map (AV.int .u32) v12)), (12, Lw v22), (13, Iz v21), (16, AV.int .u32 (IntKind.wrap .u32 (IntKind.wrap .u32 (IntKind.wrap .u32 (IntKind.wrap .u32 (v29 + bitsV .xor .u32 (bitsV .xor .u32 v24 v25) v26) + bitsV .xor .u32 (bitsV .and .u32 v23 v27) (bitsV .and .u32 (bitsV .xor .u32 (IntKind.max .u32) v23) v28)) + v30) + v31)))] [] 1 (by simp [-List.reduceReplicate, sOf_set, ofI_set, allU8_set, F18]) (by simp [-List.reduceReplicate, sOf_set, ofI_set, allU8_set, F18]) ?_
    refine SQ [] [none, none, none, none, none, none, none, none, none, none, none, none, none, none, none] fun _ _ g r => ?_
    obtain ⟨v32, h76, h77, h78, hF⟩ := idx_elim hF
    have h78_ := get_of h78
    try simp [-List.reduceReplicate] at h78_
    have h77_ := h77
    try simp [-List.reduceReplicate] at h77_
    have h78z := head_of h78
    have F19 := And.intro F18 (And.intro h76 (And.intro h77 (And.intro h78 (And.intro h78_ (And.intro h77_ h78z)))))
    try simp [-List.reduceReplicate, sOf_set, ofI_set, allU8_set, F19]
    and_intros
    try any_goals first | omega | (simp [-List.reduceReplicate, sOf_set, ofI_set, allU8_set, maxLen, F19] <;> omega)
    obtain ⟨v33, h79, hF⟩ := bnd1_elim hF
    refine AC (w_ref01_turn k _ _ _ h79) (.cons (.same (by simp [-List.reduceReplicate, sOf_set, ofI_set, allU8_set, F19])) (.cons (.same (by simp [-List.reduceReplicate, sOf_set, ofI_set, allU8_set, F19])) .nil)) ?_
    try simp [-List.reduceReplicate, sOf_set, ofI_set, allU8_set, F19]
    and_intros
    try any_goals first | omega | (simp [-List.reduceReplicate, sOf_set, ofI_set, allU8_set, maxLen, F19] <;> omega)
    obtain ⟨v34, h80, hF⟩ := bnd1_elim hF
    refine AC (w_ref01_turn k _ _ _ h80) (.cons (.same (by simp [-List.reduceReplicate, sOf_set, ofI_set, allU8_set, F19])) (.cons (.same (by simp [-List.reduceReplicate, sOf_set, ofI_set, allU8_set, F19])) .nil)) ?_
    try simp [-List.reduceReplicate, sOf_set, ofI_set, allU8_set, F19]
    and_intros
    try any_goals first | omega | (simp [-List.reduceReplicate, sOf_set, ofI_set, allU8_set, maxLen, F19] <;> omega)
    obtain ⟨v35, h81, hF⟩ := bnd1_elim hF
    refine AC (w_ref01_turn k _ _ _ h81) (.cons (.same (by simp [-List.reduceReplicate, sOf_set, ofI_set, allU8_set, F19])) (.cons (.same (by simp [-List.reduceReplicate, sOf_set, ofI_set, allU8_set, F19])) .nil)) ?_
    try simp [-List.reduceReplicate, sOf_set, ofI_set, allU8_set, F19]
    and_intros <;> first | exact g _ (by kernel_rfl) | refine r _ _ _ ?_ | omega | (simp [-List.reduceReplicate, sOf_set, ofI_set, allU8_set, maxLen, F19] <;> omega)
    refine WK [(0, Lw v0), (2, Lw v2), (7, AV.lst false true (List.map (AV.int .u32) v12)), (12, Lw v22), (13, Iz v21), (14, AV.int .u32 (bitsV .xor .u32 (bitsV .xor .u32 v33 v34) v35)), (16, AV.int .u32 (IntKind.wrap .u32 (IntKind.wrap .u32 (IntKind.wrap .u32 (IntKind.wrap .u32 (v29 + bitsV .xor .u32 (bitsV .xor .u32 v24 v25) v26) + bitsV .xor .u32 (bitsV .and .u32 v23 v27) (bitsV .and .u32 (bitsV .xor .u32 (IntKind.max .u32) v23) v28)) + v30) + v31)))] [] 1 (by simp [-List.reduceReplicate, sOf_set, ofI_set, allU8_set, F19]) (by simp [-List.reduceReplicate, sOf_set, ofI_set, allU8_set, F19]) ?_
    refine SQ [] [none, none, none, none, none, none, none, none, none, none, none, none, none, none, none, none, none, none, none, none, none, none, none, none] fun _ _ g r => ?_
    obtain ⟨v36, h82, h83, h84, hF⟩ := idx_elim hF
    have h84_ := get_of h84
    try simp [-List.reduceReplicate] at h84_
    have h83_ := h83
    try simp [-List.reduceReplicate] at h83_
    obtain ⟨v37, h85, h86, h87, hF⟩ := idx_elim hF
    have h87_ := get_of h87
    try simp [-List.reduceReplicate] at h87_
    have h86_ := h86
    try simp [-List.reduceReplicate] at h86_
    have F20 := And.intro F19 (And.intro h82 (And.intro h83 (And.intro h84 (And.intro h84_ (And.intro h83_ (And.intro h85 (And.intro h86 (And.intro h87 (And.intro h87_ h86_)))))))))
    try simp [-List.reduceReplicate, sOf_set, ofI_set, allU8_set, F20]
    and_intros <;> first | exact g _ (by kernel_rfl) | refine r _ _ _ ?_ | omega | (simp [-List.reduceReplicate, sOf_set, ofI_set, allU8_set, maxLen, F20] <;> omega)
    refine WK [(0, Lw v0), (2, Lw v2), (7, AV.lst false true (List.map (AV.int .u32) v12)), (12, Lw v22), (13, Iz v21), (14, AV.int .u32 (bitsV .xor .u32 (bitsV .xor .u32 v33 v34) v35)), (16, AV.int .u32 (IntKind.wrap .u32 (IntKind.wrap .u32 (IntKind.wrap .u32 (IntKind.wrap .u32 (v29 + bitsV .xor .u32 (bitsV .xor .u32 v24 v25) v26) + bitsV .xor .u32 (bitsV .and .u32 v23 v27) (bitsV .and .u32 (bitsV .xor .u32 (IntKind.max .u32) v23) v28)) + v30) + v31))), (17, AV.int .u32 (bitsV .xor .u32 (bitsV .xor .u32 (bitsV .and .u32 v32 v36) (bitsV .and .u32 v32 v37)) (bitsV .and .u32 v36 v37)))] [] 1 (by simp [-List.reduceReplicate, sOf_set, ofI_set, allU8_set, F20]) (by simp [-List.reduceReplicate, sOf_set, ofI_set, allU8_set, F20]) ?_
    refine RG [240] [none, none, none, none, none, none, none, none, none, none, none, none, none, none, none, none, none, none, none, none, none, none, none, none, none, none, none, none, none, none] fun _ _ g r => ?_
    obtain ⟨v38, h88, h89, h90, hF⟩ := idx_elim hF
    have h90_ := get_of h90
    try simp [-List.reduceReplicate] at h90_
    have h89_ := h89
    try simp [-List.reduceReplicate] at h89_
    have F21 := And.intro F20 (And.intro h88 (And.intro h89 (And.intro h90 (And.intro h90_ h89_))))
    try simp [-List.reduceReplicate, sOf_set, ofI_set, allU8_set, F21]
    and_intros <;> first | exact g _ (by kernel_rfl) | refine r _ _ _ ?_ | omega | (simp [-List.reduceReplicate, sOf_set, ofI_set, allU8_set, maxLen, F21] <;> omega)
    refine hK651 _ _ _ ?_
    refine WK [(0, Lw v0), (2, Lw v2), (7, AV.lst false true (List.map (AV.int .u32) v12)), (12, AV.slc 1 0 1 (([IntKind.wrap .u32 (IntKind.wrap .u32 (IntKind.wrap .u32 (IntKind.wrap .u32 (IntKind.wrap .u32 (IntKind.wrap .u32 (v29 + bitsV .xor .u32 (bitsV .xor .u32 v24 v25) v26) + bitsV .xor .u32 (bitsV .and .u32 v23 v27) (bitsV .and .u32 (bitsV .xor .u32 (IntKind.max .u32) v23) v28)) + v30) + v31) + bitsV .xor .u32 (bitsV .xor .u32 v33 v34) v35) + bitsV .xor .u32 (bitsV .xor .u32 (bitsV .and .u32 v32 v36) (bitsV .and .u32 v32 v37)) (bitsV .and .u32 v36 v37)), v32, v36, v37, IntKind.wrap .u32 (v38 + IntKind.wrap .u32 (IntKind.wrap .u32 (IntKind.wrap .u32 (IntKind.wrap .u32 (v29 + bitsV .xor .u32 (bitsV .xor .u32 v24 v25) v26) + bitsV .xor .u32 (bitsV .and .u32 v23 v27) (bitsV .and .u32 (bitsV .xor .u32 (IntKind.max .u32) v23) v28)) + v30) + v31)), v23, v27, v28] : List Int).length) true), (13, Iz v21)] [(1, .cells (List.map (AV.int .u32) ([IntKind.wrap .u32 (IntKind.wrap .u32 (IntKind.wrap .u32 (IntKind.wrap .u32 (IntKind.wrap .u32 (IntKind.wrap .u32 (v29 + bitsV .xor .u32 (bitsV .xor .u32 v24 v25) v26) + bitsV .xor .u32 (bitsV .and .u32 v23 v27) (bitsV .and .u32 (bitsV .xor .u32 (IntKind.max .u32) v23) v28)) + v30) + v31) + bitsV .xor .u32 (bitsV .xor .u32 v33 v34) v35) + bitsV .xor .u32 (bitsV .xor .u32 (bitsV .and .u32 v32 v36) (bitsV .and .u32 v32 v37)) (bitsV .and .u32 v36 v37)), v32, v36, v37, IntKind.wrap .u32 (v38 + IntKind.wrap .u32 (IntKind.wrap .u32 (IntKind.wrap .u32 (IntKind.wrap .u32 (v29 + bitsV .xor .u32 (bitsV .xor .u32 v24 v25) v26) + bitsV .xor .u32 (bitsV .and .u32 v23 v27) (bitsV .and .u32 (bitsV .xor .u32 (IntKind.max .u32) v23) v28)) + v30) + v31)), v23, v27, v28] : List Int)))] 2 (by simp [-List.reduceReplicate, sOf_set, ofI_set, allU8_set, F21]) (by simp [-List.reduceReplicate, sOf_set, ofI_set, allU8_set, F21]) ?_
    refine RG [] [none, none, none] fun _ _ g r => ?_
    try simp [-List.reduceReplicate, sOf_set, ofI_set, allU8_set, F21]
    and_intros <;> first | exact g _ (by kernel_rfl) | refine r _ _ _ ?_ | omega | (simp [-List.reduceReplicate, sOf_set, ofI_set, allU8_set, maxLen, F21] <;> omega)
    refine hK641 _ _ _ ?_
    refine RN h0 [(0, 1)] [(0, Lw v0), (2, Lw v2), (7, AV.lst false true (List.map (AV.int .u32) v12)), (12, AV.slc 0 0 1 (([IntKind.wrap .u32 (IntKind.wrap .u32 (IntKind.wrap .u32 (IntKind.wrap .u32 (IntKind.wrap .u32 (IntKind.wrap .u32 (v29 + bitsV .xor .u32 (bitsV .xor .u32 v24 v25) v26) + bitsV .xor .u32 (bitsV .and .u32 v23 v27) (bitsV .and .u32 (bitsV .xor .u32 (IntKind.max .u32) v23) v28)) + v30) + v31) + bitsV .xor .u32 (bitsV .xor .u32 v33 v34) v35) + bitsV .xor .u32 (bitsV .xor .u32 (bitsV .and .u32 v32 v36) (bitsV .and .u32 v32 v37)) (bitsV .and .u32 v36 v37)), v32, v36, v37, IntKind.wrap .u32 (v38 + IntKind.wrap .u32 (IntKind.wrap .u32 (IntKind.wrap .u32 (IntKind.wrap .u32 (v29 + bitsV .xor .u32 (bitsV .xor .u32 v24 v25) v26) + bitsV .xor .u32 (bitsV .and .u32 v23 v27) (bitsV .and .u32 (bitsV .xor .u32 (IntKind.max .u32) v23) v28)) + v30) + v31)), v23, v27, v28] : List Int).length) true), (13, Iz (IntKind.wrap .i64 (v21 + 1)))] [(0, .cells (List.map (AV.int .u32) ([IntKind.wrap .u32 (IntKind.wrap .u32 (IntKind.wrap .u32 (IntKind.wrap .u32 (IntKind.wrap .u32 (IntKind.wrap .u32 (v29 + bitsV .xor .u32 (bitsV .xor .u32 v24 v25) v26) + bitsV .xor .u32 (bitsV .and .u32 v23 v27) (bitsV .and .u32 (bitsV .xor .u32 (IntKind.max .u32) v23) v28)) + v30) + v31) + bitsV .xor .u32 (bitsV .xor .u32 v33 v34) v35) + bitsV .xor .u32 (bitsV .xor .u32 (bitsV .and .u32 v32 v36) (bitsV .and .u32 v32 v37)) (bitsV .and .u32 v36 v37)), v32, v36, v37, IntKind.wrap .u32 (v38 + IntKind.wrap .u32 (IntKind.wrap .u32 (IntKind.wrap .u32 (IntKind.wrap .u32 (v29 + bitsV .xor .u32 (bitsV .xor .u32 v24 v25) v26) + bitsV .xor .u32 (bitsV .and .u32 v23 v27) (bitsV .and .u32 (bitsV .xor .u32 (IntKind.max .u32) v23) v28)) + v30) + v31)), v23, v27, v28] : List Int)))] 1 (by simp [-List.reduceReplicate, sOf_set, ofI_set, allU8_set, F21]) (by simp [-List.reduceReplicate, sOf_set, ofI_set, allU8_set, F21]) ?_
    refine Can.flg [(12, AV.slc 0 0 1 (([IntKind.wrap .u32 (IntKind.wrap .u32 (IntKind.wrap .u32 (IntKind.wrap .u32 (IntKind.wrap .u32 (IntKind.wrap .u32 (v29 + bitsV .xor .u32 (bitsV .xor .u32 v24 v25) v26) + bitsV .xor .u32 (bitsV .and .u32 v23 v27) (bitsV .and .u32 (bitsV .xor .u32 (IntKind.max .u32) v23) v28)) + v30) + v31) + bitsV .xor .u32 (bitsV .xor .u32 v33 v34) v35) + bitsV .xor .u32 (bitsV .xor .u32 (bitsV .and .u32 v32 v36) (bitsV .and .u32 v32 v37)) (bitsV .and .u32 v36 v37)), v32, v36, v37, IntKind.wrap .u32 (v38 + IntKind.wrap .u32 (IntKind.wrap .u32 (IntKind.wrap .u32 (IntKind.wrap .u32 (v29 + bitsV .xor .u32 (bitsV .xor .u32 v24 v25) v26) + bitsV .xor .u32 (bitsV .and .u32 v23 v27) (bitsV .and .u32 (bitsV .xor .u32 (IntKind.max .u32) v23) v28)) + v30) + v31)), v23, v27, v28] : List Int).length) false)] [(0, .grow (List.map (AV.int .u32) ([IntKind.wrap .u32 (IntKind.wrap .u32 (IntKind.wrap .u32 (IntKind.wrap .u32 (IntKind.wrap .u32 (IntKind.wrap .u32 (v29 + bitsV .xor .u32 (bitsV .xor .u32 v24 v25) v26) + bitsV .xor .u32 (bitsV .and .u32 v23 v27) (bitsV .and .u32 (bitsV .xor .u32 (IntKind.max .u32) v23) v28)) + v30) + v31) + bitsV .xor .u32 (bitsV .xor .u32 v33 v34) v35) + bitsV .xor .u32 (bitsV .xor .u32 (bitsV .and .u32 v32 v36) (bitsV .and .u32 v32 v37)) (bitsV .and .u32 v36 v37)), v32, v36, v37, IntKind.wrap .u32 (v38 + IntKind.wrap .u32 (IntKind.wrap .u32 (IntKind.wrap .u32 (IntKind.wrap .u32 (v29 + bitsV .xor .u32 (bitsV .xor .u32 v24 v25) v26) + bitsV .xor .u32 (bitsV .and .u32 v23 v27) (bitsV .and .u32 (bitsV .xor .u32 (IntKind.max .u32) v23) v28)) + v30) + v31)), v23, v27, v28] : List Int)))] ⟨.slc, trivial⟩ ⟨⟨AObj.cells (List.map (AV.int .u32) ([IntKind.wrap .u32 (IntKind.wrap .u32 (IntKind.wrap .u32 (IntKind.wrap .u32 (IntKind.wrap .u32 (IntKind.wrap .u32 (v29 + bitsV .xor .u32 (bitsV .xor .u32 v24 v25) v26) + bitsV .xor .u32 (bitsV .and .u32 v23 v27) (bitsV .and .u32 (bitsV .xor .u32 (IntKind.max .u32) v23) v28)) + v30) + v31) + bitsV .xor .u32 (bitsV .xor .u32 v33 v34) v35) + bitsV .xor .u32 (bitsV .xor .u32 (bitsV .and .u32 v32 v36) (bitsV .and .u32 v32 v37)) (bitsV .and .u32 v36 v37)), v32, v36, v37, IntKind.wrap .u32 (v38 + IntKind.wrap .u32 (IntKind.wrap .u32 (IntKind.wrap .u32 (IntKind.wrap .u32 (v29 + bitsV .xor .u32 (bitsV .xor .u32 v24 v25) v26) + bitsV .xor .u32 (bitsV .and .u32 v23 v27) (bitsV .and .u32 (bitsV .xor .u32 (IntKind.max .u32) v23) v28)) + v30) + v31)), v23, v27, v28] : List Int)), by simp [-List.reduceReplicate, sOf_set, ofI_set, allU8_set, F21], (.gr (by simp [-List.reduceReplicate, sOf_set, ofI_set, allU8_set, F21]))⟩, trivial⟩ (by simp) ?_
    exact NX (k' := n3) ((IntKind.wrap .i64 (v21 + 1), ([IntKind.wrap .u32 (IntKind.wrap .u32 (IntKind.wrap .u32 (IntKind.wrap .u32 (IntKind.wrap .u32 (IntKind.wrap .u32 (v29 + bitsV .xor .u32 (bitsV .xor .u32 v24 v25) v26) + bitsV .xor .u32 (bitsV .and .u32 v23 v27) (bitsV .and .u32 (bitsV .xor .u32 (IntKind.max .u32) v23) v28)) + v30) + v31) + bitsV .xor .u32 (bitsV .xor .u32 v33 v34) v35) + bitsV .xor .u32 (bitsV .xor .u32 (bitsV .and .u32 v32 v36) (bitsV .and .u32 v32 v37)) (bitsV .and .u32 v36 v37)), v32, v36, v37, IntKind.wrap .u32 (v38 + IntKind.wrap .u32 (IntKind.wrap .u32 (IntKind.wrap .u32 (IntKind.wrap .u32 (v29 + bitsV .xor .u32 (bitsV .xor .u32 v24 v25) v26) + bitsV .xor .u32 (bitsV .and .u32 v23 v27) (bitsV .and .u32 (bitsV .xor .u32 (IntKind.max .u32) v23) v28)) + v30) + v31)), v23, v27, v28] : List Int))) hF (by simp [-List.reduceReplicate, sOf_set, ofI_set, allU8_set, F21]) (by simp [-List.reduceReplicate, sOf_set, ofI_set, allU8_set, F21])
   ·replace hF := ite_f h54 hF
    have h54_ := h54
    try simp [-List.reduceReplicate] at h54_
    have F22 := And.intro F14 (And.intro h54 h54_)
    refine CF (by simp [-List.reduceReplicate, sOf_set, ofI_set, allU8_set, F22] <;> omega) ?_
    refine AW.exit ?_
    try simp [-List.reduceReplicate]
    refine hK588 _ _ _ ?_
    refine AW.seq fun K689 hK689 => ?_
    refine SQ [] [none] fun _ _ g r => ?_
    try simp [-List.reduceReplicate, sOf_set, ofI_set, allU8_set, F22]
    and_intros <;> first | exact g _ (by kernel_rfl) | refine r _ _ _ ?_ | omega | (simp [-List.reduceReplicate, sOf_set, ofI_set, allU8_set, maxLen, F22] <;> omega)
    refine WK [(0, Lw v0), (12, AV.slc 0 0 1 v22.length false), (18, Iz 0)] [(0, .grow (List.map (AV.int .u32) v22))] 1 (by simp [-List.reduceReplicate, sOf_set, ofI_set, allU8_set, F22]) (by simp [-List.reduceReplicate, sOf_set, ofI_set, allU8_set, F22]) ?_
    refine AW.block ?_
    refine AW.loopF (α := (Int × (List Int))) (fun n (v39, v40) => ref01_block.L4 k v0 n v39 v40 = some v3) (fun (v39, v40) => [(0, Lw v0), (12, AV.slc 0 0 1 v40.length false), (18, Iz v39)]) (fun (v39, v40) => [(0, .grow (List.map (AV.int .u32) v40))]) 1 k ((0, v22)) hF (by simp [-List.reduceReplicate, sOf_set, ofI_set, allU8_set, F22]) (by simp [-List.reduceReplicate, sOf_set, ofI_set, allU8_set, F22]) (by simp) ?_
    rintro (_|n4) ⟨v39, v40⟩ hF K712 hK712
    ·try dsimp only at hF
     rw [ref01_block.L4] at hF; cases hF
    try dsimp only at hF
    rw [ref01_block.L4] at hF
    refine AW.seq fun K714 hK714 => ?_
    refine SQ [] [none, none] fun _ _ g r => ?_
    try simp [-List.reduceReplicate, sOf_set, ofI_set, allU8_set, F22]
    and_intros <;> first | exact g _ (by kernel_rfl) | refine r _ _ _ ?_ | omega | (simp [-List.reduceReplicate, sOf_set, ofI_set, allU8_set, maxLen, F22] <;> omega)
    refine WK [(0, Lw v0), (12, AV.slc 0 0 1 v40.length false), (18, Iz v39), (242, AV.bool (decide (v39 < 8)))] [(0, .grow (List.map (AV.int .u32) v40))] 1 (by simp [-List.reduceReplicate, sOf_set, ofI_set, allU8_set, F22]) (by simp [-List.reduceReplicate, sOf_set, ofI_set, allU8_set, F22]) ?_
    by_cases h91 : v39 < 8
    ·replace hF := ite_t h91 hF
     have h91_ := h91
     try simp [-List.reduceReplicate] at h91_
     have F23 := And.intro F22 (And.intro h91 h91_)
     refine CT (by simp [-List.reduceReplicate, sOf_set, ofI_set, allU8_set, F23] <;> omega) ?_
     refine AW.skip ?_
     refine hK714 _ _ _ ?_
     refine AW.seq fun K717 hK717 => ?_
     refine AW.block ?_
     refine RG [] [none, none, none, none, none, none, none, none, none, none, none] fun _ _ g r => ?_
     obtain ⟨⟨h92, h93⟩, hF⟩ := chk_elim hF
     have h93_ := ne_of_lt h93
     obtain ⟨v41, h94, h95, h96, hF⟩ := idx_elim hF
     have h96_ := get_of h96
     try simp [-List.reduceReplicate] at h96_
     have h95_ := h95
     try simp [-List.reduceReplicate] at h95_
     obtain ⟨v42, h97, h98, h99, hF⟩ := idx_elim hF
     have h99_ := get_of h99
     try simp [-List.reduceReplicate] at h99_
     have h98_ := h98
     try simp [-List.reduceReplicate] at h98_
     obtain ⟨⟨h100, h101⟩, hF⟩ := chk_elim hF
     have h101_ := ne_of_lt h101
     have F24 := And.intro F23 (And.intro h92 (And.intro h93 (And.intro h93_ (And.intro h94 (And.intro h95 (And.intro h96 (And.intro h96_ (And.intro h95_ (And.intro h97 (And.intro h98 (And.intro h99 (And.intro h99_ (And.intro h98_ (And.intro h100 (And.intro h101 h101_)))))))))))))))
     try simp [-List.reduceReplicate, sOf_set, ofI_set, allU8_set, F24]
     and_intros <;> first | exact g _ (by kernel_rfl) | refine r _ _ _ ?_ | omega | (simp [-List.reduceReplicate, sOf_set, ofI_set, allU8_set, maxLen, F24] <;> omega)
     refine hK717 _ _ _ ?_
     refine WK [(0, Lw v0), (12, AV.slc 0 0 1 ((v40.set (v39).toNat (IntKind.wrap .u32 (v41 + v42))).length) false), (18, Iz v39)] [(0, .grow (List.map (AV.int .u32) (v40.set (v39).toNat (IntKind.wrap .u32 (v41 + v42)))))] 1 (by simp [-List.reduceReplicate, sOf_set, ofI_set, allU8_set, F24]) (by simp [-List.reduceReplicate, sOf_set, ofI_set, allU8_set, F24]) ?_
     refine RG [] [none, none, none] fun _ _ g r => ?_
     try simp [-List.reduceReplicate, sOf_set, ofI_set, allU8_set, F24]
     and_intros <;> first | exact g _ (by kernel_rfl) | refine r _ _ _ ?_ | omega | (simp [-List.reduceReplicate, sOf_set, ofI_set, allU8_set, maxLen, F24] <;> omega)
     refine hK712 _ _ _ ?_
     exact NX (k' := n4) ((IntKind.wrap .i64 (v39 + 1), v40.set (v39).toNat (IntKind.wrap .u32 (v41 + v42)))) hF (by simp [-List.reduceReplicate, sOf_set, ofI_set, allU8_set, F24]) (by simp [-List.reduceReplicate, sOf_set, ofI_set, allU8_set, F24])
    ·replace hF := ite_f h91 hF
     have h91_ := h91
     try simp [-List.reduceReplicate] at h91_
     have F25 := And.intro F22 (And.intro h91 h91_)
     refine CF (by simp [-List.reduceReplicate, sOf_set, ofI_set, allU8_set, F25] <;> omega) ?_
     refine AW.exit ?_
     try simp [-List.reduceReplicate]
     refine hK689 _ _ _ ?_
     refine SQ [] [none, none] fun _ _ g r => ?_
     try simp [-List.reduceReplicate, sOf_set, ofI_set, allU8_set, F25]
     and_intros <;> first | exact g _ (by kernel_rfl) | refine r _ _ _ ?_ | omega | (simp [-List.reduceReplicate, sOf_set, ofI_set, allU8_set, maxLen, F25] <;> omega)
     refine WK [(6, AV.slc 0 0 1 v40.length false)] [(0, .grow (List.map (AV.int .u32) v40))] 1 (by simp [-List.reduceReplicate, sOf_set, ofI_set, allU8_set, F25]) (by simp [-List.reduceReplicate, sOf_set, ofI_set, allU8_set, F25]) ?_
     simp only [Option.some.injEq] at hF
     subst hF
     refine AW.ret (hQ _ _ _ ?_ (matchO_0 ?_)).1
     ·simp [Try.f61, F25]
     ·simp [F25]
theorem w_ref01_Sum (k : Nat) (v0 : (List Int)) (v1 : ByteArray) (hF : ref01_Sum k v0 = some v1) :
  FCall Try.prog 15 [AV.lst false false (List.map (AV.int .u8) v0)] [] (AV.str v1) [] := by
 unfold ref01_Sum at hF
 refine EN Try.func15 ?_
 intro c0 w0 Q h0 hQ
 refine WK [(0, Lb v0)] [] 0 (by simp) (by simp) ?_
 refine SQ [] [none] fun _ _ g r => ?_
 try simp
 and_intros <;> first | exact g _ (by kernel_rfl) | refine r _ _ _ ?_ | omega | (simp [maxLen] <;> omega)
 refine WK [(0, Lb v0)] [] 0 (by simp) (by simp) ?_
 refine SQ [] [none, none] fun _ _ g r => ?_
 try simp
 and_intros <;> first | exact g _ (by kernel_rfl) | refine r _ _ _ ?_ | omega | (simp [maxLen] <;> omega)
 refine WK [(0, Lb v0), (3, AV.lst false true (List.map (AV.int .u32) ([1779033703, 3144134277, 1013904242, 2773480762, 1359893119, 2600822924, 528734635, 1541459225] : List Int)))] [] 0 (by simp) (by simp) ?_
 refine SQ [13] [none, none, none, none, none] fun _ _ g r => ?_
 obtain ⟨h1, hF⟩ := chk_elim hF
 have h1_ := h1
 try simp at h1_
 obtain ⟨h2, hF⟩ := chk_elim hF
 have h2_ := h2
 try simp at h2_
 try simp [h1, h2]
 and_intros <;> first | exact g _ (by kernel_rfl) | refine r _ _ _ ?_ | omega | (simp [h1, h2, maxLen] <;> omega)
 refine WK [(0, Lb v0), (3, AV.lst false true (List.map (AV.int .u32) ([1779033703, 3144134277, 1013904242, 2773480762, 1359893119, 2600822924, 528734635, 1541459225] : List Int))), (4, AV.slc 1 0 1 ((v0 ++ ([128] : List Int)).length) false)] [(1, .grow (List.map (AV.int .u8) (v0 ++ ([128] : List Int))))] 2 (by simp [h1, h2] <;> omega) (by simp [h1, h2]) ?_
 refine AW.seq fun K246 hK246 => ?_
 refine AW.block ?_
 refine RM h0 [(0, 1)] [(0, Lb v0), (3, AV.lst false true (List.map (AV.int .u32) ([1779033703, 3144134277, 1013904242, 2773480762, 1359893119, 2600822924, 528734635, 1541459225] : List Int))), (4, AV.slc 0 0 1 ((v0 ++ ([128] : List Int)).length) false)] [(0, .grow (List.map (AV.int .u8) (v0 ++ ([128] : List Int))))] 1 (by simp [h1, h2]) (by simp [h1, h2]) ?_
 refine AW.loopF (α := (List Int)) (fun n v2 => ref01_Sum.L1 k v0 n v2 = some v1) (fun v2 => [(0, Lb v0), (3, AV.lst false true (List.map (AV.int .u32) ([1779033703, 3144134277, 1013904242, 2773480762, 1359893119, 2600822924, 528734635, 1541459225] : List Int))), (4, AV.slc 0 0 1 v2.length false)]) (fun v2 => [(0, .grow (List.map (AV.int .u8) v2))]) 1 k (v0 ++ ([128] : List Int)) hF (by simp [h1, h2]) (by simp [h1, h2]) (by simp) ?_
 rintro (_|n1) v2 hF K259 hK259
 ·try dsimp only at hF
  rw [ref01_Sum.L1] at hF; cases hF
 try dsimp only at hF
 rw [ref01_Sum.L1] at hF
 refine AW.seq fun K261 hK261 => ?_
 refine SQ [] [none, none, none, none] fun _ _ g r => ?_
 try simp [h1, h2]
 and_intros <;> first | exact g _ (by kernel_rfl) | refine r _ _ _ ?_ | omega | (simp [h1, h2, maxLen] <;> omega)
 refine WK [(0, Lb v0), (3, AV.lst false true (List.map (AV.int .u32) ([1779033703, 3144134277, 1013904242, 2773480762, 1359893119, 2600822924, 528734635, 1541459225] : List Int))), (4, AV.slc 0 0 1 v2.length false), (19, AV.bool ((Int.tmod (v2.length : Int) 64) != 56))] [(0, .grow (List.map (AV.int .u8) v2))] 1 (by simp [h1, h2]) (by simp [h1, h2]) ?_
 by_cases h3 : (Int.tmod (v2.length : Int) 64) ≠ 56
 ·replace hF := ite_t h3 hF
  have h3_ := eqb_f h3
  have h3__ := neb_t h3
  refine CT (by simp [h1, h2, h3, h3_, h3__] <;> omega) ?_
  refine AW.skip ?_
  refine hK261 _ _ _ ?_
  refine AW.block ?_
  refine RG [] [none, none, none, none] fun _ _ g r => ?_
  obtain ⟨h4, hF⟩ := chk_elim hF
  have h4_ := h4
  try simp at h4_
  have F1 := And.intro h1 (And.intro h2 (And.intro h3 (And.intro h3_ (And.intro h3__ h4))))
  try simp [F1]
  and_intros <;> first | exact g _ (by kernel_rfl) | refine r _ _ _ ?_ | omega | (simp [maxLen, F1] <;> omega)
  refine hK259 _ _ _ ?_
  refine RN h0 [(0, 1)] [(0, Lb v0), (3, AV.lst false true (List.map (AV.int .u32) ([1779033703, 3144134277, 1013904242, 2773480762, 1359893119, 2600822924, 528734635, 1541459225] : List Int))), (4, AV.slc 0 0 1 ((v2 ++ ([0] : List Int)).length) false)] [(0, .grow (List.map (AV.int .u8) (v2 ++ ([0] : List Int))))] 1 (by simp [F1] <;> omega) (by simp [F1]) ?_
  exact NX (k' := n1) (v2 ++ ([0] : List Int)) hF (by simp [F1]) (by simp [F1])
 ·replace hF := ite_f h3 hF
  have h3q : (Int.tmod (v2.length : Int) 64) = 56 := Classical.not_not.1 h3
  have h3_ := eqb_t h3q
  have h3__ := neb_f h3q
  have F2 := And.intro h1 (And.intro h2 (And.intro h3_ (And.intro h3__ h3q)))
  refine CF (by simp [F2] <;> omega) ?_
  refine AW.exit ?_
  try simp
  refine hK246 _ _ _ ?_
  refine SQ [] [none, none, none, none, none] fun _ _ g r => ?_
  try simp [F2]
  and_intros <;> first | exact g _ (by kernel_rfl) | refine r _ _ _ ?_ | omega | (simp [maxLen, F2] <;> omega)
  refine WK [(3, AV.lst false true (List.map (AV.int .u32) ([1779033703, 3144134277, 1013904242, 2773480762, 1359893119, 2600822924, 528734635, 1541459225] : List Int))), (4, AV.slc 0 0 1 v2.length false), (5, AV.int .u64 (IntKind.wrap .u64 (IntKind.wrap .u64 (v0.length : Int) * 8)))] [(0, .grow (List.map (AV.int .u8) v2))] 1 (by simp [F2]) (by simp [F2]) ?_
  refine AW.seq fun K295 hK295 => ?_
  refine SQ [] [none] fun _ _ g r => ?_
  try simp [F2]
  and_intros <;> first | exact g _ (by kernel_rfl) | refine r _ _ _ ?_ | omega | (simp [maxLen, F2] <;> omega)
  refine WK [(3, AV.lst false true (List.map (AV.int .u32) ([1779033703, 3144134277, 1013904242, 2773480762, 1359893119, 2600822924, 528734635, 1541459225] : List Int))), (4, AV.slc 0 0 1 v2.length false), (5, AV.int .u64 (IntKind.wrap .u64 (IntKind.wrap .u64 (v0.length : Int) * 8))), (6, Iz 7)] [(0, .grow (List.map (AV.int .u8) v2))] 1 (by simp [F2]) (by simp [F2]) ?_
  refine AW.block ?_
  refine AW.loopF (α := (Int × (List Int))) (fun n (v3, v4) => ref01_Sum.L2 k v0 n v3 v4 = some v1) (fun (v3, v4) => [(3, AV.lst false true (List.map (AV.int .u32) ([1779033703, 3144134277, 1013904242, 2773480762, 1359893119, 2600822924, 528734635, 1541459225] : List Int))), (4, AV.slc 0 0 1 v4.length false), (5, AV.int .u64 (IntKind.wrap .u64 (IntKind.wrap .u64 (v0.length : Int) * 8))), (6, Iz v3)]) (fun (v3, v4) => [(0, .grow (List.map (AV.int .u8) v4))]) 1 k ((7, v2)) hF (by simp [F2]) (by simp [F2]) (by simp) ?_
  rintro (_|n2) ⟨v3, v4⟩ hF K318 hK318
  ·try dsimp only at hF
   rw [ref01_Sum.L2] at hF; cases hF
  try dsimp only at hF
  rw [ref01_Sum.L2] at hF
  refine AW.seq fun K320 hK320 => ?_
  refine SQ [] [none, none] fun _ _ g r => ?_
  try simp [F2]
  and_intros <;> first | exact g _ (by kernel_rfl) | refine r _ _ _ ?_ | omega | (simp [maxLen, F2] <;> omega)
  refine WK [(3, AV.lst false true (List.map (AV.int .u32) ([1779033703, 3144134277, 1013904242, 2773480762, 1359893119, 2600822924, 528734635, 1541459225] : List Int))), (4, AV.slc 0 0 1 v4.length false), (5, AV.int .u64 (IntKind.wrap .u64 (IntKind.wrap .u64 (v0.length : Int) * 8))), (6, Iz v3), (28, AV.bool (decide (0 ≤ v3)))] [(0, .grow (List.map (AV.int .u8) v4))] 1 (by simp [F2]) (by simp [F2]) ?_
  by_cases h5 : 0 ≤ v3
  ·replace hF := ite_t h5 hF
   have h5_ := h5
   try simp at h5_
   have F3 := And.intro F2 (And.intro h5 h5_)
   refine CT (by simp [F3] <;> omega) ?_
   refine AW.skip ?_
   refine hK320 _ _ _ ?_
   refine AW.seq fun K323 hK323 => ?_
   refine AW.block ?_
   refine RG [] [none, none, none, none, none, none, none, none, none, none] fun _ _ g r => ?_
   obtain ⟨h6, hF⟩ := chk_elim hF
   obtain ⟨h7, hF⟩ := chk_elim hF
   have h7_ := h7
   try simp at h7_
   have F4 := And.intro F3 (And.intro h6 h7)
   try simp [F4]
   and_intros <;> first | exact g _ (by kernel_rfl) | refine r _ _ _ ?_ | omega | (simp [maxLen, F4] <;> omega)
   refine hK323 _ _ _ ?_
   refine WK [(3, AV.lst false true (List.map (AV.int .u32) ([1779033703, 3144134277, 1013904242, 2773480762, 1359893119, 2600822924, 528734635, 1541459225] : List Int))), (4, AV.slc 1 0 1 ((v4 ++ ([IntKind.wrap .u8 (Int.fdiv (IntKind.wrap .u64 (IntKind.wrap .u64 (v0.length : Int) * 8)) (2 ^ (min ((IntKind.wrap .u64 (IntKind.wrap .i64 (8 * v3))).toNat) 64)))] : List Int)).length) false), (5, AV.int .u64 (IntKind.wrap .u64 (IntKind.wrap .u64 (v0.length : Int) * 8))), (6, Iz v3)] [(1, .grow (List.map (AV.int .u8) (v4 ++ ([IntKind.wrap .u8 (Int.fdiv (IntKind.wrap .u64 (IntKind.wrap .u64 (v0.length : Int) * 8)) (2 ^ (min ((IntKind.wrap .u64 (IntKind.wrap .i64 (8 * v3))).toNat) 64)))] : List Int))))] 2 (by simp [F4] <;> omega) (by simp [F4]) ?_
   refine RG [] [none, none, none] fun _ _ g r => ?_
   try simp [F4]
   and_intros <;> first | exact g _ (by kernel_rfl) | refine r _ _ _ ?_ | omega | (simp [maxLen, F4] <;> omega)
   refine hK318 _ _ _ ?_
   refine RN h0 [(0, 1)] [(3, AV.lst false true (List.map (AV.int .u32) ([1779033703, 3144134277, 1013904242, 2773480762, 1359893119, 2600822924, 528734635, 1541459225] : List Int))), (4, AV.slc 0 0 1 ((v4 ++ ([IntKind.wrap .u8 (Int.fdiv (IntKind.wrap .u64 (IntKind.wrap .u64 (v0.length : Int) * 8)) (2 ^ (min ((IntKind.wrap .u64 (IntKind.wrap .i64 (8 * v3))).toNat) 64)))] : List Int)).length) false), (5, AV.int .u64 (IntKind.wrap .u64 (IntKind.wrap .u64 (v0.length : Int) * 8))), (6, Iz (IntKind.wrap .i64 (v3 - 1)))] [(0, .grow (List.map (AV.int .u8) (v4 ++ ([IntKind.wrap .u8 (Int.fdiv (IntKind.wrap .u64 (IntKind.wrap .u64 (v0.length : Int) * 8)) (2 ^ (min ((IntKind.wrap .u64 (IntKind.wrap .i64 (8 * v3))).toNat) 64)))] : List Int))))] 1 (by simp [F4] <;> omega) (by simp [F4]) ?_
   exact NX (k' := n2) ((IntKind.wrap .i64 (v3 - 1), v4 ++ ([IntKind.wrap .u8 (Int.fdiv (IntKind.wrap .u64 (IntKind.wrap .u64 (v0.length : Int) * 8)) (2 ^ (min ((IntKind.wrap .u64 (IntKind.wrap .i64 (8 * v3))).toNat) 64)))] : List Int))) hF (by simp [F4]) (by simp [F4])
  ·replace hF := ite_f h5 hF
   have h5_ := h5
   try simp at h5_
   have F5 := And.intro F2 (And.intro h5 h5_)
   refine CF (by simp [F5] <;> omega) ?_
   refine AW.exit ?_
   try simp
   refine hK295 _ _ _ ?_
   refine WK [(3, AV.lst false true (List.map (AV.int .u32) ([1779033703, 3144134277, 1013904242, 2773480762, 1359893119, 2600822924, 528734635, 1541459225] : List Int))), (4, AV.slc 0 0 1 v4.length false)] [(0, .grow (List.map (AV.int .u8) v4))] 1 (by simp [F5]) (by simp [F5]) ?_
   refine AW.frz 0 (o := .grow (List.map (AV.int .u8) v4)) (by simp [F5]) rfl [(4, Lb v4)] [] ⟨(.l (by simp) (by simp) (by simp) (by simp)), trivial⟩ trivial ?_
   refine WK [(3, AV.lst false true (List.map (AV.int .u32) ([1779033703, 3144134277, 1013904242, 2773480762, 1359893119, 2600822924, 528734635, 1541459225] : List Int))), (4, Lb v4)] [] 1 (by simp [F5]) (by simp [F5]) ?_
   refine SQ [] [none, none] fun _ _ g r => ?_
   try simp [F5]
   and_intros
   try any_goals first | omega | (simp [maxLen, F5] <;> omega)
   obtain ⟨v5, h8, hF⟩ := bnd1_elim hF
   refine AC (w_ref01_constants k _ h8) .nil ?_
   try simp [F5]
   and_intros <;> first | exact g _ (by kernel_rfl) | refine r _ _ _ ?_ | omega | (simp [maxLen, F5] <;> omega)
   refine WK [(3, AV.lst false true (List.map (AV.int .u32) ([1779033703, 3144134277, 1013904242, 2773480762, 1359893119, 2600822924, 528734635, 1541459225] : List Int))), (4, Lb v4), (7, Lw v5)] [] 1 (by simp [F5]) (by simp [F5]) ?_
   refine AW.seq fun K357 hK357 => ?_
   refine SQ [] [none] fun _ _ g r => ?_
   try simp [F5]
   and_intros <;> first | exact g _ (by kernel_rfl) | refine r _ _ _ ?_ | omega | (simp [maxLen, F5] <;> omega)
   refine WK [(3, AV.lst false true (List.map (AV.int .u32) ([1779033703, 3144134277, 1013904242, 2773480762, 1359893119, 2600822924, 528734635, 1541459225] : List Int))), (4, Lb v4), (7, Lw v5), (8, Iz 0)] [] 1 (by simp [F5]) (by simp [F5]) ?_
   refine AW.block ?_
   refine RM h0 [] [(3, AV.lst false true (List.map (AV.int .u32) ([1779033703, 3144134277, 1013904242, 2773480762, 1359893119, 2600822924, 528734635, 1541459225] : List Int))), (4, Lb v4), (7, Lw v5), (8, Iz 0)] [] 0 (by simp [F5]) (by simp [F5]) ?_
   refine AW.flg [(3, Lw ([1779033703, 3144134277, 1013904242, 2773480762, 1359893119, 2600822924, 528734635, 1541459225] : List Int))] [] ⟨(.lst (by simp)), trivial⟩ trivial (by simp) ?_
   refine AW.loopF (α := ((List Int) × Int)) (fun n (v6, v7) => ref01_Sum.L3 k v4 v5 n v6 v7 = some v1) (fun (v6, v7) => [(3, Lw v6), (4, Lb v4), (7, Lw v5), (8, Iz v7)]) (fun (v6, v7) => []) 0 k ((([1779033703, 3144134277, 1013904242, 2773480762, 1359893119, 2600822924, 528734635, 1541459225] : List Int), 0)) hF (by simp [F5]) (by simp [F5]) (by simp) ?_
   rintro (_|n3) ⟨v6, v7⟩ hF K380 hK380
   ·try dsimp only at hF
    rw [ref01_Sum.L3] at hF; cases hF
   try dsimp only at hF
   rw [ref01_Sum.L3] at hF
   refine AW.seq fun K382 hK382 => ?_
   refine SQ [] [none, none, none, none] fun _ _ g r => ?_
   try simp [F5]
   and_intros <;> first | exact g _ (by kernel_rfl) | refine r _ _ _ ?_ | omega | (simp [maxLen, F5] <;> omega)
   refine WK [(3, Lw v6), (4, Lb v4), (7, Lw v5), (8, Iz v7), (44, AV.bool (decide (v7 < (v4.length : Int))))] [] 0 (by simp [F5]) (by simp [F5]) ?_
   by_cases h9 : v7 < (v4.length : Int)
   ·replace hF := ite_t h9 hF
    have h9_ := h9
    try simp at h9_
    have F6 := And.intro F5 (And.intro h9 h9_)
    refine CT (by simp [F6] <;> omega) ?_
    refine AW.skip ?_
    refine hK382 _ _ _ ?_
    refine AW.seq fun K385 hK385 => ?_
    refine AW.block ?_
    refine RG [] [none, none, none, none, none, none, none, none, none] fun _ _ g r => ?_
    obtain ⟨⟨h10, h11, h12⟩, hF⟩ := chk_elim hF
    have h10_ := h10
    try simp at h10_
    have h11_ := h11
    try simp at h11_
    have h12_ := h12
    try simp at h12_
    have F7 := And.intro F6 (And.intro h10 (And.intro h11 (And.intro h12 (And.intro h10_ (And.intro h11_ h12_)))))
    try simp [F7]
    and_intros
    try any_goals first | omega | (simp [maxLen, F7] <;> omega)
    obtain ⟨v8, h13, hF⟩ := bnd1_elim hF
    refine AC (w_ref01_block k _ _ _ _ h13) (.cons (.same (by simp [F7])) (.cons (.same (by simp [F7])) (.cons (.same (by simp [F7])) .nil))) ?_
    try simp [F7]
    and_intros <;> first | exact g _ (by kernel_rfl) | refine r _ _ _ ?_ | omega | (simp [maxLen, F7] <;> omega)
    refine hK385 _ _ _ ?_
    refine WK [(3, AV.slc 0 0 1 v8.length false), (4, Lb v4), (7, Lw v5), (8, Iz v7)] [(0, .grow (List.map (AV.int .u32) v8))] 1 (by simp [F7]) (by simp [F7]) ?_
    refine AW.frz 0 (o := .grow (List.map (AV.int .u32) v8)) (by simp [F7]) rfl [(3, Lw v8)] [] ⟨(.l (by simp) (by simp) (by simp) (by simp)), trivial⟩ trivial ?_
    refine WK [(3, Lw v8), (4, Lb v4), (7, Lw v5), (8, Iz v7)] [] 1 (by simp [F7]) (by simp [F7]) ?_
    refine RG [] [none, none, none] fun _ _ g r => ?_
    try simp [F7]
    and_intros <;> first | exact g _ (by kernel_rfl) | refine r _ _ _ ?_ | omega | (simp [maxLen, F7] <;> omega)
    refine hK380 _ _ _ ?_
    refine RN h0 [] [(3, Lw v8), (4, Lb v4), (7, Lw v5), (8, Iz (IntKind.wrap .i64 (v7 + 64)))] [] 0 (by simp [F7]) (by simp [F7]) ?_
    exact NX (k' := n3) ((v8, IntKind.wrap .i64 (v7 + 64))) hF (by simp [F7]) (by simp [F7])
   ·replace hF := ite_f h9 hF
    have h9_ := h9
    try simp at h9_
    have F8 := And.intro F5 (And.intro h9 h9_)
    refine CF (by simp [F8] <;> omega) ?_
    refine AW.exit ?_
    try simp
    refine hK357 _ _ _ ?_
    refine SQ [] [none] fun _ _ g r => ?_
    try simp [F8]
    and_intros <;> first | exact g _ (by kernel_rfl) | refine r _ _ _ ?_ | omega | (simp [maxLen, F8] <;> omega)
    refine WK [(3, Lw v6), (9, AV.lst true true (List.map (AV.int .u8) ([] : List Int)))] [] 0 (by simp [F8]) (by simp [F8]) ?_
    refine AW.seq fun K419 hK419 => ?_
    refine SQ [] [none] fun _ _ g r => ?_
    try simp [F8]
    and_intros <;> first | exact g _ (by kernel_rfl) | refine r _ _ _ ?_ | omega | (simp [maxLen, F8] <;> omega)
    refine WK [(3, Lw v6), (9, AV.lst true true (List.map (AV.int .u8) ([] : List Int))), (10, Iz 0)] [] 0 (by simp [F8]) (by simp [F8]) ?_
    refine AW.block ?_
    refine AW.own' 9 1 true (by simp [F8]) (by decide) ?_
    refine AW.loopF (α := (Int × (List Int))) (fun n (v9, v10) => ref01_Sum.L4 k v6 n v9 v10 = some v1) (fun (v9, v10) => [(3, Lw v6), (9, AV.slc 0 0 1 v10.length false), (10, Iz v9)]) (fun (v9, v10) => [(0, .grow (List.map (AV.int .u8) v10))]) 1 k ((0, ([] : List Int))) hF (by simp [F8]) (by simp [F8]) (by simp) ?_
    rintro (_|n4) ⟨v9, v10⟩ hF K442 hK442
    ·try dsimp only at hF
     rw [ref01_Sum.L4] at hF; cases hF
    try dsimp only at hF
    rw [ref01_Sum.L4] at hF
    refine AW.seq fun K444 hK444 => ?_
    refine SQ [] [none, none] fun _ _ g r => ?_
    try simp [F8]
    and_intros <;> first | exact g _ (by kernel_rfl) | refine r _ _ _ ?_ | omega | (simp [maxLen, F8] <;> omega)
    refine WK [(3, Lw v6), (9, AV.slc 0 0 1 v10.length false), (10, Iz v9), (56, AV.bool (decide (v9 < 8)))] [(0, .grow (List.map (AV.int .u8) v10))] 1 (by simp [F8]) (by simp [F8]) ?_
    by_cases h14 : v9 < 8
    ·replace hF := ite_t h14 hF
     have h14_ := h14
     try simp at h14_
     have F9 := And.intro F8 (And.intro h14 h14_)
     refine CT (by simp [F9] <;> omega) ?_
     refine AW.skip ?_
     refine hK444 _ _ _ ?_
     refine AW.seq fun K447 hK447 => ?_
     refine AW.block ?_
     refine RG [] [none, none, none, none, none, none, none, none, none, none, none, none, none, none, none, none, none, none, none, none, none, none, none, none, none, none, none] fun _ _ g r => ?_
     obtain ⟨v11, h15, h16, h17, hF⟩ := idx_elim hF
     have h17_ := get_of h17
     try simp at h17_
     have h16_ := h16
     try simp at h16_
     obtain ⟨h18, hF⟩ := chk_elim hF
     have h18_ := h18
     try simp at h18_
     have F10 := And.intro F9 (And.intro h15 (And.intro h16 (And.intro h17 (And.intro h17_ (And.intro h16_ h18)))))
     try simp [F10]
     and_intros <;> first | exact g _ (by kernel_rfl) | refine r _ _ _ ?_ | omega | (simp [maxLen, F10] <;> omega)
     refine hK447 _ _ _ ?_
     refine WK [(3, Lw v6), (9, AV.slc 1 0 1 ((v10 ++ ([IntKind.wrap .u8 (Int.fdiv v11 (2 ^ (24))), IntKind.wrap .u8 (Int.fdiv v11 (2 ^ (16))), IntKind.wrap .u8 (Int.fdiv v11 (2 ^ (8))), IntKind.wrap .u8 v11] : List Int)).length) false), (10, Iz v9)] [(1, .grow (List.map (AV.int .u8) (v10 ++ ([IntKind.wrap .u8 (Int.fdiv v11 (2 ^ (24))), IntKind.wrap .u8 (Int.fdiv v11 (2 ^ (16))), IntKind.wrap .u8 (Int.fdiv v11 (2 ^ (8))), IntKind.wrap .u8 v11] : List Int))))] 2 (by simp [F10] <;> omega) (by simp [F10]) ?_
     refine RG [] [none, none, none] fun _ _ g r => ?_
     try simp [F10]
     and_intros <;> first | exact g _ (by kernel_rfl) | refine r _ _ _ ?_ | omega | (simp [maxLen, F10] <;> omega)
     refine hK442 _ _ _ ?_
     refine RN h0 [(0, 1)] [(3, Lw v6), (9, AV.slc 0 0 1 ((v10 ++ ([IntKind.wrap .u8 (Int.fdiv v11 (2 ^ (24))), IntKind.wrap .u8 (Int.fdiv v11 (2 ^ (16))), IntKind.wrap .u8 (Int.fdiv v11 (2 ^ (8))), IntKind.wrap .u8 v11] : List Int)).length) false), (10, Iz (IntKind.wrap .i64 (v9 + 1)))] [(0, .grow (List.map (AV.int .u8) (v10 ++ ([IntKind.wrap .u8 (Int.fdiv v11 (2 ^ (24))), IntKind.wrap .u8 (Int.fdiv v11 (2 ^ (16))), IntKind.wrap .u8 (Int.fdiv v11 (2 ^ (8))), IntKind.wrap .u8 v11] : List Int))))] 1 (by simp [F10] <;> omega) (by simp [F10]) ?_
     exact NX (k' := n4) ((IntKind.wrap .i64 (v9 + 1), v10 ++ ([IntKind.wrap .u8 (Int.fdiv v11 (2 ^ (24))), IntKind.wrap .u8 (Int.fdiv v11 (2 ^ (16))), IntKind.wrap .u8 (Int.fdiv v11 (2 ^ (8))), IntKind.wrap .u8 v11] : List Int))) hF (by simp [F10]) (by simp [F10])
    ·replace hF := ite_f h14 hF
     have h14_ := h14
     try simp at h14_
     have F11 := And.intro F8 (And.intro h14 h14_)
     refine CF (by simp [F11] <;> omega) ?_
     refine AW.exit ?_
     try simp
     refine hK419 _ _ _ ?_
     refine WK [(9, AV.slc 0 0 1 v10.length false)] [(0, .grow (List.map (AV.int .u8) v10))] 1 (by simp [F11]) (by simp [F11]) ?_
     refine AW.frz 0 (o := .grow (List.map (AV.int .u8) v10)) (by simp [F11]) rfl [(9, Lb v10)] [] ⟨(.l (by simp) (by simp) (by simp) (by simp)), trivial⟩ trivial ?_
     refine WK [(9, Lb v10)] [] 1 (by simp [F11]) (by simp [F11]) ?_
     refine SQ [] [none, none, none] fun _ _ g r => ?_
     try simp [F11]
     and_intros <;> first | exact g _ (by kernel_rfl) | refine r _ _ _ ?_ | omega | (simp [maxLen, F11] <;> omega)
     refine WK [(2, AV.str (ofI v10))] [] 1 (by simp [F11]) (by simp [F11]) ?_
     simp only [Option.some.injEq] at hF
     subst hF
     refine AW.ret (hQ _ _ _ ?_ (matchO_0 ?_)).1
     ·simp [Try.f15, F11]
     ·simp [F11]
theorem w_ref25_Numbers (k : Nat) (v0 : ByteArray) (v1 : (List Int)) (v2 : Int) (v3 : (List Int)) (v4 : Int) (hF : ref25_Numbers k v0 v1 v2 = some (v3, v4)) :
  FCall Try.prog 42 [AV.str v0, AV.lst false false (List.map (AV.int .i64) v1), AV.int .i64 v2] [] (AV.tup [AV.slc 0 0 1 v3.length false, AV.int .i64 v4]) [some (.grow (List.map (AV.int .i64) v3))] := by
 unfold ref25_Numbers at hF
 refine EN Try.func42 ?_
 intro c0 w0 Q h0 hQ
 refine WK [(0, AV.str v0), (1, Lz v1), (2, Iz v2)] [] 0 (by simp) (by simp) ?_
 refine SQ [] [none, none] fun _ _ g r => ?_
 try simp
 and_intros <;> first | exact g _ (by kernel_rfl) | refine r _ _ _ ?_ | omega | (simp [maxLen] <;> omega)
 refine WK [(0, AV.str v0), (1, Lz v1), (2, Iz v2)] [] 0 (by simp) (by simp) ?_
 refine AW.seq fun K101 hK101 => ?_
 refine SQ [] [none, none, none] fun _ _ g r => ?_
 try simp
 and_intros <;> first | exact g _ (by kernel_rfl) | refine r _ _ _ ?_ | omega | (simp [maxLen] <;> omega)
 refine WK [(0, AV.str v0), (1, Lz v1), (2, Iz v2), (13, AV.bool ((v0.size : Int) != 32))] [] 0 (by simp) (by simp) ?_
 by_cases h1 : (v0.size : Int) ≠ 32
 ·replace hF := ite_t h1 hF
  have h1_ := eqb_f h1
  have h1__ := neb_t h1
  have F1 := And.intro h1 (And.intro h1_ h1__)
  refine CT (by simp [F1] <;> omega) ?_
  refine SQ [] [none, none] fun _ _ g r => ?_
  try simp [F1]
  and_intros <;> first | exact g _ (by kernel_rfl) | refine r _ _ _ ?_ | omega | (simp [maxLen, F1] <;> omega)
  refine WK [(6, AV.lst true true (List.map (AV.int .i64) ([] : List Int))), (7, Iz 1)] [] 0 (by simp [F1]) (by simp [F1]) ?_
  refine AW.own' 6 1 true (by simp [F1]) (by decide) ?_
  simp only [Option.some.injEq, Prod.mk.injEq] at hF
  obtain ⟨e0, e1⟩ := hF
  subst e0 e1
  refine AW.ret (hQ _ _ _ ?_ (matchO_0 ?_)).1
  ·simp [Try.f42, F1]
  ·simp [F1]
 ·replace hF := ite_f h1 hF
  have h1q : (v0.size : Int) = 32 := Classical.not_not.1 h1
  have h1_ := eqb_t h1q
  have h1__ := neb_f h1q
  have F2 := And.intro h1_ (And.intro h1__ h1q)
  refine CF (by simp [F2] <;> omega) ?_
  refine AW.skip ?_
  refine hK101 _ _ _ ?_
  refine AW.seq fun K106 hK106 => ?_
  refine SQ [] [none, none, none] fun _ _ g r => ?_
  try simp [F2]
  and_intros <;> first | exact g _ (by kernel_rfl) | refine r _ _ _ ?_ | omega | (simp [maxLen, F2] <;> omega)
  refine WK [(0, AV.str v0), (1, Lz v1), (2, Iz v2), (16, AV.bool (decide (64 < (v1.length : Int))))] [] 0 (by simp [F2]) (by simp [F2]) ?_
  by_cases h2 : 64 < (v1.length : Int)
  ·replace hF := ite_t h2 hF
   have h2_ := h2
   try simp at h2_
   have F3 := And.intro F2 (And.intro h2 h2_)
   refine CT (by simp [F3] <;> omega) ?_
   refine SQ [] [none, none] fun _ _ g r => ?_
   try simp [F3]
   and_intros <;> first | exact g _ (by kernel_rfl) | refine r _ _ _ ?_ | omega | (simp [maxLen, F3] <;> omega)
   refine WK [(6, AV.lst true true (List.map (AV.int .i64) ([] : List Int))), (7, Iz 3)] [] 0 (by simp [F3]) (by simp [F3]) ?_
   refine AW.own' 6 1 true (by simp [F3]) (by decide) ?_
   simp only [Option.some.injEq, Prod.mk.injEq] at hF
   obtain ⟨e0, e1⟩ := hF
   subst e0 e1
   refine AW.ret (hQ _ _ _ ?_ (matchO_0 ?_)).1
   ·simp [Try.f42, F3]
   ·simp [F3]
  ·replace hF := ite_f h2 hF
   have h2_ := h2
   try simp at h2_
   have F4 := And.intro F2 (And.intro h2 h2_)
   refine CF (by simp [F4] <;> omega) ?_
   refine AW.skip ?_
   refine hK106 _ _ _ ?_
   refine AW.seq fun K112 hK112 => ?_
   refine SQ [] [none, none, none, some (19, false), some (19, false), none] fun _ _ g r => ?_
   by_cases h3 : v2 < 0
   ·replace hF := ite_t h3 hF
    have h3_ := h3
    try simp at h3_
    have F5 := And.intro F4 (And.intro h3 h3_)
    try simp [F5]
    and_intros <;> first | exact g _ (by kernel_rfl) | refine r _ _ _ ?_ | omega | (simp [maxLen, F5] <;> omega)
    refine WK [(0, AV.str v0), (1, Lz v1), (2, Iz v2), (22, AV.bool true)] [] 0 (by simp [F5]) (by simp [F5]) ?_
    refine CT (by simp [F5]) ?_
    refine SQ [] [none, none] fun _ _ g r => ?_
    try simp [F5]
    and_intros <;> first | exact g _ (by kernel_rfl) | refine r _ _ _ ?_ | omega | (simp [maxLen, F5] <;> omega)
    refine WK [(6, AV.lst true true (List.map (AV.int .i64) ([] : List Int))), (7, Iz 2)] [] 0 (by simp [F5]) (by simp [F5]) ?_
    refine AW.own' 6 1 true (by simp [F5]) (by decide) ?_
    simp only [Option.some.injEq, Prod.mk.injEq] at hF
    obtain ⟨e0, e1⟩ := hF
    subst e0 e1
    refine AW.ret (hQ _ _ _ ?_ (matchO_0 ?_)).1
    ·simp [Try.f42, F5]
    ·simp [F5]
   ·replace hF := ite_f h3 hF
    have h3_ := h3
    try simp at h3_
    have F6 := And.intro F4 (And.intro h3 h3_)
    try simp [F6]
    and_intros <;> first | exact g _ (by kernel_rfl) | refine r _ _ _ ?_ | omega | (simp [maxLen, F6] <;> omega)
    refine WK [(0, AV.str v0), (1, Lz v1), (2, Iz v2), (22, AV.bool (decide (64 < v2)))] [] 0 (by simp [F6]) (by simp [F6]) ?_
    by_cases h4 : 64 < v2
    ·replace hF := ite_t h4 hF
     have h4_ := h4
     try simp at h4_
     have F7 := And.intro F6 (And.intro h4 h4_)
     refine CT (by simp [F7] <;> omega) ?_
     refine SQ [] [none, none] fun _ _ g r => ?_
     try simp [F7]
     and_intros <;> first | exact g _ (by kernel_rfl) | refine r _ _ _ ?_ | omega | (simp [maxLen, F7] <;> omega)
     refine WK [(6, AV.lst true true (List.map (AV.int .i64) ([] : List Int))), (7, Iz 2)] [] 0 (by simp [F7]) (by simp [F7]) ?_
     refine AW.own' 6 1 true (by simp [F7]) (by decide) ?_
     simp only [Option.some.injEq, Prod.mk.injEq] at hF
     obtain ⟨e0, e1⟩ := hF
     subst e0 e1
     refine AW.ret (hQ _ _ _ ?_ (matchO_0 ?_)).1
     ·simp [Try.f42, F7]
     ·simp [F7]
    ·replace hF := ite_f h4 hF
     have h4_ := h4
     try simp at h4_
     have F8 := And.intro F6 (And.intro h4 h4_)
     refine CF (by simp [F8] <;> omega) ?_
     refine AW.skip ?_
     refine hK112 _ _ _ ?_
     refine SQ [] [none] fun _ _ g r => ?_
     try simp [F8]
     and_intros <;> first | exact g _ (by kernel_rfl) | refine r _ _ _ ?_ | omega | (simp [maxLen, F8] <;> omega)
     refine WK [(0, AV.str v0), (1, Lz v1), (2, Iz v2), (8, AV.lst true true (List.map (AV.int .i64) ([] : List Int)))] [] 0 (by simp [F8]) (by simp [F8]) ?_
     refine AW.seq fun K155 hK155 => ?_
     refine SQ [] [none] fun _ _ g r => ?_
     try simp [F8]
     and_intros <;> first | exact g _ (by kernel_rfl) | refine r _ _ _ ?_ | omega | (simp [maxLen, F8] <;> omega)
     refine WK [(0, AV.str v0), (1, Lz v1), (2, Iz v2), (8, AV.lst true true (List.map (AV.int .i64) ([] : List Int))), (9, Iz 0)] [] 0 (by simp [F8]) (by simp [F8]) ?_
     refine AW.block ?_
     refine AW.own' 8 1 true (by simp [F8]) (by decide) ?_
     refine AW.loopF (α := (Int × (List Int))) (fun n (v5, v6) => ref25_Numbers.L1 k v0 v1 v2 n v5 v6 = some (v3, v4)) (fun (v5, v6) => [(0, AV.str v0), (1, Lz v1), (2, Iz v2), (8, AV.slc 0 0 1 v6.length false), (9, Iz v5)]) (fun (v5, v6) => [(0, .grow (List.map (AV.int .i64) v6))]) 1 k ((0, ([] : List Int))) hF (by simp [F8]) (by simp [F8]) (by simp) ?_
     rintro (_|n1) ⟨v5, v6⟩ hF K184 hK184
     ·try dsimp only at hF
      rw [ref25_Numbers.L1] at hF; cases hF
     try dsimp only at hF
     rw [ref25_Numbers.L1] at hF
     refine AW.seq fun K186 hK186 => ?_
     refine SQ [] [none, none, none] fun _ _ g r => ?_
     try simp [F8]
     and_intros <;> first | exact g _ (by kernel_rfl) | refine r _ _ _ ?_ | omega | (simp [maxLen, F8] <;> omega)
     refine WK [(0, AV.str v0), (1, Lz v1), (2, Iz v2), (8, AV.slc 0 0 1 v6.length false), (9, Iz v5), (25, AV.bool (decide (v5 < v2)))] [(0, .grow (List.map (AV.int .i64) v6))] 1 (by simp [F8]) (by simp [F8]) ?_
     by_cases h5 : v5 < v2
     ·replace hF := ite_t h5 hF
      have h5_ := h5
      try simp at h5_
      have F9 := And.intro F8 (And.intro h5 h5_)
      refine CT (by simp [F9] <;> omega) ?_
      refine AW.skip ?_
      refine hK186 _ _ _ ?_
      refine AW.seq fun K190 hK190 => ?_
      refine AW.block ?_
      refine SQ [30] [none, none, none, none, none, none, none, none, none] fun _ _ g r => ?_
      obtain ⟨h6, hF⟩ := chk_elim hF
      have h6_ := h6
      try simp at h6_
      have F10 := And.intro F9 h6
      try simp [F10]
      and_intros
      try any_goals first | omega | (simp [maxLen, F10] <;> omega)
      obtain ⟨v7, h7, hF⟩ := bnd1_elim hF
      refine aCall_l (w_ref25_list k _ _ _ h7) (by simp) [1] [] [1] rfl (.cons (.same (by simp [F10])) (.cons (.same (by simp [F10])) .nil)) (by simp [F10]) (by decide) (by simp) (by simp) (.inl rfl) (by simp) (by simp) ?_
      try simp [F10]
      and_intros
      try any_goals first | omega | (simp [maxLen, F10] <;> omega)
      obtain ⟨v8, h8, hF⟩ := bnd1_elim hF
      refine aCall_l (w_ref25_number k _ _ _ h8) (by simp) [2] [] [2] rfl (.cons (.same (by simp [F10])) (.cons (.same (by simp [F10])) .nil)) (by simp [F10]) (by decide) (by simp) (by simp) (.inl rfl) (by simp) (by simp) ?_
      try simp [F10]
      and_intros
      try any_goals first | omega | (simp [maxLen, F10] <;> omega)
      obtain ⟨v9, h9, hF⟩ := bnd1_elim hF
      refine aCall_l (w_ref01_Sum k _ _ h9) (by simp) [] [3] [] rfl (.cons (Coe.l (o := .grow (List.map (AV.int .u8) v8)) (by simp [F10]) rfl (by simp [F10]) (by simp [noIdsL]) (by simp [F10]) (by simp [F10])) .nil) (by simp [F10]) (by decide) (by simp) (by simp) (.inr ⟨by simp, by simp⟩) (by simp) (by simp) ?_
      try simp [F10]
      and_intros <;> first | exact g _ (by kernel_rfl) | refine r _ _ _ ?_ | omega | (simp [maxLen, F10] <;> omega)
      refine WK [(0, AV.str v0), (1, Lz v1), (2, Iz v2), (8, AV.slc 0 0 1 v6.length false), (9, Iz v5), (10, AV.str v9)] [(0, .grow (List.map (AV.int .i64) v6))] 4 (by simp [F10]) (by simp [F10]) ?_
      refine RG [] [none, none, none, none, none, none, none, none, none, none, none, none, none, none, none, none, none, none, none, none, none, none] fun _ _ g r => ?_
      obtain ⟨v10, h10, h11, h12, hF⟩ := idx_elim hF
      have h12_ := get_of h12
      have h11_ := h11
      simp at h11_
      have h10_ := h10
      try simp at h10_
      have h12__ := h12_
      try simp [bI] at h12__
      have h12b := bI_at h12
      try simp at h12b
      obtain ⟨v11, h13, h14, h15, hF⟩ := idx_elim hF
      have h15_ := get_of h15
      have h14_ := h14
      simp at h14_
      have h13_ := h13
      try simp at h13_
      have h15__ := h15_
      try simp [bI] at h15__
      have h15b := bI_at h15
      try simp at h15b
      obtain ⟨v12, h16, h17, h18, hF⟩ := idx_elim hF
      have h18_ := get_of h18
      have h17_ := h17
      simp at h17_
      have h16_ := h16
      try simp at h16_
      have h18__ := h18_
      try simp [bI] at h18__
      have h18b := bI_at h18
      try simp at h18b
      obtain ⟨v13, h19, h20, h21, hF⟩ := idx_elim hF
      have h21_ := get_of h21
      have h20_ := h20
      simp at h20_
      have h19_ := h19
      try simp at h19_
      have h21__ := h21_
      try simp [bI] at h21__
      have h21b := bI_at h21
      try simp at h21b
      obtain ⟨h22, hF⟩ := chk_elim hF
      have h22_ := h22
      try simp at h22_
      have F11 := And.intro F10 (And.intro h10 (And.intro h10_ (And.intro h11_ (And.intro h12 (And.intro h12_ (And.intro h12__ (And.intro h12b (And.intro h13 (And.intro h13_ (And.intro h14_ (And.intro h15 (And.intro h15_ (And.intro h15__ (And.intro h15b (And.intro h16 (And.intro h16_ (And.intro h17_ (And.intro h18 (And.intro h18_ (And.intro h18__ (And.intro h18b (And.intro h19 (And.intro h19_ (And.intro h20_ (And.intro h21 (And.intro h21_ (And.intro h21__ (And.intro h21b h22))))))))))))))))))))))))))))
      try simp [F11]
      and_intros <;> first | exact g _ (by kernel_rfl) | refine r _ _ _ ?_ | omega | (simp [maxLen, F11] <;> omega)
      refine hK190 _ _ _ ?_
      refine WK [(0, AV.str v0), (1, Lz v1), (2, Iz v2), (8, AV.slc 4 0 1 ((v6 ++ ([bitsV .or .i64 (bitsV .or .i64 (bitsV .or .i64 (IntKind.wrap .i64 ((IntKind.wrap .i64 v10) * 2 ^ (24))) (IntKind.wrap .i64 ((IntKind.wrap .i64 v11) * 2 ^ (16)))) (IntKind.wrap .i64 ((IntKind.wrap .i64 v12) * 2 ^ (8)))) (IntKind.wrap .i64 v13)] : List Int)).length) false), (9, Iz v5)] [(4, .grow (List.map (AV.int .i64) (v6 ++ ([bitsV .or .i64 (bitsV .or .i64 (bitsV .or .i64 (IntKind.wrap .i64 ((IntKind.wrap .i64 v10) * 2 ^ (24))) (IntKind.wrap .i64 ((IntKind.wrap .i64 v11) * 2 ^ (16)))) (IntKind.wrap .i64 ((IntKind.wrap .i64 v12) * 2 ^ (8)))) (IntKind.wrap .i64 v13)] : List Int))))] 5 (by simp [F11] <;> omega) (by simp [F11]) ?_
      refine RG [] [none, none, none] fun _ _ g r => ?_
      try simp [F11]
      and_intros <;> first | exact g _ (by kernel_rfl) | refine r _ _ _ ?_ | omega | (simp [maxLen, F11] <;> omega)
      refine hK184 _ _ _ ?_
      refine RN h0 [(0, 4)] [(0, AV.str v0), (1, Lz v1), (2, Iz v2), (8, AV.slc 0 0 1 ((v6 ++ ([bitsV .or .i64 (bitsV .or .i64 (bitsV .or .i64 (IntKind.wrap .i64 ((IntKind.wrap .i64 v10) * 2 ^ (24))) (IntKind.wrap .i64 ((IntKind.wrap .i64 v11) * 2 ^ (16)))) (IntKind.wrap .i64 ((IntKind.wrap .i64 v12) * 2 ^ (8)))) (IntKind.wrap .i64 v13)] : List Int)).length) false), (9, Iz (IntKind.wrap .i64 (v5 + 1)))] [(0, .grow (List.map (AV.int .i64) (v6 ++ ([bitsV .or .i64 (bitsV .or .i64 (bitsV .or .i64 (IntKind.wrap .i64 ((IntKind.wrap .i64 v10) * 2 ^ (24))) (IntKind.wrap .i64 ((IntKind.wrap .i64 v11) * 2 ^ (16)))) (IntKind.wrap .i64 ((IntKind.wrap .i64 v12) * 2 ^ (8)))) (IntKind.wrap .i64 v13)] : List Int))))] 1 (by simp [F11] <;> omega) (by simp [F11]) ?_
      exact NX (k' := n1) ((IntKind.wrap .i64 (v5 + 1), v6 ++ ([bitsV .or .i64 (bitsV .or .i64 (bitsV .or .i64 (IntKind.wrap .i64 ((IntKind.wrap .i64 v10) * 2 ^ (24))) (IntKind.wrap .i64 ((IntKind.wrap .i64 v11) * 2 ^ (16)))) (IntKind.wrap .i64 ((IntKind.wrap .i64 v12) * 2 ^ (8)))) (IntKind.wrap .i64 v13)] : List Int))) hF (by simp [F11]) (by simp [F11])
     ·replace hF := ite_f h5 hF
      have h5_ := h5
      try simp at h5_
      have F12 := And.intro F8 (And.intro h5 h5_)
      refine CF (by simp [F12] <;> omega) ?_
      refine AW.exit ?_
      try simp
      refine hK155 _ _ _ ?_
      refine SQ [] [none, none, none] fun _ _ g r => ?_
      try simp [F12]
      and_intros <;> first | exact g _ (by kernel_rfl) | refine r _ _ _ ?_ | omega | (simp [maxLen, F12] <;> omega)
      refine WK [(6, AV.slc 0 0 1 v6.length false), (7, Iz 0)] [(0, .grow (List.map (AV.int .i64) v6))] 1 (by simp [F12]) (by simp [F12]) ?_
      simp only [Option.some.injEq, Prod.mk.injEq] at hF
      obtain ⟨e0, e1⟩ := hF
      subst e0 e1
      refine AW.ret (hQ _ _ _ ?_ (matchO_0 ?_)).1
      ·simp [Try.f42, F12]
      ·simp [F12]
end Go.TF
